/- A law of layer 19: the play. -/
import Derived.Test.YtnghegppcogdbaaLaws19e
namespace Go.Proofs.Ytnghegppcogdbaa.B
open Go
set_option linter.unusedVariables false

theorem fillL_len {a hi : Int} {g : Int → Int} : ∀ {S L : List (Int × Int)}, (fillL a hi g S L).1.length ≤ S.length
  | [], _ => Nat.le_refl _
  | x :: r, L => by
    unfold fillL
    split
    · have := fillL_len (a := a) (hi := hi) (g := g) (S := r) (L := (findL a hi L (g x.1)).2)
      simp only [List.length_cons]
      omega
    · simp

theorem lput_len {a z x q} (ho : LPo a z q) : (q.put a z x).1.1.length ≤ 16 := by
  have := okL_len ho.line
  unfold LP.put
  split
  · exact Nat.le_trans fillL_len this
  · simp

theorem ldrop_len {a z x q} (ho : LPo a z q) : (q.drop a z x).1.1.length ≤ 16 := by
  unfold LP.drop
  split
  · exact Nat.le_trans fillL_len (okL_len (rm_ok (task := x) ho).line)
  · simp

theorem lchange_ok {a z byPri q id pri} (h : LPo a z q) : LPo a z ⟨(chgL byPri q.S id pri).2, q.L, q.g⟩ := ⟨h.c, okL_chg h.line, h.ch, fun i hi => h.want i (chgL_ids.mem_iff.1 hi)⟩

set_option maxHeartbeats 2000000 in
theorem same_19 {e w b u byPri a z q x n} {J : TK [kB] → World → Prop} (h : Ok e [mplP b byPri a z q, rplP u byPri a z q, old e] w) (ho : LPo a z q) (hJ : ∀ w', Ok e [mplP b byPri a z q, rplP u byPri a z q, old e] w' → J (false, ()) w') :
    cl Pg 12 [.pointer (some ⟨b, 0, none⟩)] [kS] w fun (r44 : Sl × Unit) w45 =>
    cl Pg 27 [.pointer (some ⟨u, 0, none⟩)] [kS] w45 fun (r46 : Sl × Unit) w47 =>
    cl Pg 26 [vS r44.1, vS r46.1] [kB] w47 fun (r48 : Bool × Unit) w49 =>
    cs (!r48.1) (
    J (true, ()) w49) (
    nn (some ⟨b, 0, none⟩) fun b50 o51 =>
    ldP w49 b50 o51 fun p52 =>
    nn (some ⟨u, 0, none⟩) fun b53 o54 =>
    ldP w49 b53 o54 fun p55 =>
    cl Pg 28 [.pointer p52, .pointer p55] [kB] w49 fun (r56 : Bool × Unit) w57 =>
    cs (!r56.1) (
    J (true, ()) w57) (
    cl Pg 29 [.pointer (some ⟨b, 0, none⟩), .int .i64 x, .int .i64 n] [kB] w57 fun (r58 : Bool × Unit) w59 =>
    cl Pg 30 [.pointer (some ⟨u, 0, none⟩), .int .i64 x, .int .i64 n] [kB] w59 fun (r60 : Bool × Unit) w61 =>
    J (!(r58.1 == r60.1), ()) w61)) := by
  have l1 := okL_len ho.line
  have hlen := ho.len
  refine call12 (Held_mpl h ho fun s w3 hs h => ⟨(s, ()), rfl, ?_⟩)
  refine call27 (Held_ref19 (Ok.emb (h) (.cons (A := rplP u _ _ _ _) (by with_reducible first | exact sl0 | exact .there sl0 | exact .there sl1 | exact .there sl2 | exact .there sl3 | exact .there sl4 | exact .there sl5 | exact .there sl6 | exact .there sl7 | exact .there sl8 | exact .there sl9 | exact .there sl10 | exact .there sl11 | exact .there sl12) (.same _))) ho fun t w4 ht h => ⟨(t, ()), rfl, ?_⟩)
  refine call26 (Same_int (Ok.emb (h) (.cons (A := slc 1 s _) (by with_reducible first | exact sl0 | exact .there sl0 | exact .there sl1 | exact .there sl2 | exact .there sl3 | exact .there sl4 | exact .there sl5 | exact .there sl6 | exact .there sl7 | exact .there sl8 | exact .there sl9 | exact .there sl10 | exact .there sl11 | exact .there sl12) (.cons (A := slc 1 t _) (by with_reducible first | exact sl0 | exact .there sl0 | exact .there sl1 | exact .there sl2 | exact .there sl3 | exact .there sl4 | exact .there sl5 | exact .there sl6 | exact .there sl7 | exact .there sl8 | exact .there sl9 | exact .there sl10 | exact .there sl11 | exact .there sl12) (.same _)))) (by dsimp only; omega) fun w5 h => ⟨(true, ()), by simp [encK, Kd.enc, Lk.enc], ?_⟩)
  refine cs.no rfl ?_
  obtain ⟨p, s1, m, f, hf, hs1, h⟩ := mplE (Ok.emb (h) (.cons (A := mplP b _ _ _ _) (by with_reducible first | exact sl0 | exact .there sl0 | exact .there sl1 | exact .there sl2 | exact .there sl3 | exact .there sl4 | exact .there sl5 | exact .there sl6 | exact .there sl7 | exact .there sl8 | exact .there sl9 | exact .there sl10 | exact .there sl11 | exact .there sl12) (.same _)))
  obtain ⟨p2, s2, W, hf2, hs2, h⟩ := rplE (Ok.emb (h) (.cons (A := rplP u _ _ _ _) (by with_reducible first | exact sl0 | exact .there sl0 | exact .there sl1 | exact .there sl2 | exact .there sl3 | exact .there sl4 | exact .there sl5 | exact .there sl6 | exact .there sl7 | exact .there sl8 | exact .there sl9 | exact .there sl10 | exact .there sl11 | exact .there sl12) (.same _)))
  refine nn.mk (ldP.mk (by refine Ok.cellS h (by with_reducible first | exact sl0 | exact .there sl0 | exact .there sl1 | exact .there sl2 | exact .there sl3 | exact .there sl4 | exact .there sl5 | exact .there sl6 | exact .there sl7 | exact .there sl8 | exact .there sl9 | exact .there sl10 | exact .there sl11 | exact .there sl12) ?_; rfl) (nn.mk (ldP.mk (by refine Ok.cellS h (by with_reducible first | exact sl0 | exact .there sl0 | exact .there sl1 | exact .there sl2 | exact .there sl3 | exact .there sl4 | exact .there sl5 | exact .there sl6 | exact .there sl7 | exact .there sl8 | exact .there sl9 | exact .there sl10 | exact .there sl11 | exact .there sl12) ?_; rfl) ?_)))
  refine call28 (Same_4 (Ok.emb (h) (.cons (A := lineP p _ _) (by with_reducible first | exact sl0 | exact .there sl0 | exact .there sl1 | exact .there sl2 | exact .there sl3 | exact .there sl4 | exact .there sl5 | exact .there sl6 | exact .there sl7 | exact .there sl8 | exact .there sl9 | exact .there sl10 | exact .there sl11 | exact .there sl12) (.cons (A := refP p2 _ _) (by with_reducible first | exact sl0 | exact .there sl0 | exact .there sl1 | exact .there sl2 | exact .there sl3 | exact .there sl4 | exact .there sl5 | exact .there sl6 | exact .there sl7 | exact .there sl8 | exact .there sl9 | exact .there sl10 | exact .there sl11 | exact .there sl12) (.same _)))) (by omega) fun w6 h => ⟨(true, ()), rfl, ?_⟩)
  refine cs.no rfl ?_
  have h := mplI (q := q) (p := p) (s := s1) (m := m) hf (Ok.emb (h) (.cons (A := pts b _) (by with_reducible first | exact sl0 | exact .there sl0 | exact .there sl1 | exact .there sl2 | exact .there sl3 | exact .there sl4 | exact .there sl5 | exact .there sl6 | exact .there sl7 | exact .there sl8 | exact .there sl9 | exact .there sl10 | exact .there sl11 | exact .there sl12) (.cons (A := lineP p _ _) (by with_reducible first | exact sl0 | exact .there sl0 | exact .there sl1 | exact .there sl2 | exact .there sl3 | exact .there sl4 | exact .there sl5 | exact .there sl6 | exact .there sl7 | exact .there sl8 | exact .there sl9 | exact .there sl10 | exact .there sl11 | exact .there sl12) (.cons (A := slc 2 s1 _) (by with_reducible first | exact sl0 | exact .there sl0 | exact .there sl1 | exact .there sl2 | exact .there sl3 | exact .there sl4 | exact .there sl5 | exact .there sl6 | exact .there sl7 | exact .there sl8 | exact .there sl9 | exact .there sl10 | exact .there sl11 | exact .there sl12) (.cons (A := mpP m f) (by with_reducible first | exact sl0 | exact .there sl0 | exact .there sl1 | exact .there sl2 | exact .there sl3 | exact .there sl4 | exact .there sl5 | exact .there sl6 | exact .there sl7 | exact .there sl8 | exact .there sl9 | exact .there sl10 | exact .there sl11 | exact .there sl12) (.same _))))))
  have h := rplI (q := q) (p := p2) (s := s2) (W := W) hf2 (Ok.emb (h) (.cons (A := pts u _) (by with_reducible first | exact sl0 | exact .there sl0 | exact .there sl1 | exact .there sl2 | exact .there sl3 | exact .there sl4 | exact .there sl5 | exact .there sl6 | exact .there sl7 | exact .there sl8 | exact .there sl9 | exact .there sl10 | exact .there sl11 | exact .there sl12) (.cons (A := refP p2 _ _) (by with_reducible first | exact sl0 | exact .there sl0 | exact .there sl1 | exact .there sl2 | exact .there sl3 | exact .there sl4 | exact .there sl5 | exact .there sl6 | exact .there sl7 | exact .there sl8 | exact .there sl9 | exact .there sl10 | exact .there sl11 | exact .there sl12) (.cons (A := slc 2 s2 _) (by with_reducible first | exact sl0 | exact .there sl0 | exact .there sl1 | exact .there sl2 | exact .there sl3 | exact .there sl4 | exact .there sl5 | exact .there sl6 | exact .there sl7 | exact .there sl8 | exact .there sl9 | exact .there sl10 | exact .there sl11 | exact .there sl12) (.same _)))))
  refine call29 (Holds_mpl (Ok.emb (h) (.cons (A := mplP b _ _ _ _) (by with_reducible first | exact sl0 | exact .there sl0 | exact .there sl1 | exact .there sl2 | exact .there sl3 | exact .there sl4 | exact .there sl5 | exact .there sl6 | exact .there sl7 | exact .there sl8 | exact .there sl9 | exact .there sl10 | exact .there sl11 | exact .there sl12) (.same _))) ho fun w7 h => ⟨(decide (1 ≤ n) && holdsB q.L x n, ()), rfl, ?_⟩)
  refine call30 (Holds_ref19 (Ok.emb (h) (.cons (A := rplP u _ _ _ _) (by with_reducible first | exact sl0 | exact .there sl0 | exact .there sl1 | exact .there sl2 | exact .there sl3 | exact .there sl4 | exact .there sl5 | exact .there sl6 | exact .there sl7 | exact .there sl8 | exact .there sl9 | exact .there sl10 | exact .there sl11 | exact .there sl12) (.same _))) ho fun w8 h => ⟨(decide (1 ≤ n) && holdsB q.L x n, ()), rfl, ?_⟩)
  dsimp only
  rw [beq_self_eq_true]
  exact hJ _ (h.emb (by repeat' (first | with_reducible exact Emb.same _ | exact Emb.nil _ | refine Emb.cons (by with_reducible first | exact sl0 | exact .there sl0 | exact .there sl1 | exact .there sl2 | exact .there sl3 | exact .there sl4 | exact .there sl5 | exact .there sl6 | exact .there sl7 | exact .there sl8 | exact .there sl9 | exact .there sl10 | exact .there sl11 | exact .there sl12) ?_ | refine Emb.skip ?_)))

end Go.Proofs.Ytnghegppcogdbaa.B
