/- Contracts of the package mpl: finding, filling. -/
import Derived.Test.YtnghegppcogdbaaMpl
namespace Go.Proofs.Ytnghegppcogdbaa.B
open Go
set_option linter.unusedVariables false

/-- what a pool of any sizes has -/
structure LP where
  S : List (Int × Int)
  L : List (Int × Int)
  g : Int → Int

structure LPo (a z : Int) (q : LP) : Prop where
  c : 0 ≤ a ∧ 8 ≤ z ∧ a + z ≤ 65536
  line : okL q.S
  ch : chL (a + z) a q.L
  want : ∀ i ∈ ids q.S, 1 ≤ q.g i ∧ q.g i ≤ z - 8

theorem LPo.len {a z q} (h : LPo a z q) : q.L.length ≤ 4096 := by
  have := chL_le h.ch
  have := h.c
  omega

def heldF (S : List (Int × Int)) (g : Int → Int) (f : Int → Option Value) : Prop := ∀ i ∈ ids S, f i = some (.int .i64 (g i))

theorem mapT_ii : MapT Pg 43 (.int .i64 0) := .of (by kernel_rfl)

def mplP (b : Nat) (byPri : Bool) (a z : Int) (q : LP) : SP := fun h => ∃ p s m, ∃ f : Int → Option Value, heldF q.S q.g f ∧
  oksH [pts b [.pointer (some ⟨p, 0, none⟩), .int .i64 a, .int .i64 z, vS s, .map (some m)], lineP p [.bool byPri] q.S, slc 2 s (prs q.L), mpP m f] h

theorem mplE {e w L b byPri a z q} (h : Ok e (mplP b byPri a z q :: L) w) : ∃ p s m, ∃ f : Int → Option Value, heldF q.S q.g f ∧ s.len = q.L.length ∧
    Ok e (pts b [.pointer (some ⟨p, 0, none⟩), .int .i64 a, .int .i64 z, vS s, .map (some m)] :: lineP p [.bool byPri] q.S :: slc 2 s (prs q.L) :: mpP m f :: L) w := by
  obtain ⟨p, h⟩ := h.exE
  obtain ⟨s, h⟩ := h.exE
  obtain ⟨m, h⟩ := h.exE
  obtain ⟨f, h⟩ := h.exE
  obtain ⟨hf, h⟩ := h.pureE
  have h := h.unpack
  exact ⟨p, s, m, f, hf, slc_prs_len h.p2, h⟩

theorem mplI {e w L b byPri a z q p s m f} (hf : heldF q.S q.g f) (h : Ok e (pts b [.pointer (some ⟨p, 0, none⟩), .int .i64 a, .int .i64 z, vS s, .map (some m)] :: lineP p [.bool byPri] q.S :: slc 2 s (prs q.L) :: mpP m f :: L) w) : Ok e (mplP b byPri a z q :: L) w :=
  (Ok.pack (M := [pts b [.pointer (some ⟨p, 0, none⟩), .int .i64 a, .int .i64 z, vS s, .map (some m)], lineP p [.bool byPri] q.S, slc 2 s (prs q.L), mpP m f]) h).imp fun k hk => ⟨p, s, m, f, hf, hk⟩

set_option maxHeartbeats 1000000 in
theorem gap_mpl {e w L b byPri a z q R} {i : Nat} (h : Ok e (mplP b byPri a z q :: L) w) (ho : LPo a z q) (hi : i ≤ q.L.length)
    (k : ∀ w', Ok e (mplP b byPri a z q :: L) w' → R [.int .i64 (frL a q.L i), .int .i64 (toL (a + z) q.L i - frL a q.L i)] w') : sh34 (some ⟨b, 0, none⟩) i R w := by
  unfold sh34
  have hc := ho.c
  have hlen := ho.len
  have hg := chL_gap ho.ch hi
  obtain ⟨p, s, m, f, hf, hs, h⟩ := mplE h
  (repeat (first | with_reducible refine dr.mk h fun _ h => ?_ | with_reducible refine nn.mk ?_ | ((first | with_reducible apply ldI.mk | with_reducible apply ldB.mk | with_reducible apply ldP.mk | with_reducible apply ldS.mk | with_reducible apply ldM.mk | with_reducible apply ldF.mk | with_reducible apply ldG.mk); (· exact (by refine Ok.cellS h (by with_reducible first | exact sl0 | exact .there sl0 | exact .there sl1 | exact .there sl2 | exact .there sl3 | exact .there sl4 | exact .there sl5 | exact .there sl6 | exact .there sl7 | exact .there sl8 | exact .there sl9 | exact .there sl10 | exact .there sl11 | exact .there sl12) ?_; rfl))) | (refine st1.mk (Ok.bring h (by with_reducible first | exact sl0 | exact .there sl0 | exact .there sl1 | exact .there sl2 | exact .there sl3 | exact .there sl4 | exact .there sl5 | exact .there sl6 | exact .there sl7 | exact .there sl8 | exact .there sl9 | exact .there sl10 | exact .there sl11 | exact .there sl12)) (by simp) fun _ h => ?_; dsimp only [List.set] at h)))
  refine jn.at (frL a q.L i, ()) (fun w' => Ok e (pts b [.pointer (some ⟨p, 0, none⟩), .int .i64 a, .int .i64 z, vS s, .map (some m)] :: lineP p [.bool byPri] q.S :: slc 2 s (prs q.L) :: mpP m f :: L) w') (fun J hJ => ?_) (fun w1 h => ?_)
  · cases i with
    | zero =>
      rw [frL_zero] at hJ
      exact cs.no rfl (hJ _ h)
    | succ i =>
      refine cs.yes (decide_eq_true (by omega)) (dr.mk h fun w2 h => ?_)
      rw [w64_in (x := ((i + 1 : Nat) : Int) - 1) (by omega) (by omega), show ((i + 1 : Nat) : Int) - 1 = (i : Int) by omega]
      refine nn.mk (ldS.mk (by refine Ok.cellS h (by with_reducible first | exact sl0 | exact .there sl0 | exact .there sl1 | exact .there sl2 | exact .there sl3 | exact .there sl4 | exact .there sl5 | exact .there sl6 | exact .there sl7 | exact .there sl8 | exact .there sl9 | exact .there sl10 | exact .there sl11 | exact .there sl12) ?_; rfl) ?_)
      refine ix_pr (Ok.emb (h) (.cons (A := slc 2 s (prs q.L)) (by with_reducible first | exact sl0 | exact .there sl0 | exact .there sl1 | exact .there sl2 | exact .there sl3 | exact .there sl4 | exact .there sl5 | exact .there sl6 | exact .there sl7 | exact .there sl8 | exact .there sl9 | exact .there sl10 | exact .there sl11 | exact .there sl12) (.same _))) (Int.natCast_nonneg _) (by omega) fun c o y hy ha1 ho1 c1 c2 => ?_
      rw [Int.toNat_natCast] at hy
      refine ldI.mk (c1 _ ⟨_, (Ok.emb (h) (.cons (A := slc 2 s (prs q.L)) (by with_reducible first | exact sl0 | exact .there sl0 | exact .there sl1 | exact .there sl2 | exact .there sl3 | exact .there sl4 | exact .there sl5 | exact .there sl6 | exact .there sl7 | exact .there sl8 | exact .there sl9 | exact .there sl10 | exact .there sl11 | exact .there sl12) (.same _)))⟩) (nn.mk (ldS.mk (by refine Ok.cellS h (by with_reducible first | exact sl0 | exact .there sl0 | exact .there sl1 | exact .there sl2 | exact .there sl3 | exact .there sl4 | exact .there sl5 | exact .there sl6 | exact .there sl7 | exact .there sl8 | exact .there sl9 | exact .there sl10 | exact .there sl11 | exact .there sl12) ?_; rfl) ?_))
      refine ix_pr (Ok.emb (h) (.cons (A := slc 2 s (prs q.L)) (by with_reducible first | exact sl0 | exact .there sl0 | exact .there sl1 | exact .there sl2 | exact .there sl3 | exact .there sl4 | exact .there sl5 | exact .there sl6 | exact .there sl7 | exact .there sl8 | exact .there sl9 | exact .there sl10 | exact .there sl11 | exact .there sl12) (.same _))) (Int.natCast_nonneg _) (by omega) fun c' o' y' hy' ha2 ho2 c3 c4 => ?_
      rw [Int.toNat_natCast, hy] at hy'
      cases hy'
      refine ldI.mk (c4 _ ⟨_, (Ok.emb (h) (.cons (A := slc 2 s (prs q.L)) (by with_reducible first | exact sl0 | exact .there sl0 | exact .there sl1 | exact .there sl2 | exact .there sl3 | exact .there sl4 | exact .there sl5 | exact .there sl6 | exact .there sl7 | exact .there sl8 | exact .there sl9 | exact .there sl10 | exact .there sl11 | exact .there sl12) (.same _)))⟩) ?_
      have hm := chL_mem ho.ch (List.mem_of_getElem? hy)
      have ht := tk_ge (n := y.2) (by omega)
      refine call63 (takes_mpl h (by omega) fun w3 h => ⟨(tk y.2, ()), rfl, c1 _ ⟨_, (Ok.emb (h) (.cons (A := slc 2 s (prs q.L)) (by with_reducible first | exact sl0 | exact .there sl0 | exact .there sl1 | exact .there sl2 | exact .there sl3 | exact .there sl4 | exact .there sl5 | exact .there sl6 | exact .there sl7 | exact .there sl8 | exact .there sl9 | exact .there sl10 | exact .there sl11 | exact .there sl12) (.same _)))⟩, (by refine Ok.cellS h (by with_reducible first | exact sl0 | exact .there sl0 | exact .there sl1 | exact .there sl2 | exact .there sl3 | exact .there sl4 | exact .there sl5 | exact .there sl6 | exact .there sl7 | exact .there sl8 | exact .there sl9 | exact .there sl10 | exact .there sl11 | exact .there sl12) ?_; rfl), ?_⟩)
      clear c1 c2 c3 c4
      dsimp only
      rw [w64_in (x := y.1 + tk y.2) (by omega) (by omega)]
      rw [frL_at hy] at hJ
      exact hJ _ h
  refine nn.mk (ldS.mk (by refine Ok.cellS h (by with_reducible first | exact sl0 | exact .there sl0 | exact .there sl1 | exact .there sl2 | exact .there sl3 | exact .there sl4 | exact .there sl5 | exact .there sl6 | exact .there sl7 | exact .there sl8 | exact .there sl9 | exact .there sl10 | exact .there sl11 | exact .there sl12) ?_; rfl) ?_)
  refine jn.at (toL (a + z) q.L i, ()) (fun w' => w1 = w') (fun J hJ => cs.mk (fun h1 => ?_) (fun h1 => ?_)) (fun w2 hw2 => ?_)
  · have h1 : i < q.L.length := by have := of_decide_eq_true h1; omega
    refine nn.mk (ldS.mk (by refine Ok.cellS h (by with_reducible first | exact sl0 | exact .there sl0 | exact .there sl1 | exact .there sl2 | exact .there sl3 | exact .there sl4 | exact .there sl5 | exact .there sl6 | exact .there sl7 | exact .there sl8 | exact .there sl9 | exact .there sl10 | exact .there sl11 | exact .there sl12) ?_; rfl) ?_)
    refine ix_pr (Ok.emb (h) (.cons (A := slc 2 s (prs q.L)) (by with_reducible first | exact sl0 | exact .there sl0 | exact .there sl1 | exact .there sl2 | exact .there sl3 | exact .there sl4 | exact .there sl5 | exact .there sl6 | exact .there sl7 | exact .there sl8 | exact .there sl9 | exact .there sl10 | exact .there sl11 | exact .there sl12) (.same _))) (Int.natCast_nonneg _) (by omega) fun c o y hy ha1 ho1 c1 c2 => ldI.mk (c1 _ ⟨_, (Ok.emb (h) (.cons (A := slc 2 s (prs q.L)) (by with_reducible first | exact sl0 | exact .there sl0 | exact .there sl1 | exact .there sl2 | exact .there sl3 | exact .there sl4 | exact .there sl5 | exact .there sl6 | exact .there sl7 | exact .there sl8 | exact .there sl9 | exact .there sl10 | exact .there sl11 | exact .there sl12) (.same _)))⟩) ?_
    rw [Int.toNat_natCast] at hy
    rw [toL_at hy] at hJ
    exact hJ _ rfl
  · have h1 : q.L.length ≤ i := by have := of_decide_eq_false h1; omega
    rw [w64_in (by omega) (by omega)]
    rw [toL_end h1] at hJ
    exact hJ _ rfl
  subst hw2
  dsimp only
  rw [w64_in (by omega) (by omega)]
  exact k w1 (mplI (p := p) (s := s) (m := m) (f := f) hf h)

def LP.find (a z : Int) (q : LP) (n : Int) : (Int × Bool) × LP := ((findL a (a + z) q.L n).1, ⟨q.S, (findL a (a + z) q.L n).2, q.g⟩)

theorem find_ok {a z n q} (hn : 1 ≤ n) (h : LPo a z q) : LPo a z (q.find a z n).2 := ⟨h.c, h.line, findL_ok hn h.ch, h.want⟩

set_option maxHeartbeats 1000000 in
theorem find_mpl {e w L b byPri a z q n R} (h : Ok e (mplP b byPri a z q :: L) w) (ho : LPo a z q) (hn : 1 ≤ n ∧ n ≤ z - 8)
    (k : ∀ w', Ok e (mplP b byPri a z (q.find a z n).2 :: L) w' → R [.int .i64 (q.find a z n).1.1, .bool (q.find a z n).1.2] w') : sh33 (some ⟨b, 0, none⟩) n R w := by
  unfold sh33
  have hc := ho.c
  have hlen := ho.len
  have h0 := h
  obtain ⟨p, s, m, f, hf, hs, h⟩ := mplE h
  refine nn.mk (ldS.mk (by refine Ok.cellS h (by with_reducible first | exact sl0 | exact .there sl0 | exact .there sl1 | exact .there sl2 | exact .there sl3 | exact .there sl4 | exact .there sl5 | exact .there sl6 | exact .there sl7 | exact .there sl8 | exact .there sl9 | exact .there sl10 | exact .there sl11 | exact .there sl12) ?_; rfl) ?_)
  clear h
  have hw0 : w64 ((s.len : Int) + 1) = ((q.L.length + 1 : Nat) : Int) := by rw [w64_in (by omega) (by omega)]; omega
  rw [hw0]
  refine lp.mk (fun t w' => ∃ i : Nat, t.1 = (i : Int) ∧ i ≤ q.L.length + 1 ∧ fitL a (a + z) q.L n = fitF a (a + z) q.L n (q.L.length + 1 - i) i ∧ Ok e (mplP b byPri a z q :: L) w') (fun t _ => q.L.length + 1 - t.1.toNat) ⟨0, rfl, Nat.zero_le _, rfl, h0⟩ ?_
  clear h0
  rintro ⟨i', _⟩ w1 ⟨i, hi, hi1, hfit, h⟩
  dsimp only at hi
  subst hi
  refine cs.mk (fun hlt => ?_) (fun hge => ?_)
  · have hlt : i ≤ q.L.length := by have := of_decide_eq_true hlt; dsimp only at this; omega
    have hw : w64 ((i : Int) + 1) = ((i + 1 : Nat) : Int) := by rw [w64_in (by omega) (by omega)]; rfl
    have hg := chL_gap ho.ch hlt
    refine call34 (gap_mpl h ho hlt fun w2 h => ⟨(frL a q.L i, toL (a + z) q.L i - frL a q.L i, ()), rfl, ?_⟩)
    refine call63 (takes_mpl h (by omega) fun w3 h => ⟨(tk n, ()), rfl, ?_⟩)
    dsimp only
    rw [hw]
    rw [show q.L.length + 1 - i = (q.L.length - i) + 1 by omega, fitF] at hfit
    refine cs.mk (fun h1 => ?_) (fun h1 => ?_)
    · have h1 : tk n ≤ toL (a + z) q.L i - frL a q.L i := of_decide_eq_true h1
      rw [if_pos h1] at hfit
      unfold LP.find findL at k
      rw [hfit] at k
      dsimp only at k
      obtain ⟨p, s, m, f, hf, hs, h⟩ := mplE h
      refine nn.mk (ldS.mk (by refine Ok.cellS h (by with_reducible first | exact sl0 | exact .there sl0 | exact .there sl1 | exact .there sl2 | exact .there sl3 | exact .there sl4 | exact .there sl5 | exact .there sl6 | exact .there sl7 | exact .there sl8 | exact .there sl9 | exact .there sl10 | exact .there sl11 | exact .there sl12) ?_; rfl) ?_)
      refine al.mk h fun c w4 h => ?_
      refine call64 (Insert_block1 (y := (frL a q.L i, n)) (Ok.emb (h) (.cons (A := pts c _) (by with_reducible first | exact sl0 | exact .there sl0 | exact .there sl1 | exact .there sl2 | exact .there sl3 | exact .there sl4 | exact .there sl5 | exact .there sl6 | exact .there sl7 | exact .there sl8 | exact .there sl9 | exact .there sl10 | exact .there sl11 | exact .there sl12) (.cons (A := slc 2 s _) (by with_reducible first | exact sl0 | exact .there sl0 | exact .there sl1 | exact .there sl2 | exact .there sl3 | exact .there sl4 | exact .there sl5 | exact .there sl6 | exact .there sl7 | exact .there sl8 | exact .there sl9 | exact .there sl10 | exact .there sl11 | exact .there sl12) (.same _)))) hlt (by omega) fun s' w5 h => ⟨(s', ()), rfl, ?_⟩)
      dsimp only
      refine nn.mk (st1.mk (Ok.emb (h) (.cons (A := pts b _) (by with_reducible first | exact sl0 | exact .there sl0 | exact .there sl1 | exact .there sl2 | exact .there sl3 | exact .there sl4 | exact .there sl5 | exact .there sl6 | exact .there sl7 | exact .there sl8 | exact .there sl9 | exact .there sl10 | exact .there sl11 | exact .there sl12) (.same _))) (by simp) fun w6 h => ?_)
      dsimp only [List.set, List.tail_cons, List.tail_nil, List.head?_cons, List.head?_nil, Option.getD_some, Option.getD_none] at h
      rw [w64_in (by omega) (by omega)]
      exact k w6 (mplI (q := ⟨q.S, q.L.take i ++ [(frL a q.L i, n)] ++ q.L.drop i, q.g⟩) (p := p) (s := s') (m := m) (f := f) hf (h.emb (by repeat' (first | with_reducible exact Emb.same _ | exact Emb.nil _ | refine Emb.cons (by with_reducible first | exact sl0 | exact .there sl0 | exact .there sl1 | exact .there sl2 | exact .there sl3 | exact .there sl4 | exact .there sl5 | exact .there sl6 | exact .there sl7 | exact .there sl8 | exact .there sl9 | exact .there sl10 | exact .there sl11 | exact .there sl12) ?_ | refine Emb.skip ?_))))
    · have h1 : ¬ tk n ≤ toL (a + z) q.L i - frL a q.L i := of_decide_eq_false h1
      rw [if_neg h1] at hfit
      refine ⟨⟨i + 1, rfl, by omega, by rw [hfit]; congr 1; omega, h⟩, ?_⟩
      show q.L.length + 1 - Int.toNat ((i + 1 : Nat) : Int) < q.L.length + 1 - Int.toNat (i : Int)
      omega
  · have hge : q.L.length + 1 ≤ i := by have := of_decide_eq_false hge; dsimp only at this; omega
    rw [show q.L.length + 1 - i = 0 by omega, fitF] at hfit
    unfold LP.find findL at k
    rw [hfit] at k
    exact k w1 h

theorem may_mpl {e w L b byPri a z q n R} (h : Ok e (mplP b byPri a z q :: L) w) (ho : LPo a z q)
    (k : R [.bool (decide (1 ≤ n ∧ n ≤ z - 8))] w) : sh32 (some ⟨b, 0, none⟩) n R w := by
  unfold sh32
  have hc := ho.c
  obtain ⟨p, s, m, f, hf, hs, h⟩ := mplE h
  refine jn.bool (decide (1 ≤ n ∧ n ≤ z - 8)) (fun J hJ => ?_) ?_
  · refine cs.mk (fun h1 => ?_) (fun h1 => ?_)
    · have h1 := of_decide_eq_true h1
      refine nn.mk (ldI.mk (by refine Ok.cellS h (by with_reducible first | exact sl0 | exact .there sl0 | exact .there sl1 | exact .there sl2 | exact .there sl3 | exact .there sl4 | exact .there sl5 | exact .there sl6 | exact .there sl7 | exact .there sl8 | exact .there sl9 | exact .there sl10 | exact .there sl11 | exact .there sl12) ?_; rfl) ?_)
      rw [w64_in (x := z - 8) (by omega) (by omega)]
      rw [show decide (1 ≤ n ∧ n ≤ z - 8) = decide (n ≤ z - 8) from decide_eq_decide.2 (by omega)] at hJ
      exact hJ
    · have h1 := of_decide_eq_false h1
      rw [decide_eq_false (by omega)] at hJ
      exact hJ
  exact k

def LP.poll (a z : Int) (q : LP) (n : Int) : (Int × Bool × Int) × LP :=
  if 1 ≤ n ∧ n ≤ z - 8 then (((q.find a z n).1.1, (q.find a z n).1.2, 0), (q.find a z n).2) else ((0, false, -17), q)

theorem lpoll_ok {a z n q} (h : LPo a z q) : LPo a z (q.poll a z n).2 := by
  unfold LP.poll
  split
  · next h1 => exact find_ok h1.1 h
  · exact h

theorem Poll_mpl {e w L b byPri a z q n R} (h : Ok e (mplP b byPri a z q :: L) w) (ho : LPo a z q)
    (k : ∀ w', Ok e (mplP b byPri a z (q.poll a z n).2 :: L) w' → R [.int .i64 (q.poll a z n).1.1, .bool (q.poll a z n).1.2.1, .int .i64 (q.poll a z n).1.2.2] w') : sh9 (some ⟨b, 0, none⟩) n R w := by
  unfold sh9
  unfold LP.poll at k
  refine call32 (may_mpl h ho ⟨(decide (1 ≤ n ∧ n ≤ z - 8), ()), rfl, ?_⟩)
  dsimp only
  refine cs.mk (fun h1 => ?_) (fun h1 => ?_)
  · have h1 : ¬ (1 ≤ n ∧ n ≤ z - 8) := by rw [Bool.not_eq_true'] at h1; exact of_decide_eq_false h1
    rw [if_neg h1] at k
    exact k w h
  · have h1 : 1 ≤ n ∧ n ≤ z - 8 := by rw [Bool.not_eq_false'] at h1; exact of_decide_eq_true h1
    rw [if_pos h1] at k
    exact call33 (find_mpl h ho h1 fun w2 h => ⟨((q.find a z n).1.1, (q.find a z n).1.2, ()), rfl, k w2 h⟩)

end Go.Proofs.Ytnghegppcogdbaa.B
