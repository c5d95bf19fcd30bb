/- Contracts of the package mpl: what is had. -/
import Derived.Test.YtnghegppcogdbaaMpl4
namespace Go.Proofs.Ytnghegppcogdbaa.B
open Go
set_option linter.unusedVariables false

def heldB (l : List (Int × Int)) : List Int := l.map fun b => b.1 + 8

theorem ints_snoc (D : List Int) (d : Int) : ints D ++ [Value.int .i64 d] = ints (D ++ [d]) := by simp [ints]

theorem slc_ints_len {e w L s D} (h : Ok e (slc 1 s (ints D) :: L) w) : D.length = s.len := by
  have := h.slc_len
  rw [ints_len] at this
  omega

set_option maxHeartbeats 1000000 in
theorem Held_mpl {e w L b byPri a z q R} (h : Ok e (mplP b byPri a z q :: L) w) (ho : LPo a z q)
    (k : ∀ r w', r.len = q.L.length → Ok e (slc 1 r (ints (heldB q.L)) :: mplP b byPri a z q :: L) w' → R [vS r] w') : sh12 (some ⟨b, 0, none⟩) R w := by
  unfold sh12
  have hc := ho.c
  have hlen := ho.len
  obtain ⟨p, s, m, f, hf, hs, h⟩ := mplE h
  refine nn.mk (ldS.mk (by refine Ok.cellS h (by with_reducible first | exact sl0 | exact .there sl0 | exact .there sl1 | exact .there sl2 | exact .there sl3 | exact .there sl4 | exact .there sl5 | exact .there sl6 | exact .there sl7 | exact .there sl8 | exact .there sl9 | exact .there sl10 | exact .there sl11 | exact .there sl12) ?_; rfl) ?_)
  have h := h.slcNil 1
  refine lp.mk (fun t w' => ∃ i : Nat, t.2.1 = (i : Int) ∧ i ≤ q.L.length ∧ Ok e (slc 1 t.1 (ints (heldB (q.L.take i))) :: pts b [.pointer (some ⟨p, 0, none⟩), .int .i64 a, .int .i64 z, vS s, .map (some m)] :: lineP p [.bool byPri] q.S :: slc 2 s (prs q.L) :: mpP m f :: L) w') (fun t _ => q.L.length - t.2.1.toNat) ⟨0, rfl, Nat.zero_le _, h⟩ ?_
  clear h
  rintro ⟨so, i', _⟩ w1 ⟨i, hi, hi1, h⟩
  dsimp only at hi h
  subst hi
  have hso := slc_ints_len h
  unfold heldB at hso
  rw [List.length_map, List.length_take] at hso
  refine cs.mk (fun hlt => ?_) (fun hge => ?_)
  · have hlt : i < q.L.length := by have := of_decide_eq_true hlt; dsimp only at this; omega
    have hw : w64 ((i : Int) + 1) = ((i + 1 : Nat) : Int) := by rw [w64_in (by omega) (by omega)]; rfl
    dsimp only
    refine ix_pr (Ok.emb (h) (.cons (A := slc 2 s (prs q.L)) (by with_reducible first | exact sl0 | exact .there sl0 | exact .there sl1 | exact .there sl2 | exact .there sl3 | exact .there sl4 | exact .there sl5 | exact .there sl6 | exact .there sl7 | exact .there sl8 | exact .there sl9 | exact .there sl10 | exact .there sl11 | exact .there sl12) (.same _))) (Int.natCast_nonneg _) (by omega) fun c o y hy ha1 ho1 c1 c2 => ?_
    rw [Int.toNat_natCast] at hy
    refine ldI.mk (c1 _ ⟨_, (Ok.emb (h) (.cons (A := slc 2 s (prs q.L)) (by with_reducible first | exact sl0 | exact .there sl0 | exact .there sl1 | exact .there sl2 | exact .there sl3 | exact .there sl4 | exact .there sl5 | exact .there sl6 | exact .there sl7 | exact .there sl8 | exact .there sl9 | exact .there sl10 | exact .there sl11 | exact .there sl12) (.same _)))⟩) (ldI.mk (c2 _ ⟨_, (Ok.emb (h) (.cons (A := slc 2 s (prs q.L)) (by with_reducible first | exact sl0 | exact .there sl0 | exact .there sl1 | exact .there sl2 | exact .there sl3 | exact .there sl4 | exact .there sl5 | exact .there sl6 | exact .there sl7 | exact .there sl8 | exact .there sl9 | exact .there sl10 | exact .there sl11 | exact .there sl12) (.same _)))⟩) ?_)
    clear c1 c2
    have hm := chL_mem ho.ch (List.mem_of_getElem? hy)
    have ht := tk_ge (n := y.2) (by omega)
    refine al.mk h fun c w2 h => st1.mk h (by simp) fun w3 h => st1.mk h (by simp) fun w4 h => ?_
    dsimp only [List.set, List.tail_cons, List.tail_nil, List.head?_cons, List.head?_nil, Option.getD_some, Option.getD_none] at h
    refine ldI.mk (by refine Ok.cellS h (by with_reducible first | exact sl0 | exact .there sl0 | exact .there sl1 | exact .there sl2 | exact .there sl3 | exact .there sl4 | exact .there sl5 | exact .there sl6 | exact .there sl7 | exact .there sl8 | exact .there sl9 | exact .there sl10 | exact .there sl11 | exact .there sl12) ?_; rfl) ?_
    rw [w64_in (x := y.1 + 8) (by omega) (by omega), hw]
    refine al.mk h fun c2 w5 h => ?_
    refine ef.append1 (n := 1) slT_int (by decide) (Ok.emb (h) (.cons (A := pts c2 _) (by with_reducible first | exact sl0 | exact .there sl0 | exact .there sl1 | exact .there sl2 | exact .there sl3 | exact .there sl4 | exact .there sl5 | exact .there sl6 | exact .there sl7 | exact .there sl8 | exact .there sl9 | exact .there sl10 | exact .there sl11 | exact .there sl12) (.cons (A := slc 1 so _) (by with_reducible first | exact sl0 | exact .there sl0 | exact .there sl1 | exact .there sl2 | exact .there sl3 | exact .there sl4 | exact .there sl5 | exact .there sl6 | exact .there sl7 | exact .there sl8 | exact .there sl9 | exact .there sl10 | exact .there sl11 | exact .there sl12) (.same _)))) rfl (by intro v hv; simp at hv; subst hv; rfl) (by omega) fun s2 w7 hl2 h => ?_
    rw [ints_snoc] at h
    refine ⟨⟨i + 1, rfl, hlt, ?_⟩, ?_⟩
    · rw [show heldB (q.L.take (i + 1)) = heldB (q.L.take i) ++ [y.1 + 8] by rw [List.take_add_one, hy]; simp [heldB]]
      exact (h.emb (by repeat' (first | with_reducible exact Emb.same _ | exact Emb.nil _ | refine Emb.cons (by with_reducible first | exact sl0 | exact .there sl0 | exact .there sl1 | exact .there sl2 | exact .there sl3 | exact .there sl4 | exact .there sl5 | exact .there sl6 | exact .there sl7 | exact .there sl8 | exact .there sl9 | exact .there sl10 | exact .there sl11 | exact .there sl12) ?_ | refine Emb.skip ?_)))
    · show q.L.length - Int.toNat ((i + 1 : Nat) : Int) < q.L.length - Int.toNat (i : Int)
      omega
  · have hge : q.L.length ≤ i := by have := of_decide_eq_false hge; dsimp only at this; omega
    rw [List.take_of_length_le hge] at h
    refine call39 (Clip_int h fun s2 w2 hl2 h => ⟨(s2, ()), rfl, ?_⟩)
    refine k s2 w2 (by dsimp only at hl2; omega) ?_
    have h := mplI (q := q) (p := p) (s := s) (m := m) hf (Ok.emb (h) (.cons (A := pts b _) (by with_reducible first | exact sl0 | exact .there sl0 | exact .there sl1 | exact .there sl2 | exact .there sl3 | exact .there sl4 | exact .there sl5 | exact .there sl6 | exact .there sl7 | exact .there sl8 | exact .there sl9 | exact .there sl10 | exact .there sl11 | exact .there sl12) (.cons (A := lineP p _ _) (by with_reducible first | exact sl0 | exact .there sl0 | exact .there sl1 | exact .there sl2 | exact .there sl3 | exact .there sl4 | exact .there sl5 | exact .there sl6 | exact .there sl7 | exact .there sl8 | exact .there sl9 | exact .there sl10 | exact .there sl11 | exact .there sl12) (.cons (A := slc 2 s _) (by with_reducible first | exact sl0 | exact .there sl0 | exact .there sl1 | exact .there sl2 | exact .there sl3 | exact .there sl4 | exact .there sl5 | exact .there sl6 | exact .there sl7 | exact .there sl8 | exact .there sl9 | exact .there sl10 | exact .there sl11 | exact .there sl12) (.cons (A := mpP m f) (by with_reducible first | exact sl0 | exact .there sl0 | exact .there sl1 | exact .there sl2 | exact .there sl3 | exact .there sl4 | exact .there sl5 | exact .there sl6 | exact .there sl7 | exact .there sl8 | exact .there sl9 | exact .there sl10 | exact .there sl11 | exact .there sl12) (.same _))))))
    exact (h.emb (by repeat' (first | with_reducible exact Emb.same _ | exact Emb.nil _ | refine Emb.cons (by with_reducible first | exact sl0 | exact .there sl0 | exact .there sl1 | exact .there sl2 | exact .there sl3 | exact .there sl4 | exact .there sl5 | exact .there sl6 | exact .there sl7 | exact .there sl8 | exact .there sl9 | exact .there sl10 | exact .there sl11 | exact .there sl12) ?_ | refine Emb.skip ?_)))

def holdsB (l : List (Int × Int)) (x n : Int) : Bool := l.any fun b => decide (n ≤ b.2 ∧ b.1 + 8 ≤ x ∧ x ≤ b.1 + 8 + b.2 - n)

theorem IndexFunc_holds {e w L s l c0 c1 x n R} (h : Ok e (slc 2 s (prs l) :: pts c0 [.int .i64 n] :: pts c1 [.int .i64 x] :: L) w) (hb : l.length ≤ 2 ^ 31) (hl : ∀ p ∈ l, 0 ≤ p.1 ∧ p.1 ≤ 65536 ∧ 1 ≤ p.2 ∧ p.2 ≤ 65536) (hn : 1 ≤ n)
    (k : ∀ i w', decide (0 ≤ i) = holdsB l x n → Ok e (slc 2 s (prs l) :: pts c0 [.int .i64 n] :: pts c1 [.int .i64 x] :: L) w' → R [.int .i64 i] w') : sh35 s ⟨62, [], [.pointer (some ⟨c0, 0, none⟩), .pointer (some ⟨c1, 0, none⟩)]⟩ R w := by
  unfold sh35
  have hsl := slc_prs_len h
  refine lp.mk (fun t w' => ∃ m : Nat, t.1 = (m : Int) ∧ m ≤ l.length ∧ (∀ j, j < m → ∀ p, l[j]? = some p → ¬ (n ≤ p.2 ∧ p.1 + 8 ≤ x ∧ x ≤ p.1 + 8 + p.2 - n)) ∧ Ok e (slc 2 s (prs l) :: pts c0 [.int .i64 n] :: pts c1 [.int .i64 x] :: L) w')
    (fun t _ => l.length - t.1.toNat) ⟨0, rfl, Nat.zero_le _, fun m hm => absurd hm (Nat.not_lt_zero _), h⟩ ?_
  clear h
  rintro ⟨i, _⟩ w1 ⟨m, hm, hml, hno, h⟩
  dsimp only at hm
  subst hm
  refine cs.mk (fun hlt => ?_) (fun hge => ?_)
  · have hlt : m < l.length := by have := of_decide_eq_true hlt; dsimp only at this; omega
    refine ix_pr h (by simp) (by simpa using hlt) fun b o p hp ha ho hc1 hc2 => ?_
    refine ldI.mk (hc1 _ ⟨_, h⟩) (ldI.mk (hc2 _ ⟨_, h⟩) ?_)
    refine ob.mk (by kernel_rfl) ?_
    have hp : l[m]? = some p := by simpa using hp
    have hpb := hl p (List.mem_of_getElem? hp)
    clear hc1 hc2
    refine call62 (a0 := (p.1, p.2, ())) (c0 := c0) (c1 := c1) ?_
    unfold sh62
    refine al.mk h fun b1 w2 h => ?_
    refine ldI.mk (by refine Ok.cellS h (by with_reducible first | exact sl0 | exact .there sl0 | exact .there sl1 | exact .there sl2 | exact .there sl3 | exact .there sl4 | exact .there sl5 | exact .there sl6 | exact .there sl7 | exact .there sl8 | exact .there sl9 | exact .there sl10 | exact .there sl11 | exact .there sl12) ?_; rfl) (ldI.mk (by refine Ok.cellS h (by with_reducible first | exact sl0 | exact .there sl0 | exact .there sl1 | exact .there sl2 | exact .there sl3 | exact .there sl4 | exact .there sl5 | exact .there sl6 | exact .there sl7 | exact .there sl8 | exact .there sl9 | exact .there sl10 | exact .there sl11 | exact .there sl12) ?_; rfl) ?_)
    dsimp only
    refine jn.bool (decide (n ≤ p.2 ∧ p.1 + 8 ≤ x)) (fun J hJ => ?_) ?_
    · refine cs.mk (fun h1 => ?_) (fun h1 => ?_)
      · have h1 := of_decide_eq_true h1
        refine ldI.mk (by refine Ok.cellS h (by with_reducible first | exact sl0 | exact .there sl0 | exact .there sl1 | exact .there sl2 | exact .there sl3 | exact .there sl4 | exact .there sl5 | exact .there sl6 | exact .there sl7 | exact .there sl8 | exact .there sl9 | exact .there sl10 | exact .there sl11 | exact .there sl12) ?_; rfl) (ldI.mk (by refine Ok.cellS h (by with_reducible first | exact sl0 | exact .there sl0 | exact .there sl1 | exact .there sl2 | exact .there sl3 | exact .there sl4 | exact .there sl5 | exact .there sl6 | exact .there sl7 | exact .there sl8 | exact .there sl9 | exact .there sl10 | exact .there sl11 | exact .there sl12) ?_; rfl) ?_)
        rw [w64_in (x := p.1 + 8) (by omega) (by omega)]
        rw [show decide (n ≤ p.2 ∧ p.1 + 8 ≤ x) = decide (x ≥ p.1 + 8) from decide_eq_decide.2 (by omega)] at hJ
        exact hJ
      · have h1 := of_decide_eq_false h1
        rw [decide_eq_false (by omega)] at hJ
        exact hJ
    refine jn.bool (decide (n ≤ p.2 ∧ p.1 + 8 ≤ x ∧ x ≤ p.1 + 8 + p.2 - n)) (fun J hJ => ?_) ?_
    · refine cs.mk (fun h1 => ?_) (fun h1 => ?_)
      · have h1 := of_decide_eq_true h1
        refine ldI.mk (by refine Ok.cellS h (by with_reducible first | exact sl0 | exact .there sl0 | exact .there sl1 | exact .there sl2 | exact .there sl3 | exact .there sl4 | exact .there sl5 | exact .there sl6 | exact .there sl7 | exact .there sl8 | exact .there sl9 | exact .there sl10 | exact .there sl11 | exact .there sl12) ?_; rfl) (ldI.mk (by refine Ok.cellS h (by with_reducible first | exact sl0 | exact .there sl0 | exact .there sl1 | exact .there sl2 | exact .there sl3 | exact .there sl4 | exact .there sl5 | exact .there sl6 | exact .there sl7 | exact .there sl8 | exact .there sl9 | exact .there sl10 | exact .there sl11 | exact .there sl12) ?_; rfl) (ldI.mk (by refine Ok.cellS h (by with_reducible first | exact sl0 | exact .there sl0 | exact .there sl1 | exact .there sl2 | exact .there sl3 | exact .there sl4 | exact .there sl5 | exact .there sl6 | exact .there sl7 | exact .there sl8 | exact .there sl9 | exact .there sl10 | exact .there sl11 | exact .there sl12) ?_; rfl) (ldI.mk (by refine Ok.cellS h (by with_reducible first | exact sl0 | exact .there sl0 | exact .there sl1 | exact .there sl2 | exact .there sl3 | exact .there sl4 | exact .there sl5 | exact .there sl6 | exact .there sl7 | exact .there sl8 | exact .there sl9 | exact .there sl10 | exact .there sl11 | exact .there sl12) ?_; rfl) ?_)))
        rw [w64_in (x := p.1 + 8) (by omega) (by omega), w64_in (x := p.1 + 8 + p.2) (by omega) (by omega), w64_in (x := p.1 + 8 + p.2 - n) (by omega) (by omega)]
        rw [show decide (n ≤ p.2 ∧ p.1 + 8 ≤ x ∧ x ≤ p.1 + 8 + p.2 - n) = decide (x ≤ p.1 + 8 + p.2 - n) from decide_eq_decide.2 (by omega)] at hJ
        exact hJ
      · have h1 := of_decide_eq_false h1
        rw [decide_eq_false (by omega)] at hJ
        exact hJ
    refine ⟨(decide (n ≤ p.2 ∧ p.1 + 8 ≤ x ∧ x ≤ p.1 + 8 + p.2 - n), ()), rfl, ?_⟩
    dsimp only
    refine cs.mk (fun hy => ?_) (fun hy => ?_)
    · refine k m w2 ?_ h.drop
      rw [decide_eq_true (Int.natCast_nonneg _)]
      exact (List.any_eq_true.2 ⟨p, List.mem_of_getElem? hp, hy⟩).symm
    · have hy := of_decide_eq_false hy
      rw [w64_in (x := (m : Int) + 1) (by omega) (by omega)]
      refine ⟨⟨m + 1, rfl, hlt, fun j hj y hjy => ?_, h.drop⟩, ?_⟩
      · rcases Nat.lt_or_ge j m with h5 | h5
        · exact hno j h5 y hjy
        · obtain rfl : j = m := by omega
          rw [hp] at hjy
          cases hjy
          exact hy
      · show l.length - Int.toNat ((m : Int) + 1) < l.length - Int.toNat (m : Int)
        omega
  · have hge : l.length ≤ m := by have := of_decide_eq_false hge; dsimp only at this; omega
    refine k (-1) w1 ?_ h
    rw [decide_eq_false (by decide)]
    refine (List.any_eq_false.2 fun x hx => ?_).symm
    obtain ⟨j, hj⟩ := List.getElem?_of_mem hx
    have := hno j (by have := (List.getElem?_eq_some_iff.1 hj).1; omega) x hj
    rw [decide_eq_true_eq]
    exact this

theorem Holds_mpl {e w L b byPri a z q x n R} (h : Ok e (mplP b byPri a z q :: L) w) (ho : LPo a z q)
    (k : ∀ w', Ok e (mplP b byPri a z q :: L) w' → R [.bool (decide (1 ≤ n) && holdsB q.L x n)] w') : sh29 (some ⟨b, 0, none⟩) x n R w := by
  unfold sh29
  have hc := ho.c
  have hlen := ho.len
  obtain ⟨p, s, m, f, hf, hs, h⟩ := mplE h
  refine al.mk h fun c1 w1 h => al.mk h fun c0 w2 h => ?_
  refine ldI.mk (by refine Ok.cellS h (by with_reducible first | exact sl0 | exact .there sl0 | exact .there sl1 | exact .there sl2 | exact .there sl3 | exact .there sl4 | exact .there sl5 | exact .there sl6 | exact .there sl7 | exact .there sl8 | exact .there sl9 | exact .there sl10 | exact .there sl11 | exact .there sl12) ?_; rfl) ?_
  refine jn.at (decide (1 ≤ n) && holdsB q.L x n, ()) (fun w' => Ok e (mplP b byPri a z q :: L) w') (fun J hJ => ?_) (fun w5 h => k w5 h)
  refine cs.mk (fun h1 => ?_) (fun h1 => ?_)
  · have h1 := of_decide_eq_true h1
    rw [decide_eq_true (show 1 ≤ n from h1), Bool.true_and] at hJ
    refine nn.mk (ldS.mk (by refine Ok.cellS h (by with_reducible first | exact sl0 | exact .there sl0 | exact .there sl1 | exact .there sl2 | exact .there sl3 | exact .there sl4 | exact .there sl5 | exact .there sl6 | exact .there sl7 | exact .there sl8 | exact .there sl9 | exact .there sl10 | exact .there sl11 | exact .there sl12) ?_; rfl) ?_)
    refine call61 (a1 := ⟨62, [], [.pointer (some ⟨c0, 0, none⟩), .pointer (some ⟨c1, 0, none⟩)]⟩) ?_
    unfold sh61
    refine call35 (a1 := ⟨62, [], [.pointer (some ⟨c0, 0, none⟩), .pointer (some ⟨c1, 0, none⟩)]⟩) (IndexFunc_holds (Ok.emb (h) (.cons (A := slc 2 s _) (by with_reducible first | exact sl0 | exact .there sl0 | exact .there sl1 | exact .there sl2 | exact .there sl3 | exact .there sl4 | exact .there sl5 | exact .there sl6 | exact .there sl7 | exact .there sl8 | exact .there sl9 | exact .there sl10 | exact .there sl11 | exact .there sl12) (.cons (A := pts c0 _) (by with_reducible first | exact sl0 | exact .there sl0 | exact .there sl1 | exact .there sl2 | exact .there sl3 | exact .there sl4 | exact .there sl5 | exact .there sl6 | exact .there sl7 | exact .there sl8 | exact .there sl9 | exact .there sl10 | exact .there sl11 | exact .there sl12) (.cons (A := pts c1 _) (by with_reducible first | exact sl0 | exact .there sl0 | exact .there sl1 | exact .there sl2 | exact .there sl3 | exact .there sl4 | exact .there sl5 | exact .there sl6 | exact .there sl7 | exact .there sl8 | exact .there sl9 | exact .there sl10 | exact .there sl11 | exact .there sl12) (.same _))))) (by omega) (fun p hp => by
      have := chL_mem ho.ch hp
      have := tk_ge (n := p.2) (by omega)
      omega) h1 fun i w6 hi h => ⟨(i, ()), rfl, ?_⟩)
    refine ⟨(decide (0 ≤ i), ()), rfl, ?_⟩
    dsimp only
    rw [hi]
    exact hJ _ (mplI (q := q) (p := p) (s := s) (m := m) hf (h.emb (by repeat' (first | with_reducible exact Emb.same _ | exact Emb.nil _ | refine Emb.cons (by with_reducible first | exact sl0 | exact .there sl0 | exact .there sl1 | exact .there sl2 | exact .there sl3 | exact .there sl4 | exact .there sl5 | exact .there sl6 | exact .there sl7 | exact .there sl8 | exact .there sl9 | exact .there sl10 | exact .there sl11 | exact .there sl12) ?_ | refine Emb.skip ?_))))
  · have h1 := of_decide_eq_false h1
    rw [decide_eq_false (by omega), Bool.false_and] at hJ
    exact hJ _ (mplI (q := q) (p := p) (s := s) (m := m) hf (h.emb (by repeat' (first | with_reducible exact Emb.same _ | exact Emb.nil _ | refine Emb.cons (by with_reducible first | exact sl0 | exact .there sl0 | exact .there sl1 | exact .there sl2 | exact .there sl3 | exact .there sl4 | exact .there sl5 | exact .there sl6 | exact .there sl7 | exact .there sl8 | exact .there sl9 | exact .there sl10 | exact .there sl11 | exact .there sl12) ?_ | refine Emb.skip ?_))))

end Go.Proofs.Ytnghegppcogdbaa.B
