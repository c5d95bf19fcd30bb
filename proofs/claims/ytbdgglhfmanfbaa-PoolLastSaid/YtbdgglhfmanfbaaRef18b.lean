/- Contracts of the laws' own pool of blocks: Put, Holds. -/
import Derived.Test.YtbdgglhfmanfbaaRef18
namespace Go.Proofs.Ytbdgglhfmanfbaa.B
open Go
set_option linter.unusedVariables false

set_option maxHeartbeats 1000000 in
theorem Put_ref18 {e w L b byPri a n z q x R} (h : Ok e (rpfP b byPri a n z q :: L) w) (ho : MPo a n z q)
    (k : ∀ w', Ok e (rpfP b byPri a n z (q.put x).2 :: L) w' → R [.int .i64 (q.put x).1.1, .int .i64 (q.put x).1.2] w') : sh19 (some ⟨b, 0, none⟩) x R w := by
  unfold sh19
  unfold MP.put at k
  have hlen := ho.len
  have hhad := ho.had
  have hc := ho.c
  have hup := ho.up
  have l1 := okL_len ho.line
  obtain ⟨p, s, t, hs, ht, h⟩ := rpfE h
  refine lp.mk (fun t1 w' => ∃ (r : Int) (m : Nat), t1.1 = r ∧ t1.2.1 = (m : Int) ∧ m ≤ q.held.length ∧ r = (if x ∈ q.held ∧ pos q.held x < m then (pos q.held x : Int) else -1) ∧ Ok e (pts b [.pointer (some ⟨p, 0, none⟩), .int .i64 a, .int .i64 n, .int .i64 z, vS s, .int .i64 q.had, vS t] :: refP p byPri q.S :: slc 1 s (ints q.back) :: slc 1 t (ints q.held) :: L) w')
    (fun t1 _ => q.held.length - t1.2.1.toNat) ⟨-1, 0, rfl, rfl, Nat.zero_le _, by rw [if_neg (fun h => Nat.not_lt_zero _ h.2)], h⟩ ?_
  clear h
  rintro ⟨r', m', _⟩ w1 ⟨r, m, hr1, hm1, hml, hr, h⟩
  dsimp only at hr1 hm1
  subst hr1 hm1
  refine nn.mk (ldS.mk (by refine Ok.cellS h (by with_reducible first | exact sl0 | exact .there sl0 | exact .there sl1 | exact .there sl2 | exact .there sl3 | exact .there sl4 | exact .there sl5 | exact .there sl6 | exact .there sl7 | exact .there sl8 | exact .there sl9 | exact .there sl10 | exact .there sl11 | exact .there sl12) ?_; rfl) ?_)
  refine cs.mk (fun hlt => ?_) (fun hge => ?_)
  · have hlt : m < q.held.length := by have := of_decide_eq_true hlt; dsimp only at this; omega
    have hw : w64 ((m : Int) + 1) = ((m + 1 : Nat) : Int) := by rw [w64_in (by omega) (by omega)]; rfl
    have hmu : q.held.length - Int.toNat ((m + 1 : Nat) : Int) < q.held.length - Int.toNat (m : Int) := by omega
    refine nn.mk (ldS.mk (by refine Ok.cellS h (by with_reducible first | exact sl0 | exact .there sl0 | exact .there sl1 | exact .there sl2 | exact .there sl3 | exact .there sl4 | exact .there sl5 | exact .there sl6 | exact .there sl7 | exact .there sl8 | exact .there sl9 | exact .there sl10 | exact .there sl11 | exact .there sl12) ?_; rfl) ?_)
    dsimp only
    refine ix_int (Ok.emb (h) (.cons (A := slc 1 t _) (by with_reducible first | exact sl0 | exact .there sl0 | exact .there sl1 | exact .there sl2 | exact .there sl3 | exact .there sl4 | exact .there sl5 | exact .there sl6 | exact .there sl7 | exact .there sl8 | exact .there sl9 | exact .there sl10 | exact .there sl11 | exact .there sl12) (.same _))) (Int.natCast_nonneg _) (by omega) fun c o y hy hcell => ldI.mk (hcell _ ⟨_, (Ok.emb (h) (.cons (A := slc 1 t _) (by with_reducible first | exact sl0 | exact .there sl0 | exact .there sl1 | exact .there sl2 | exact .there sl3 | exact .there sl4 | exact .there sl5 | exact .there sl6 | exact .there sl7 | exact .there sl8 | exact .there sl9 | exact .there sl10 | exact .there sl11 | exact .there sl12) (.same _)))⟩) ?_
    rw [Int.toNat_natCast] at hy
    clear hcell
    rw [hw]
    refine cs.mk (fun h1 => ?_) (fun h1 => ?_)
    · have h1 : y = x := by simpa using h1
      subst h1
      have hp := up_inj hup hy
      refine ⟨⟨(m : Int), m + 1, rfl, rfl, hlt, ?_, h⟩, hmu⟩
      rw [if_pos ⟨List.mem_of_getElem? hy, by omega⟩, ← hp]
    · have h1 : y ≠ x := by simpa using h1
      refine ⟨⟨r', m + 1, rfl, rfl, hlt, ?_, h⟩, hmu⟩
      rw [hr]
      by_cases hm : x ∈ q.held
      · have hne : pos q.held x ≠ m := fun he => by
          have := (pos_mem hup).1 hm
          rw [he, hy] at this
          cases this
          exact h1 rfl
        by_cases hlt2 : pos q.held x < m
        · rw [if_pos ⟨hm, hlt2⟩, if_pos ⟨hm, by omega⟩]
        · rw [if_neg (fun h => hlt2 h.2), if_neg (fun h => by omega)]
      · rw [if_neg (fun h => hm h.1), if_neg (fun h => hm h.1)]
  have hge : q.held.length ≤ m := by have := of_decide_eq_false hge; dsimp only at this; omega
  obtain rfl : m = q.held.length := by omega
  dsimp only
  by_cases hm : x ∈ q.held
  · have hpl := pos_lt hup hm
    rw [if_pos ⟨hm, hpl⟩] at hr
    rw [if_pos hm] at k
    subst hr
    refine cs.no (decide_eq_false (by omega)) ?_
    refine nn.mk (ldP.mk (by refine Ok.cellS h (by with_reducible first | exact sl0 | exact .there sl0 | exact .there sl1 | exact .there sl2 | exact .there sl3 | exact .there sl4 | exact .there sl5 | exact .there sl6 | exact .there sl7 | exact .there sl8 | exact .there sl9 | exact .there sl10 | exact .there sl11 | exact .there sl12) ?_; rfl) ?_)
    refine call43 (Take_ref4 (Ok.emb (h) (.cons (A := refP p _ _) (by with_reducible first | exact sl0 | exact .there sl0 | exact .there sl1 | exact .there sl2 | exact .there sl3 | exact .there sl4 | exact .there sl5 | exact .there sl6 | exact .there sl7 | exact .there sl8 | exact .there sl9 | exact .there sl10 | exact .there sl11 | exact .there sl12) (.same _))) (by omega) fun w1 h => ⟨(((q.S.head?.getD (0, 0)).1, (q.S.head?.getD (0, 0)).2, ()), !q.S.isEmpty, ()), rfl, ?_⟩)
    refine al.mk h fun c w2 h => st1.mk h (by simp) fun w3 h => st1.mk h (by simp) fun w4 h => ?_
    dsimp only
    obtain ⟨S, had, back, held⟩ := q
    dsimp only at *
    cases S with
    | cons y S =>
      refine cs.yes rfl (ldI.mk (h.cell rfl) (k w4 ?_))
      exact rpfI (q := ⟨S, had, back, held⟩) (p := p) (s := s) (t := t) (h.emb (by repeat' (first | with_reducible exact Emb.same _ | exact Emb.nil _ | refine Emb.cons (by with_reducible first | exact sl0 | exact .there sl0 | exact .there sl1 | exact .there sl2 | exact .there sl3 | exact .there sl4 | exact .there sl5 | exact .there sl6 | exact .there sl7 | exact .there sl8 | exact .there sl9 | exact .there sl10 | exact .there sl11 | exact .there sl12) ?_ | refine Emb.skip ?_)))
    | nil =>
      refine cs.no rfl ?_
      refine al.mk h fun c1 w2 h => ?_
      refine nn.mk (ldS.mk (by refine Ok.cellS h (by with_reducible first | exact sl0 | exact .there sl0 | exact .there sl1 | exact .there sl2 | exact .there sl3 | exact .there sl4 | exact .there sl5 | exact .there sl6 | exact .there sl7 | exact .there sl8 | exact .there sl9 | exact .there sl10 | exact .there sl11 | exact .there sl12) ?_; rfl) ?_)
      refine sb_sub (Ok.emb (h) (.cons (A := slc 1 t _) (by with_reducible first | exact sl0 | exact .there sl0 | exact .there sl1 | exact .there sl2 | exact .there sl3 | exact .there sl4 | exact .there sl5 | exact .there sl6 | exact .there sl7 | exact .there sl8 | exact .there sl9 | exact .there sl10 | exact .there sl11 | exact .there sl12) (.same _))) (Int.le_refl _) (Int.natCast_nonneg _) (by omega) fun x1 hx1 => ?_
      have h := h.slcNew (n := 0) (sz := 1) rfl (by simp)
      refine ef.appendSub slT_int (by decide) (Ok.emb (h) (.cons (A := slc 1 ⟨some ⟨c1, 0, none⟩, 0, 0⟩ _) (by with_reducible first | exact sl0 | exact .there sl0 | exact .there sl1 | exact .there sl2 | exact .there sl3 | exact .there sl4 | exact .there sl5 | exact .there sl6 | exact .there sl7 | exact .there sl8 | exact .there sl9 | exact .there sl10 | exact .there sl11 | exact .there sl12) (.cons (A := slc 1 t _) (by with_reducible first | exact sl0 | exact .there sl0 | exact .there sl1 | exact .there sl2 | exact .there sl3 | exact .there sl4 | exact .there sl5 | exact .there sl6 | exact .there sl7 | exact .there sl8 | exact .there sl9 | exact .there sl10 | exact .there sl11 | exact .there sl12) (.same _)))) hx1 (by omega) (by simp only; omega) fun s1 w3 hl1 h => ?_
      refine nn.mk (ldS.mk (by refine Ok.cellS h (by with_reducible first | exact sl0 | exact .there sl0 | exact .there sl1 | exact .there sl2 | exact .there sl3 | exact .there sl4 | exact .there sl5 | exact .there sl6 | exact .there sl7 | exact .there sl8 | exact .there sl9 | exact .there sl10 | exact .there sl11 | exact .there sl12) ?_; rfl) ?_)
      rw [w64_in (x := (pos held x : Int) + 1) (by omega) (by omega)]
      refine sb_sub (Ok.emb (h) (.cons (A := slc 1 t _) (by with_reducible first | exact sl0 | exact .there sl0 | exact .there sl1 | exact .there sl2 | exact .there sl3 | exact .there sl4 | exact .there sl5 | exact .there sl6 | exact .there sl7 | exact .there sl8 | exact .there sl9 | exact .there sl10 | exact .there sl11 | exact .there sl12) (.same _))) (by omega) (by omega) (Int.le_refl _) fun x2 hx2 => ?_
      refine ef.appendSub slT_int (by decide) (Ok.emb (h) (.cons (A := slc 1 s1 _) (by with_reducible first | exact sl0 | exact .there sl0 | exact .there sl1 | exact .there sl2 | exact .there sl3 | exact .there sl4 | exact .there sl5 | exact .there sl6 | exact .there sl7 | exact .there sl8 | exact .there sl9 | exact .there sl10 | exact .there sl11 | exact .there sl12) (.cons (A := slc 1 t _) (by with_reducible first | exact sl0 | exact .there sl0 | exact .there sl1 | exact .there sl2 | exact .there sl3 | exact .there sl4 | exact .there sl5 | exact .there sl6 | exact .there sl7 | exact .there sl8 | exact .there sl9 | exact .there sl10 | exact .there sl11 | exact .there sl12) (.same _)))) hx2 (by omega) (by dsimp only at hl1 ⊢; omega) fun s3 w6 hl3 h => ?_
      refine nn.mk (st1.mk (Ok.emb (h) (.cons (A := pts b _) (by with_reducible first | exact sl0 | exact .there sl0 | exact .there sl1 | exact .there sl2 | exact .there sl3 | exact .there sl4 | exact .there sl5 | exact .there sl6 | exact .there sl7 | exact .there sl8 | exact .there sl9 | exact .there sl10 | exact .there sl11 | exact .there sl12) (.same _))) (by simp) fun w7 h => ?_)
      dsimp only [List.set, List.tail_cons, List.tail_nil, List.head?_cons, List.head?_nil, Option.getD_some, Option.getD_none] at h
      have e1 : List.drop (Int.toNat 0 * 1) (List.take (Int.toNat (pos held x : Int) * 1) (ints held)) = ints (held.take (pos held x)) := by simp [ints, List.map_take]
      have e2 : List.drop (Int.toNat ((pos held x : Int) + 1) * 1) (List.take (Int.toNat (t.len : Int) * 1) (ints held)) = ints (held.drop (pos held x + 1)) := by
        rw [Int.toNat_natCast, show ((pos held x : Int) + 1).toNat = pos held x + 1 by omega, Nat.mul_one, Nat.mul_one, List.take_of_length_le (by rw [ints_len]; omega)]
        simp [ints, List.map_drop]
      rw [e1, e2, List.nil_append, ← List.map_append] at h
      refine al.mk h fun c2 w8 h => ?_
      refine nn.mk (ldS.mk (by refine Ok.cellS h (by with_reducible first | exact sl0 | exact .there sl0 | exact .there sl1 | exact .there sl2 | exact .there sl3 | exact .there sl4 | exact .there sl5 | exact .there sl6 | exact .there sl7 | exact .there sl8 | exact .there sl9 | exact .there sl10 | exact .there sl11 | exact .there sl12) ?_; rfl) ?_)
      have h := h.slcNew (n := 0) (sz := 1) rfl (by simp)
      refine ef.append2 slT_int (by decide) (Ok.emb (h) (.cons (A := slc 1 ⟨some ⟨c2, 0, none⟩, 0, 0⟩ _) (by with_reducible first | exact sl0 | exact .there sl0 | exact .there sl1 | exact .there sl2 | exact .there sl3 | exact .there sl4 | exact .there sl5 | exact .there sl6 | exact .there sl7 | exact .there sl8 | exact .there sl9 | exact .there sl10 | exact .there sl11 | exact .there sl12) (.cons (A := slc 1 s _) (by with_reducible first | exact sl0 | exact .there sl0 | exact .there sl1 | exact .there sl2 | exact .there sl3 | exact .there sl4 | exact .there sl5 | exact .there sl6 | exact .there sl7 | exact .there sl8 | exact .there sl9 | exact .there sl10 | exact .there sl11 | exact .there sl12) (.same _)))) (by simp only; omega) fun s4 w9 hl4 h => ?_
      refine al.mk h fun c3 w10 h => ?_
      refine ef.append1 (n := 1) slT_int (by decide) (Ok.emb (h) (.cons (A := pts c3 _) (by with_reducible first | exact sl0 | exact .there sl0 | exact .there sl1 | exact .there sl2 | exact .there sl3 | exact .there sl4 | exact .there sl5 | exact .there sl6 | exact .there sl7 | exact .there sl8 | exact .there sl9 | exact .there sl10 | exact .there sl11 | exact .there sl12) (.cons (A := slc 1 s4 _) (by with_reducible first | exact sl0 | exact .there sl0 | exact .there sl1 | exact .there sl2 | exact .there sl3 | exact .there sl4 | exact .there sl5 | exact .there sl6 | exact .there sl7 | exact .there sl8 | exact .there sl9 | exact .there sl10 | exact .there sl11 | exact .there sl12) (.same _)))) rfl (by intro v hv; simp at hv; subst hv; rfl) (by dsimp only at hl4 ⊢; omega) fun s5 w11 hl5 h => ?_
      refine nn.mk (st1.mk (Ok.emb (h) (.cons (A := pts b _) (by with_reducible first | exact sl0 | exact .there sl0 | exact .there sl1 | exact .there sl2 | exact .there sl3 | exact .there sl4 | exact .there sl5 | exact .there sl6 | exact .there sl7 | exact .there sl8 | exact .there sl9 | exact .there sl10 | exact .there sl11 | exact .there sl12) (.same _))) (by simp) fun w12 h => k w12 ?_)
      dsimp only [List.set, List.tail_cons, List.tail_nil, List.head?_cons, List.head?_nil, Option.getD_some, Option.getD_none] at h
      rw [List.nil_append, ints_snoc] at h
      refine rpfI (q := ⟨[], had, back ++ [x], delU held x⟩) (s := s5) (p := p) (t := s3) ?_
      unfold delU
      exact (h.emb (by repeat' (first | with_reducible exact Emb.same _ | exact Emb.nil _ | refine Emb.cons (by with_reducible first | exact sl0 | exact .there sl0 | exact .there sl1 | exact .there sl2 | exact .there sl3 | exact .there sl4 | exact .there sl5 | exact .there sl6 | exact .there sl7 | exact .there sl8 | exact .there sl9 | exact .there sl10 | exact .there sl11 | exact .there sl12) ?_ | refine Emb.skip ?_)))
  · rw [if_neg (fun h => hm h.1)] at hr
    rw [if_neg hm] at k
    subst hr
    refine cs.yes rfl ?_
    exact k _ (rpfI (q := q) (p := p) (s := s) (t := t) (h.emb (by repeat' (first | with_reducible exact Emb.same _ | exact Emb.nil _ | refine Emb.cons (by with_reducible first | exact sl0 | exact .there sl0 | exact .there sl1 | exact .there sl2 | exact .there sl3 | exact .there sl4 | exact .there sl5 | exact .there sl6 | exact .there sl7 | exact .there sl8 | exact .there sl9 | exact .there sl10 | exact .there sl11 | exact .there sl12) ?_ | refine Emb.skip ?_))))

set_option maxHeartbeats 1000000 in
theorem Holds_ref18 {e w L b byPri a n z q a' m R} (h : Ok e (rpfP b byPri a n z q :: L) w) (ho : MPo a n z q)
    (k : ∀ w', Ok e (rpfP b byPri a n z q :: L) w' → R [.bool (q.holds z a' m)] w') : sh29 (some ⟨b, 0, none⟩) a' m R w := by
  unfold sh29
  have hlen := ho.len
  have hhad := ho.had
  have hc := ho.c
  have hz := And.intro hc.2.2.2.2.1 hc.2.2.2.2.2.1
  have h4 := stp_bd hz
  unfold MP.holds at k
  obtain ⟨p, s, t, hs, ht, h⟩ := rpfE h
  refine lp.mk (fun t1 w' => ∃ i : Nat, t1.1 = (i : Int) ∧ i ≤ q.held.length ∧ (∀ j, j < i → ∀ x, q.held[j]? = some x → ¬ ((1 ≤ m ∧ m ≤ z) ∧ x ≤ a' ∧ a' ≤ x + z - m)) ∧ Ok e (pts b [.pointer (some ⟨p, 0, none⟩), .int .i64 a, .int .i64 n, .int .i64 z, vS s, .int .i64 q.had, vS t] :: refP p byPri q.S :: slc 1 s (ints q.back) :: slc 1 t (ints q.held) :: L) w')
    (fun t1 _ => q.held.length - t1.1.toNat) ⟨0, rfl, Nat.zero_le _, fun j hj => absurd hj (Nat.not_lt_zero _), h⟩ ?_
  clear h
  rintro ⟨i', _⟩ w1 ⟨i, hi, hil, hno, h⟩
  dsimp only at hi
  subst hi
  refine nn.mk (ldS.mk (by refine Ok.cellS h (by with_reducible first | exact sl0 | exact .there sl0 | exact .there sl1 | exact .there sl2 | exact .there sl3 | exact .there sl4 | exact .there sl5 | exact .there sl6 | exact .there sl7 | exact .there sl8 | exact .there sl9 | exact .there sl10 | exact .there sl11 | exact .there sl12) ?_; rfl) ?_)
  refine cs.mk (fun hlt => ?_) (fun hge => ?_)
  · have hlt : i < q.held.length := by have := of_decide_eq_true hlt; dsimp only at this; omega
    have hw : w64 ((i : Int) + 1) = ((i + 1 : Nat) : Int) := by rw [w64_in (by omega) (by omega)]; rfl
    refine nn.mk (ldS.mk (by refine Ok.cellS h (by with_reducible first | exact sl0 | exact .there sl0 | exact .there sl1 | exact .there sl2 | exact .there sl3 | exact .there sl4 | exact .there sl5 | exact .there sl6 | exact .there sl7 | exact .there sl8 | exact .there sl9 | exact .there sl10 | exact .there sl11 | exact .there sl12) ?_; rfl) ?_)
    dsimp only
    refine ix_int (Ok.emb (h) (.cons (A := slc 1 t _) (by with_reducible first | exact sl0 | exact .there sl0 | exact .there sl1 | exact .there sl2 | exact .there sl3 | exact .there sl4 | exact .there sl5 | exact .there sl6 | exact .there sl7 | exact .there sl8 | exact .there sl9 | exact .there sl10 | exact .there sl11 | exact .there sl12) (.same _))) (Int.natCast_nonneg _) (by omega) fun c o x hx hcell => ldI.mk (hcell _ ⟨_, (Ok.emb (h) (.cons (A := slc 1 t _) (by with_reducible first | exact sl0 | exact .there sl0 | exact .there sl1 | exact .there sl2 | exact .there sl3 | exact .there sl4 | exact .there sl5 | exact .there sl6 | exact .there sl7 | exact .there sl8 | exact .there sl9 | exact .there sl10 | exact .there sl11 | exact .there sl12) (.same _)))⟩) ?_
    rw [Int.toNat_natCast] at hx
    clear hcell
    have hxb := ho.bd (List.mem_append_right _ (List.mem_of_getElem? hx))
    rw [hw]
    refine jn.bool (decide (1 ≤ m ∧ m ≤ z)) (fun J hJ => ?_) ?_
    · refine cs.mk (fun h1 => ?_) (fun h1 => ?_)
      · have h1 := of_decide_eq_true h1
        refine nn.mk (ldI.mk (by refine Ok.cellS h (by with_reducible first | exact sl0 | exact .there sl0 | exact .there sl1 | exact .there sl2 | exact .there sl3 | exact .there sl4 | exact .there sl5 | exact .there sl6 | exact .there sl7 | exact .there sl8 | exact .there sl9 | exact .there sl10 | exact .there sl11 | exact .there sl12) ?_; rfl) ?_)
        rw [show decide (1 ≤ m ∧ m ≤ z) = decide (m ≤ z) from decide_eq_decide.2 (by omega)] at hJ
        exact hJ
      · have h1 := of_decide_eq_false h1
        rw [decide_eq_false (by omega)] at hJ
        exact hJ
    refine jn.bool (decide ((1 ≤ m ∧ m ≤ z) ∧ x ≤ a')) (fun J hJ => ?_) ?_
    · refine cs.mk (fun h1 => ?_) (fun h1 => ?_)
      · have h1 := of_decide_eq_true h1
        rw [show decide ((1 ≤ m ∧ m ≤ z) ∧ x ≤ a') = decide (a' ≥ x) from decide_eq_decide.2 (by omega)] at hJ
        exact hJ
      · have h1 := of_decide_eq_false h1
        rw [decide_eq_false (fun h => h1 h.1)] at hJ
        exact hJ
    refine jn.bool (decide ((1 ≤ m ∧ m ≤ z) ∧ x ≤ a' ∧ a' ≤ x + z - m)) (fun J hJ => ?_) ?_
    · refine cs.mk (fun h1 => ?_) (fun h1 => ?_)
      · have h1 := of_decide_eq_true h1
        refine nn.mk (ldI.mk (by refine Ok.cellS h (by with_reducible first | exact sl0 | exact .there sl0 | exact .there sl1 | exact .there sl2 | exact .there sl3 | exact .there sl4 | exact .there sl5 | exact .there sl6 | exact .there sl7 | exact .there sl8 | exact .there sl9 | exact .there sl10 | exact .there sl11 | exact .there sl12) ?_; rfl) ?_)
        rw [w64_in (x := x + z) (by omega) (by omega), w64_in (x := x + z - m) (by omega) (by omega)]
        rw [show decide ((1 ≤ m ∧ m ≤ z) ∧ x ≤ a' ∧ a' ≤ x + z - m) = decide (a' ≤ x + z - m) from decide_eq_decide.2 (by omega)] at hJ
        exact hJ
      · have h1 := of_decide_eq_false h1
        rw [decide_eq_false (fun h => h1 ⟨h.1, h.2.1⟩)] at hJ
        exact hJ
    refine cs.mk (fun hy => ?_) (fun hy => ?_)
    · have hy := of_decide_eq_true hy
      rw [decide_eq_true hy.1, Bool.true_and, List.any_eq_true.2 ⟨x, List.mem_of_getElem? hx, decide_eq_true hy.2⟩] at k
      exact k _ (rpfI (q := q) (p := p) (s := s) (t := t) (h.emb (by repeat' (first | with_reducible exact Emb.same _ | exact Emb.nil _ | refine Emb.cons (by with_reducible first | exact sl0 | exact .there sl0 | exact .there sl1 | exact .there sl2 | exact .there sl3 | exact .there sl4 | exact .there sl5 | exact .there sl6 | exact .there sl7 | exact .there sl8 | exact .there sl9 | exact .there sl10 | exact .there sl11 | exact .there sl12) ?_ | refine Emb.skip ?_))))
    · have hy := of_decide_eq_false hy
      refine ⟨⟨i + 1, rfl, hlt, fun j hj y hjy => ?_, h⟩, ?_⟩
      · rcases Nat.lt_or_ge j i with h5 | h5
        · exact hno j h5 y hjy
        · obtain rfl : j = i := by omega
          rw [hx] at hjy
          cases hjy
          exact hy
      · show q.held.length - Int.toNat ((i + 1 : Nat) : Int) < q.held.length - Int.toNat (i : Int)
        omega
  have hge : q.held.length ≤ i := by have := of_decide_eq_false hge; dsimp only at this; omega
  have hf : (decide (1 ≤ m ∧ m ≤ z) && q.held.any fun h => decide (h ≤ a' ∧ a' ≤ h + z - m)) = false := by
    by_cases h1 : 1 ≤ m ∧ m ≤ z
    · rw [decide_eq_true h1, Bool.true_and]
      refine List.any_eq_false.2 fun x hx => ?_
      obtain ⟨j, hj⟩ := List.getElem?_of_mem hx
      have := hno j (by have := (List.getElem?_eq_some_iff.1 hj).1; omega) x hj
      rw [decide_eq_true_eq]
      exact fun h => this ⟨h1, h⟩
    · rw [decide_eq_false h1, Bool.false_and]
  rw [hf] at k
  exact k _ (rpfI (q := q) (p := p) (s := s) (t := t) (h.emb (by repeat' (first | with_reducible exact Emb.same _ | exact Emb.nil _ | refine Emb.cons (by with_reducible first | exact sl0 | exact .there sl0 | exact .there sl1 | exact .there sl2 | exact .there sl3 | exact .there sl4 | exact .there sl5 | exact .there sl6 | exact .there sl7 | exact .there sl8 | exact .there sl9 | exact .there sl10 | exact .there sl11 | exact .there sl12) ?_ | refine Emb.skip ?_))))

end Go.Proofs.Ytbdgglhfmanfbaa.B
