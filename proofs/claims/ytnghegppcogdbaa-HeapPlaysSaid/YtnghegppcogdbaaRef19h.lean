/- Contracts of the laws' own pool of any sizes: Holds, New; woken. -/
import Derived.Test.YtnghegppcogdbaaRef19g
namespace Go.Proofs.Ytnghegppcogdbaa.B
open Go
set_option linter.unusedVariables false

theorem New_ref19 {e w L byPri a z R} (h : Ok e L w) (k0 : ¬ (0 ≤ a ∧ a ≤ 65536 ∧ a % 8 = 0 ∧ 8 ≤ z ∧ z ≤ 65536 - a ∧ z % 8 = 0) → R [.pointer none, .int .i64 (-17)] w)
    (k1 : 0 ≤ a ∧ a ≤ 65536 ∧ a % 8 = 0 ∧ 8 ≤ z ∧ z ≤ 65536 - a ∧ z % 8 = 0 → ∀ b w', Ok e (rplP b byPri a z ⟨[], [], fun _ => 0⟩ :: L) w' → R [.pointer (some ⟨b, 0, none⟩), .int .i64 0] w') : sh15 byPri a z R w := by
  unfold sh15
  refine jn.bool (decide (¬ (0 ≤ a ∧ a ≤ 65536))) (fun J hJ => ?_) ?_
  · refine cs.mk (fun h1 => ?_) (fun h1 => ?_)
    · have h1 := of_decide_eq_true h1
      rw [decide_eq_true (by omega)] at hJ
      exact hJ
    · have h1 := of_decide_eq_false h1
      rw [show decide (¬ (0 ≤ a ∧ a ≤ 65536)) = decide (a > 65536) from decide_eq_decide.2 (by omega)] at hJ
      exact hJ
  refine jn.bool (decide (¬ (0 ≤ a ∧ a ≤ 65536 ∧ a % 8 = 0))) (fun J hJ => ?_) ?_
  · refine cs.mk (fun h1 => ?_) (fun h1 => ?_)
    · have h1 := of_decide_eq_true h1
      rw [decide_eq_true (by omega)] at hJ
      exact hJ
    · have h1 := of_decide_eq_false h1
      rw [show decide (¬ (0 ≤ a ∧ a ≤ 65536 ∧ a % 8 = 0)) = (Int.tmod a 8 != 0) by
        rw [Int.tmod_eq_emod_of_nonneg (by omega), Bool.eq_iff_iff, decide_eq_true_iff, bne_iff_ne]; omega] at hJ
      exact hJ
  refine jn.bool (decide (¬ (0 ≤ a ∧ a ≤ 65536 ∧ a % 8 = 0 ∧ 8 ≤ z))) (fun J hJ => ?_) ?_
  · refine cs.mk (fun h1 => ?_) (fun h1 => ?_)
    · have h1 := of_decide_eq_true h1
      rw [decide_eq_true (by omega)] at hJ
      exact hJ
    · have h1 := of_decide_eq_false h1
      rw [show decide (¬ (0 ≤ a ∧ a ≤ 65536 ∧ a % 8 = 0 ∧ 8 ≤ z)) = decide (z < 8) from decide_eq_decide.2 (by omega)] at hJ
      exact hJ
  refine jn.bool (decide (¬ (0 ≤ a ∧ a ≤ 65536 ∧ a % 8 = 0 ∧ 8 ≤ z ∧ z ≤ 65536))) (fun J hJ => ?_) ?_
  · refine cs.mk (fun h1 => ?_) (fun h1 => ?_)
    · have h1 := of_decide_eq_true h1
      rw [decide_eq_true (by omega)] at hJ
      exact hJ
    · have h1 := of_decide_eq_false h1
      rw [show decide (¬ (0 ≤ a ∧ a ≤ 65536 ∧ a % 8 = 0 ∧ 8 ≤ z ∧ z ≤ 65536)) = decide (z > 65536) from decide_eq_decide.2 (by omega)] at hJ
      exact hJ
  refine jn.bool (decide (¬ (0 ≤ a ∧ a ≤ 65536 ∧ a % 8 = 0 ∧ 8 ≤ z ∧ z ≤ 65536 ∧ z % 8 = 0))) (fun J hJ => ?_) ?_
  · refine cs.mk (fun h1 => ?_) (fun h1 => ?_)
    · have h1 := of_decide_eq_true h1
      rw [decide_eq_true (by omega)] at hJ
      exact hJ
    · have h1 := of_decide_eq_false h1
      rw [show decide (¬ (0 ≤ a ∧ a ≤ 65536 ∧ a % 8 = 0 ∧ 8 ≤ z ∧ z ≤ 65536 ∧ z % 8 = 0)) = (Int.tmod z 8 != 0) by
        rw [Int.tmod_eq_emod_of_nonneg (by omega), Bool.eq_iff_iff, decide_eq_true_iff, bne_iff_ne]; omega] at hJ
      exact hJ
  refine jn.bool (decide (¬ (0 ≤ a ∧ a ≤ 65536 ∧ a % 8 = 0 ∧ 8 ≤ z ∧ z ≤ 65536 - a ∧ z % 8 = 0))) (fun J hJ => ?_) ?_
  · refine cs.mk (fun h1 => ?_) (fun h1 => ?_)
    · have h1 := of_decide_eq_true h1
      rw [decide_eq_true (by omega)] at hJ
      exact hJ
    · have h1 := of_decide_eq_false h1
      rw [w64_in (x := a + z) (by omega) (by omega)]
      rw [show decide (¬ (0 ≤ a ∧ a ≤ 65536 ∧ a % 8 = 0 ∧ 8 ≤ z ∧ z ≤ 65536 - a ∧ z % 8 = 0)) = decide (a + z > 65536) from decide_eq_decide.2 (by omega)] at hJ
      exact hJ
  refine cs.mk (fun h1 => k0 (of_decide_eq_true h1)) (fun h1 => ?_)
  have h1 := Decidable.not_not.1 (of_decide_eq_false h1)
  refine al.mk h fun p w2 h => al.mk h fun b w3 h => k1 h1 b w3 ?_
  have h := (h.slcNil 2).slcNil 2
  have h := (Ok.emb (h) (.cons (A := pts p _) (by with_reducible first | exact sl0 | exact .there sl0 | exact .there sl1 | exact .there sl2 | exact .there sl3 | exact .there sl4 | exact .there sl5 | exact .there sl6 | exact .there sl7 | exact .there sl8 | exact .there sl9 | exact .there sl10 | exact .there sl11 | exact .there sl12) (.cons (A := slc 2 _ _) (by with_reducible first | exact sl0 | exact .there sl0 | exact .there sl1 | exact .there sl2 | exact .there sl3 | exact .there sl4 | exact .there sl5 | exact .there sl6 | exact .there sl7 | exact .there sl8 | exact .there sl9 | exact .there sl10 | exact .there sl11 | exact .there sl12) (.same _))))
  have h := refI (q := p) (l := []) (s := ⟨none, 0, 0⟩) (byPri := byPri) h
  have h := (Ok.emb (h) (.cons (A := pts b _) (by with_reducible first | exact sl0 | exact .there sl0 | exact .there sl1 | exact .there sl2 | exact .there sl3 | exact .there sl4 | exact .there sl5 | exact .there sl6 | exact .there sl7 | exact .there sl8 | exact .there sl9 | exact .there sl10 | exact .there sl11 | exact .there sl12) (.cons (A := refP p _ _) (by with_reducible first | exact sl0 | exact .there sl0 | exact .there sl1 | exact .there sl2 | exact .there sl3 | exact .there sl4 | exact .there sl5 | exact .there sl6 | exact .there sl7 | exact .there sl8 | exact .there sl9 | exact .there sl10 | exact .there sl11 | exact .there sl12) (.cons (A := slc 2 _ _) (by with_reducible first | exact sl0 | exact .there sl0 | exact .there sl1 | exact .there sl2 | exact .there sl3 | exact .there sl4 | exact .there sl5 | exact .there sl6 | exact .there sl7 | exact .there sl8 | exact .there sl9 | exact .there sl10 | exact .there sl11 | exact .there sl12) (.same _)))))
  exact rplI (p := p) (q := ⟨[], [], fun _ => 0⟩) (s := ⟨none, 0, 0⟩) (W := List.replicate 17 0) ⟨rfl, fun i hi => by simp at hi⟩ h

set_option maxHeartbeats 1000000 in
theorem Holds_ref19 {e w L b byPri a z q x n R} (h : Ok e (rplP b byPri a z q :: L) w) (ho : LPo a z q)
    (k : ∀ w', Ok e (rplP b byPri a z q :: L) w' → R [.bool (decide (1 ≤ n) && holdsB q.L x n)] w') : sh30 (some ⟨b, 0, none⟩) x n R w := by
  unfold sh30
  have hc := ho.c
  have hlen := ho.len
  refine lp.mk (fun t w' => ∃ i : Nat, t.1 = (i : Int) ∧ i ≤ q.L.length ∧ (∀ j, j < i → ∀ p, q.L[j]? = some p → ¬ (1 ≤ n ∧ n ≤ p.2 ∧ p.1 + 8 ≤ x ∧ x ≤ p.1 + 8 + p.2 - n)) ∧ Ok e (rplP b byPri a z q :: L) w') (fun t _ => q.L.length - t.1.toNat) ⟨0, rfl, Nat.zero_le _, fun m hm => absurd hm (Nat.not_lt_zero _), h⟩ ?_
  clear h
  rintro ⟨i', _⟩ w1 ⟨i, hi, hi1, hno, h⟩
  dsimp only at hi
  subst hi
  obtain ⟨p, s, W, hf, hs, h⟩ := rplE h
  have hW := hf.1
  refine nn.mk (ldS.mk (Ok.cellS h (by with_reducible first | exact sl0 | exact .there sl0 | exact .there sl1 | exact .there sl2 | exact .there sl3 | exact .there sl4 | exact .there sl5 | exact .there sl6 | exact .there sl7 | exact .there sl8 | exact .there sl9 | exact .there sl10 | exact .there sl11 | exact .there sl12) (rlC_s hW)) ?_)
  refine cs.mk (fun hlt => ?_) (fun hge => ?_)
  · have hlt : i < q.L.length := by have := of_decide_eq_true hlt; dsimp only at this; omega
    have hw : w64 ((i : Int) + 1) = ((i + 1 : Nat) : Int) := by rw [w64_in (by omega) (by omega)]; rfl
    refine nn.mk (ldS.mk (Ok.cellS h (by with_reducible first | exact sl0 | exact .there sl0 | exact .there sl1 | exact .there sl2 | exact .there sl3 | exact .there sl4 | exact .there sl5 | exact .there sl6 | exact .there sl7 | exact .there sl8 | exact .there sl9 | exact .there sl10 | exact .there sl11 | exact .there sl12) (rlC_s hW)) ?_)
    dsimp only
    refine ix_pr (Ok.emb (h) (.cons (A := slc 2 s (prs q.L)) (by with_reducible first | exact sl0 | exact .there sl0 | exact .there sl1 | exact .there sl2 | exact .there sl3 | exact .there sl4 | exact .there sl5 | exact .there sl6 | exact .there sl7 | exact .there sl8 | exact .there sl9 | exact .there sl10 | exact .there sl11 | exact .there sl12) (.same _))) (Int.natCast_nonneg _) (by omega) fun c o y hy ha1 ho1 c1 c2 => ldI.mk (c1 _ ⟨_, (Ok.emb (h) (.cons (A := slc 2 s (prs q.L)) (by with_reducible first | exact sl0 | exact .there sl0 | exact .there sl1 | exact .there sl2 | exact .there sl3 | exact .there sl4 | exact .there sl5 | exact .there sl6 | exact .there sl7 | exact .there sl8 | exact .there sl9 | exact .there sl10 | exact .there sl11 | exact .there sl12) (.same _)))⟩) (ldI.mk (c2 _ ⟨_, (Ok.emb (h) (.cons (A := slc 2 s (prs q.L)) (by with_reducible first | exact sl0 | exact .there sl0 | exact .there sl1 | exact .there sl2 | exact .there sl3 | exact .there sl4 | exact .there sl5 | exact .there sl6 | exact .there sl7 | exact .there sl8 | exact .there sl9 | exact .there sl10 | exact .there sl11 | exact .there sl12) (.same _)))⟩) ?_)
    rw [Int.toNat_natCast] at hy
    clear c1 c2
    have hm := chL_mem ho.ch (List.mem_of_getElem? hy)
    have ht := tk_ge (n := y.2) (by omega)
    rw [hw]
    refine al.mk h fun c w2 h => st1.mk h (by simp) fun w3 h => st1.mk h (by simp) fun w4 h => ?_
    dsimp only [List.set, List.tail_cons, List.tail_nil, List.head?_cons, List.head?_nil, Option.getD_some, Option.getD_none] at h
    refine jn.bool (decide (1 ≤ n ∧ n ≤ y.2)) (fun J hJ => ?_) ?_
    · refine cs.mk (fun h1 => ldI.mk (by refine Ok.cellS h (by with_reducible first | exact sl0 | exact .there sl0 | exact .there sl1 | exact .there sl2 | exact .there sl3 | exact .there sl4 | exact .there sl5 | exact .there sl6 | exact .there sl7 | exact .there sl8 | exact .there sl9 | exact .there sl10 | exact .there sl11 | exact .there sl12) ?_; rfl) ?_) (fun h1 => ?_)
      · have h1 := of_decide_eq_true h1
        rw [show decide (1 ≤ n ∧ n ≤ y.2) = decide (n ≤ y.2) from decide_eq_decide.2 (by omega)] at hJ
        exact hJ
      · have h1 := of_decide_eq_false h1
        rw [decide_eq_false (by omega)] at hJ
        exact hJ
    refine jn.bool (decide (1 ≤ n ∧ n ≤ y.2 ∧ y.1 + 8 ≤ x)) (fun J hJ => ?_) ?_
    · refine cs.mk (fun h1 => ldI.mk (by refine Ok.cellS h (by with_reducible first | exact sl0 | exact .there sl0 | exact .there sl1 | exact .there sl2 | exact .there sl3 | exact .there sl4 | exact .there sl5 | exact .there sl6 | exact .there sl7 | exact .there sl8 | exact .there sl9 | exact .there sl10 | exact .there sl11 | exact .there sl12) ?_; rfl) ?_) (fun h1 => ?_)
      · have h1 := of_decide_eq_true h1
        rw [w64_in (x := y.1 + 8) (by omega) (by omega)]
        rw [show decide (1 ≤ n ∧ n ≤ y.2 ∧ y.1 + 8 ≤ x) = decide (x ≥ y.1 + 8) from decide_eq_decide.2 (by omega)] at hJ
        exact hJ
      · have h1 := of_decide_eq_false h1
        rw [decide_eq_false (by omega)] at hJ
        exact hJ
    refine jn.bool (decide (1 ≤ n ∧ n ≤ y.2 ∧ y.1 + 8 ≤ x ∧ x ≤ y.1 + 8 + y.2 - n)) (fun J hJ => ?_) ?_
    · refine cs.mk (fun h1 => ldI.mk (by refine Ok.cellS h (by with_reducible first | exact sl0 | exact .there sl0 | exact .there sl1 | exact .there sl2 | exact .there sl3 | exact .there sl4 | exact .there sl5 | exact .there sl6 | exact .there sl7 | exact .there sl8 | exact .there sl9 | exact .there sl10 | exact .there sl11 | exact .there sl12) ?_; rfl) (ldI.mk (by refine Ok.cellS h (by with_reducible first | exact sl0 | exact .there sl0 | exact .there sl1 | exact .there sl2 | exact .there sl3 | exact .there sl4 | exact .there sl5 | exact .there sl6 | exact .there sl7 | exact .there sl8 | exact .there sl9 | exact .there sl10 | exact .there sl11 | exact .there sl12) ?_; rfl) ?_)) (fun h1 => ?_)
      · have h1 := of_decide_eq_true h1
        rw [w64_in (x := y.1 + 8) (by omega) (by omega), w64_in (x := y.1 + 8 + y.2) (by omega) (by omega), w64_in (x := y.1 + 8 + y.2 - n) (by omega) (by omega)]
        rw [show decide (1 ≤ n ∧ n ≤ y.2 ∧ y.1 + 8 ≤ x ∧ x ≤ y.1 + 8 + y.2 - n) = decide (x ≤ y.1 + 8 + y.2 - n) from decide_eq_decide.2 (by omega)] at hJ
        exact hJ
      · have h1 := of_decide_eq_false h1
        rw [decide_eq_false (by omega)] at hJ
        exact hJ
    refine cs.mk (fun h1 => ?_) (fun h1 => ?_)
    · have h1 := of_decide_eq_true h1
      have ht : holdsB q.L x n = true := List.any_eq_true.2 ⟨y, List.mem_of_getElem? hy, decide_eq_true h1.2⟩
      rw [decide_eq_true h1.1, ht] at k
      exact k _ (rplI (q := q) (p := p) (s := s) (W := W) hf (h.emb (by repeat' (first | with_reducible exact Emb.same _ | exact Emb.nil _ | refine Emb.cons (by with_reducible first | exact sl0 | exact .there sl0 | exact .there sl1 | exact .there sl2 | exact .there sl3 | exact .there sl4 | exact .there sl5 | exact .there sl6 | exact .there sl7 | exact .there sl8 | exact .there sl9 | exact .there sl10 | exact .there sl11 | exact .there sl12) ?_ | refine Emb.skip ?_))))
    · have h1 := of_decide_eq_false h1
      refine ⟨⟨i + 1, rfl, hlt, fun j hj p' hp => ?_, rplI (q := q) (p := p) (s := s) (W := W) hf (h.emb (by repeat' (first | with_reducible exact Emb.same _ | exact Emb.nil _ | refine Emb.cons (by with_reducible first | exact sl0 | exact .there sl0 | exact .there sl1 | exact .there sl2 | exact .there sl3 | exact .there sl4 | exact .there sl5 | exact .there sl6 | exact .there sl7 | exact .there sl8 | exact .there sl9 | exact .there sl10 | exact .there sl11 | exact .there sl12) ?_ | refine Emb.skip ?_)))⟩, ?_⟩
      · rcases Nat.lt_or_ge j i with h5 | h5
        · exact hno j h5 p' hp
        · obtain rfl : j = i := by omega
          rw [hy] at hp
          cases hp
          exact h1
      · show q.L.length - Int.toNat ((i + 1 : Nat) : Int) < q.L.length - Int.toNat (i : Int)
        omega
  have hge : q.L.length ≤ i := by have := of_decide_eq_false hge; dsimp only at this; omega
  have hfa : (decide (1 ≤ n) && holdsB q.L x n) = false := by
    by_cases h1 : 1 ≤ n
    · rw [decide_eq_true h1, Bool.true_and]
      refine List.any_eq_false.2 fun y hy => ?_
      obtain ⟨j, hj⟩ := List.getElem?_of_mem hy
      have := hno j (by have := (List.getElem?_eq_some_iff.1 hj).1; omega) y hj
      rw [decide_eq_true_eq]
      exact fun h => this ⟨h1, h⟩
    · rw [decide_eq_false h1, Bool.false_and]
  rw [hfa] at k
  exact k _ (rplI (q := q) (p := p) (s := s) (W := W) hf h)

end Go.Proofs.Ytnghegppcogdbaa.B
