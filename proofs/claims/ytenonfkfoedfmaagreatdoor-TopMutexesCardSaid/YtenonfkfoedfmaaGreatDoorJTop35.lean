/- Texts of ours, joined: Mpf2, Km, Km2, Kp, Star, Rdp, Rdb, Rdy, Rdy2, Tcb, Flat, Mtx, Mtx2, Mtx3. -/
import Derived.Deep.Slices
import Derived.Test.YtenonfkfoedfmaaGreatDoorJTop34
set_option linter.unusedSimpArgs false
set_option linter.unusedVariables false
/- Contracts of the package mpf: its calls. -/
namespace Go.Proofs.YtenonfkfoedfmaaGreatDoor.B
open Go
set_option linter.unusedVariables false

set_option maxHeartbeats 1000000 in
theorem NewPool_mpf {e w L byPri a n z R} (h : Ok e L w) (k0 : ∀ w', Ok e L w' → ¬ mpGood a n z → R [.pointer none, .int .i64 (-17)] w') (k1 : mpGood a n z → ∀ b w', Ok e (mpfP b byPri a n z mp0 :: L) w' → R [.pointer (some ⟨b, 0, none⟩), .int .i64 0] w') : sh182 byPri a n z R w := by
  unfold sh182
  refine jn.bool (decide (¬ (1 ≤ n ∧ n ≤ 256))) (fun J hJ => ?_) ?_
  · refine cs.mk (fun h1 => ?_) (fun h1 => ?_)
    · have h1 := of_decide_eq_true h1
      rw [decide_eq_true (by omega)] at hJ
      exact hJ
    · have h1 := of_decide_eq_false h1
      rw [show decide (¬ (1 ≤ n ∧ n ≤ 256)) = decide (n > 256) from decide_eq_decide.2 (by omega)] at hJ
      exact hJ
  refine jn.bool (decide (¬ (1 ≤ n ∧ n ≤ 256 ∧ 1 ≤ z))) (fun J hJ => ?_) ?_
  · refine cs.mk (fun h1 => ?_) (fun h1 => ?_)
    · have h1 := of_decide_eq_true h1
      rw [decide_eq_true (by omega)] at hJ
      exact hJ
    · have h1 := of_decide_eq_false h1
      rw [show decide (¬ (1 ≤ n ∧ n ≤ 256 ∧ 1 ≤ z)) = decide (z < 1) from decide_eq_decide.2 (by omega)] at hJ
      exact hJ
  refine jn.bool (decide (¬ (1 ≤ n ∧ n ≤ 256 ∧ 1 ≤ z ∧ z ≤ 4096))) (fun J hJ => ?_) ?_
  · refine cs.mk (fun h1 => ?_) (fun h1 => ?_)
    · have h1 := of_decide_eq_true h1
      rw [decide_eq_true (by omega)] at hJ
      exact hJ
    · have h1 := of_decide_eq_false h1
      rw [show decide (¬ (1 ≤ n ∧ n ≤ 256 ∧ 1 ≤ z ∧ z ≤ 4096)) = decide (z > 4096) from decide_eq_decide.2 (by omega)] at hJ
      exact hJ
  refine jn.bool (decide (¬ (1 ≤ n ∧ n ≤ 256 ∧ 1 ≤ z ∧ z ≤ 4096 ∧ 0 ≤ a))) (fun J hJ => ?_) ?_
  · refine cs.mk (fun h1 => ?_) (fun h1 => ?_)
    · have h1 := of_decide_eq_true h1
      rw [decide_eq_true (by omega)] at hJ
      exact hJ
    · have h1 := of_decide_eq_false h1
      rw [show decide (¬ (1 ≤ n ∧ n ≤ 256 ∧ 1 ≤ z ∧ z ≤ 4096 ∧ 0 ≤ a)) = decide (a < 0) from decide_eq_decide.2 (by omega)] at hJ
      exact hJ
  refine jn.bool (decide (¬ (1 ≤ n ∧ n ≤ 256 ∧ 1 ≤ z ∧ z ≤ 4096 ∧ 0 ≤ a ∧ a ≤ 65536))) (fun J hJ => ?_) ?_
  · refine cs.mk (fun h1 => ?_) (fun h1 => ?_)
    · have h1 := of_decide_eq_true h1
      rw [decide_eq_true (by omega)] at hJ
      exact hJ
    · have h1 := of_decide_eq_false h1
      rw [show decide (¬ (1 ≤ n ∧ n ≤ 256 ∧ 1 ≤ z ∧ z ≤ 4096 ∧ 0 ≤ a ∧ a ≤ 65536)) = decide (a > 65536) from decide_eq_decide.2 (by omega)] at hJ
      exact hJ
  refine jn.bool (decide (¬ (1 ≤ n ∧ n ≤ 256 ∧ 1 ≤ z ∧ z ≤ 4096 ∧ 0 ≤ a ∧ a ≤ 65536 ∧ a % 4 = 0))) (fun J hJ => ?_) ?_
  · refine cs.mk (fun h1 => ?_) (fun h1 => ?_)
    · have h1 := of_decide_eq_true h1
      rw [decide_eq_true (by omega)] at hJ
      exact hJ
    · have h1 := of_decide_eq_false h1
      rw [show decide (¬ (1 ≤ n ∧ n ≤ 256 ∧ 1 ≤ z ∧ z ≤ 4096 ∧ 0 ≤ a ∧ a ≤ 65536 ∧ a % 4 = 0)) = (Int.tmod a 4 != 0) by
        rw [Int.tmod_eq_emod_of_nonneg (by omega), Bool.eq_iff_iff, decide_eq_true_iff, bne_iff_ne]; omega] at hJ
      exact hJ
  refine jn.at (decide (¬ mpGood a n z), ()) (fun w' => Ok e L w') (fun J hJ => cs.mk (fun h1 => ?_) (fun h1 => ?_)) (fun w1 h => ?_)
  · have h1 := of_decide_eq_true h1
    rw [decide_eq_true (by unfold mpGood; omega)] at hJ
    exact hJ _ h
  · have h1 := Decidable.not_not.1 (of_decide_eq_false h1)
    have hz : 1 ≤ z ∧ z ≤ 4096 := by omega
    refine call127 (Align_nums h hz fun w1 h => ⟨(stp z, ()), rfl, ?_⟩)
    have hm := stp_mul_bd (n := n) hz (by omega)
    dsimp only
    rw [w64_in (x := n * stp z) (by omega) (by omega), w64_in (x := 65536 - a) (by omega) (by omega)]
    rw [show decide (¬ mpGood a n z) = decide (n * stp z > 65536 - a) from decide_eq_decide.2 (by unfold mpGood; omega)] at hJ
    exact hJ _ h
  refine cs.mk (fun h1 => k0 w1 h (of_decide_eq_true h1)) (fun h1 => ?_)
  have h1 := Decidable.not_not.1 (of_decide_eq_false h1)
  refine call44 (New_order h fun p w1 h => ⟨(some ⟨p, 0, none⟩, ()), rfl, ?_⟩)
  refine al.mk h fun b w2 h => k1 h1 b w2 ?_
  have h := (h.slcNil 1).slcNil 1
  have h := (Ok.emb (h) (.cons (A := pts b _) (by with_reducible first | exact sl0 | exact .there sl0 | exact .there sl1 | exact .there sl2 | exact .there sl3 | exact .there sl4 | exact .there sl5 | exact .there sl6 | exact .there sl7 | exact .there sl8 | exact .there sl9 | exact .there sl10 | exact .there sl11 | exact .there sl12) (.cons (A := lineP p _ _) (by with_reducible first | exact sl0 | exact .there sl0 | exact .there sl1 | exact .there sl2 | exact .there sl3 | exact .there sl4 | exact .there sl5 | exact .there sl6 | exact .there sl7 | exact .there sl8 | exact .there sl9 | exact .there sl10 | exact .there sl11 | exact .there sl12) (.cons (A := slc 1 ⟨none, 0, 0⟩ _) (by with_reducible first | exact sl0 | exact .there sl0 | exact .there sl1 | exact .there sl2 | exact .there sl3 | exact .there sl4 | exact .there sl5 | exact .there sl6 | exact .there sl7 | exact .there sl8 | exact .there sl9 | exact .there sl10 | exact .there sl11 | exact .there sl12) (.cons (A := slc 1 ⟨none, 0, 0⟩ _) (by with_reducible first | exact sl0 | exact .there sl0 | exact .there sl1 | exact .there sl2 | exact .there sl3 | exact .there sl4 | exact .there sl5 | exact .there sl6 | exact .there sl7 | exact .there sl8 | exact .there sl9 | exact .there sl10 | exact .there sl11 | exact .there sl12) (.same _))))))
  exact mpfI (p := p) (q := mp0) (s := ⟨none, 0, 0⟩) (t := ⟨none, 0, 0⟩) h

set_option maxHeartbeats 1000000 in
theorem Poll_mpf {e w L b byPri a n z q R} (h : Ok e (mpfP b byPri a n z q :: L) w) (ho : MPo a n z q)
    (k : ∀ w', Ok e (mpfP b byPri a n z (q.poll a n z).2 :: L) w' → R [.int .i64 (q.poll a n z).1.1, .bool (q.poll a n z).1.2] w') : sh157 (some ⟨b, 0, none⟩) R w := by
  unfold sh157
  have hlen := ho.len
  have hhad := ho.had
  have hc := ho.c
  have hz := And.intro hc.2.2.2.2.1 hc.2.2.2.2.2.1
  have hst := stp_mul_bd (n := q.had) hz (by omega)
  obtain ⟨p, s, t, hs, ht, h⟩ := mpfE h
  refine nn.mk (ldS.mk (by refine Ok.cellS h (by with_reducible first | exact sl0 | exact .there sl0 | exact .there sl1 | exact .there sl2 | exact .there sl3 | exact .there sl4 | exact .there sl5 | exact .there sl6 | exact .there sl7 | exact .there sl8 | exact .there sl9 | exact .there sl10 | exact .there sl11 | exact .there sl12) ?_; rfl) ?_)
  by_cases hf : q.back = [] ∧ ¬ q.had < n
  · refine jn.mk fun J hJ => ?_
    unfold MP.poll at k
    rw [hf.1] at k
    simp only [List.getLast?_nil, if_neg hf.2] at k
    refine cs.no (decide_eq_false (by rw [← hs, hf.1]; simp)) ?_
    (repeat (first | with_reducible refine dr.mk h fun _ h => ?_ | with_reducible refine nn.mk ?_ | ((first | with_reducible apply ldI.mk | with_reducible apply ldB.mk | with_reducible apply ldP.mk | with_reducible apply ldS.mk | with_reducible apply ldM.mk | with_reducible apply ldF.mk | with_reducible apply ldG.mk); (· exact (by refine Ok.cellS h (by with_reducible first | exact sl0 | exact .there sl0 | exact .there sl1 | exact .there sl2 | exact .there sl3 | exact .there sl4 | exact .there sl5 | exact .there sl6 | exact .there sl7 | exact .there sl8 | exact .there sl9 | exact .there sl10 | exact .there sl11 | exact .there sl12) ?_; rfl))) | (refine st1.mk (Ok.bring h (by with_reducible first | exact sl0 | exact .there sl0 | exact .there sl1 | exact .there sl2 | exact .there sl3 | exact .there sl4 | exact .there sl5 | exact .there sl6 | exact .there sl7 | exact .there sl8 | exact .there sl9 | exact .there sl10 | exact .there sl11 | exact .there sl12)) (by simp) fun _ h => ?_; dsimp only [List.set] at h)))
    refine cs.no (decide_eq_false hf.2) ?_
    exact k _ (mpfI (q := q) (p := p) (s := s) (t := t) (h.emb (by repeat' (first | with_reducible exact Emb.same _ | exact Emb.nil _ | refine Emb.cons (by with_reducible first | exact sl0 | exact .there sl0 | exact .there sl1 | exact .there sl2 | exact .there sl3 | exact .there sl4 | exact .there sl5 | exact .there sl6 | exact .there sl7 | exact .there sl8 | exact .there sl9 | exact .there sl10 | exact .there sl11 | exact .there sl12) ?_ | refine Emb.skip ?_))))
  refine jn.at ((q.poll a n z).1.1, ()) (fun w' => ∃ s', Ok e (pts b [.pointer (some ⟨p, 0, none⟩), .int .i64 a, .int .i64 n, .int .i64 z, .int .i64 (q.poll a n z).2.had, vS s', vS t] :: lineP p [.bool byPri] q.S :: slc 1 s' (ints (q.poll a n z).2.back) :: slc 1 t (ints q.held) :: L) w') (fun J hJ => ?_) (fun w1 h => ?_)
  · unfold MP.poll at hJ
    cases hb : q.back.getLast? with
    | some x =>
      rw [hb] at hJ
      dsimp only at hJ
      have hl := last_app hb
      have hlen2 : q.back.length = q.back.dropLast.length + 1 := by conv => lhs; rw [hl, List.length_append, List.length_singleton]
      have hw : w64 ((s.len : Int) - 1) = ((q.back.dropLast.length : Nat) : Int) := by rw [w64_in (by omega) (by omega)]; omega
      refine cs.yes (decide_eq_true (by omega)) ?_
      rw [hw]
      refine nn.mk (ldS.mk (by refine Ok.cellS h (by with_reducible first | exact sl0 | exact .there sl0 | exact .there sl1 | exact .there sl2 | exact .there sl3 | exact .there sl4 | exact .there sl5 | exact .there sl6 | exact .there sl7 | exact .there sl8 | exact .there sl9 | exact .there sl10 | exact .there sl11 | exact .there sl12) ?_; rfl) ?_)
      refine ix_int (Ok.emb (h) (.cons (A := slc 1 s _) (by with_reducible first | exact sl0 | exact .there sl0 | exact .there sl1 | exact .there sl2 | exact .there sl3 | exact .there sl4 | exact .there sl5 | exact .there sl6 | exact .there sl7 | exact .there sl8 | exact .there sl9 | exact .there sl10 | exact .there sl11 | exact .there sl12) (.same _))) (Int.natCast_nonneg _) (by omega) fun c o y hy hcell => ldI.mk (hcell _ ⟨_, (Ok.emb (h) (.cons (A := slc 1 s _) (by with_reducible first | exact sl0 | exact .there sl0 | exact .there sl1 | exact .there sl2 | exact .there sl3 | exact .there sl4 | exact .there sl5 | exact .there sl6 | exact .there sl7 | exact .there sl8 | exact .there sl9 | exact .there sl10 | exact .there sl11 | exact .there sl12) (.same _)))⟩) ?_
      rw [Int.toNat_natCast] at hy
      have hy2 : y = x := by
        rw [hl, List.getElem?_append_right (by simp)] at hy
        simpa using hy.symm
      subst hy2
      clear hcell
      refine nn.mk (ldS.mk (by refine Ok.cellS h (by with_reducible first | exact sl0 | exact .there sl0 | exact .there sl1 | exact .there sl2 | exact .there sl3 | exact .there sl4 | exact .there sl5 | exact .there sl6 | exact .there sl7 | exact .there sl8 | exact .there sl9 | exact .there sl10 | exact .there sl11 | exact .there sl12) ?_; rfl) ?_)
      refine sb.take (Ok.emb (h) (.cons (A := slc 1 s _) (by with_reducible first | exact sl0 | exact .there sl0 | exact .there sl1 | exact .there sl2 | exact .there sl3 | exact .there sl4 | exact .there sl5 | exact .there sl6 | exact .there sl7 | exact .there sl8 | exact .there sl9 | exact .there sl10 | exact .there sl11 | exact .there sl12) (.same _))) (Int.natCast_nonneg _) (by omega) fun s' hl' hc' h => ?_
      refine nn.mk (st1.mk (Ok.emb (h) (.cons (A := pts b _) (by with_reducible first | exact sl0 | exact .there sl0 | exact .there sl1 | exact .there sl2 | exact .there sl3 | exact .there sl4 | exact .there sl5 | exact .there sl6 | exact .there sl7 | exact .there sl8 | exact .there sl9 | exact .there sl10 | exact .there sl11 | exact .there sl12) (.same _))) (by simp) fun w2 h => hJ _ ⟨s', ?_⟩)
      rw [Int.toNat_natCast, Nat.mul_one, mp_ints_take, show q.back.take q.back.dropLast.length = q.back.dropLast by rw [List.length_dropLast, ← List.dropLast_eq_take]] at h
      dsimp only [List.set, List.tail_cons, List.tail_nil, List.head?_cons, List.head?_nil, Option.getD_some, Option.getD_none] at h
      exact (h.emb (by repeat' (first | with_reducible exact Emb.same _ | exact Emb.nil _ | refine Emb.cons (by with_reducible first | exact sl0 | exact .there sl0 | exact .there sl1 | exact .there sl2 | exact .there sl3 | exact .there sl4 | exact .there sl5 | exact .there sl6 | exact .there sl7 | exact .there sl8 | exact .there sl9 | exact .there sl10 | exact .there sl11 | exact .there sl12) ?_ | refine Emb.skip ?_)))
    | none =>
      have hb0 : q.back = [] := List.getLast?_eq_none_iff.1 hb
      have hlt : q.had < n := Decidable.byContradiction fun h5 => hf ⟨hb0, h5⟩
      rw [hb] at hJ
      simp only [if_pos hlt] at hJ
      refine cs.no (decide_eq_false (by rw [← hs, hb0]; simp)) ?_
      (repeat (first | with_reducible refine dr.mk h fun _ h => ?_ | with_reducible refine nn.mk ?_ | ((first | with_reducible apply ldI.mk | with_reducible apply ldB.mk | with_reducible apply ldP.mk | with_reducible apply ldS.mk | with_reducible apply ldM.mk | with_reducible apply ldF.mk | with_reducible apply ldG.mk); (· exact (by refine Ok.cellS h (by with_reducible first | exact sl0 | exact .there sl0 | exact .there sl1 | exact .there sl2 | exact .there sl3 | exact .there sl4 | exact .there sl5 | exact .there sl6 | exact .there sl7 | exact .there sl8 | exact .there sl9 | exact .there sl10 | exact .there sl11 | exact .there sl12) ?_; rfl))) | (refine st1.mk (Ok.bring h (by with_reducible first | exact sl0 | exact .there sl0 | exact .there sl1 | exact .there sl2 | exact .there sl3 | exact .there sl4 | exact .there sl5 | exact .there sl6 | exact .there sl7 | exact .there sl8 | exact .there sl9 | exact .there sl10 | exact .there sl11 | exact .there sl12)) (by simp) fun _ h => ?_; dsimp only [List.set] at h)))
      refine cs.yes (decide_eq_true hlt) ?_
      (repeat (first | with_reducible refine dr.mk h fun _ h => ?_ | with_reducible refine nn.mk ?_ | ((first | with_reducible apply ldI.mk | with_reducible apply ldB.mk | with_reducible apply ldP.mk | with_reducible apply ldS.mk | with_reducible apply ldM.mk | with_reducible apply ldF.mk | with_reducible apply ldG.mk); (· exact (by refine Ok.cellS h (by with_reducible first | exact sl0 | exact .there sl0 | exact .there sl1 | exact .there sl2 | exact .there sl3 | exact .there sl4 | exact .there sl5 | exact .there sl6 | exact .there sl7 | exact .there sl8 | exact .there sl9 | exact .there sl10 | exact .there sl11 | exact .there sl12) ?_; rfl))) | (refine st1.mk (Ok.bring h (by with_reducible first | exact sl0 | exact .there sl0 | exact .there sl1 | exact .there sl2 | exact .there sl3 | exact .there sl4 | exact .there sl5 | exact .there sl6 | exact .there sl7 | exact .there sl8 | exact .there sl9 | exact .there sl10 | exact .there sl11 | exact .there sl12)) (by simp) fun _ h => ?_; dsimp only [List.set] at h)))
      refine call127 (Align_nums h hz fun w5 h => ⟨(stp z, ()), rfl, (by refine Ok.cellS h (by with_reducible first | exact sl0 | exact .there sl0 | exact .there sl1 | exact .there sl2 | exact .there sl3 | exact .there sl4 | exact .there sl5 | exact .there sl6 | exact .there sl7 | exact .there sl8 | exact .there sl9 | exact .there sl10 | exact .there sl11 | exact .there sl12) ?_; rfl), (by refine Ok.cellS h (by with_reducible first | exact sl0 | exact .there sl0 | exact .there sl1 | exact .there sl2 | exact .there sl3 | exact .there sl4 | exact .there sl5 | exact .there sl6 | exact .there sl7 | exact .there sl8 | exact .there sl9 | exact .there sl10 | exact .there sl11 | exact .there sl12) ?_; rfl), ?_⟩)
      dsimp only
      (repeat (first | with_reducible refine dr.mk h fun _ h => ?_ | with_reducible refine nn.mk ?_ | ((first | with_reducible apply ldI.mk | with_reducible apply ldB.mk | with_reducible apply ldP.mk | with_reducible apply ldS.mk | with_reducible apply ldM.mk | with_reducible apply ldF.mk | with_reducible apply ldG.mk); (· exact (by refine Ok.cellS h (by with_reducible first | exact sl0 | exact .there sl0 | exact .there sl1 | exact .there sl2 | exact .there sl3 | exact .there sl4 | exact .there sl5 | exact .there sl6 | exact .there sl7 | exact .there sl8 | exact .there sl9 | exact .there sl10 | exact .there sl11 | exact .there sl12) ?_; rfl))) | (refine st1.mk (Ok.bring h (by with_reducible first | exact sl0 | exact .there sl0 | exact .there sl1 | exact .there sl2 | exact .there sl3 | exact .there sl4 | exact .there sl5 | exact .there sl6 | exact .there sl7 | exact .there sl8 | exact .there sl9 | exact .there sl10 | exact .there sl11 | exact .there sl12)) (by simp) fun _ h => ?_; dsimp only [List.set] at h)))
      rw [w64_in (x := q.had * stp z) (by omega) (by omega), w64_in (x := a + q.had * stp z) (by omega) (by omega)]
      rw [w64_in (x := q.had + 1) (by omega) (by omega)] at h
      exact hJ _ ⟨s, (h.emb (by repeat' (first | with_reducible exact Emb.same _ | exact Emb.nil _ | refine Emb.cons (by with_reducible first | exact sl0 | exact .there sl0 | exact .there sl1 | exact .there sl2 | exact .there sl3 | exact .there sl4 | exact .there sl5 | exact .there sl6 | exact .there sl7 | exact .there sl8 | exact .there sl9 | exact .there sl10 | exact .there sl11 | exact .there sl12) ?_ | refine Emb.skip ?_)))⟩
  obtain ⟨s', h⟩ := h
  dsimp only
  (repeat (first | with_reducible refine dr.mk h fun _ h => ?_ | with_reducible refine nn.mk ?_ | ((first | with_reducible apply ldI.mk | with_reducible apply ldB.mk | with_reducible apply ldP.mk | with_reducible apply ldS.mk | with_reducible apply ldM.mk | with_reducible apply ldF.mk | with_reducible apply ldG.mk); (· exact (by refine Ok.cellS h (by with_reducible first | exact sl0 | exact .there sl0 | exact .there sl1 | exact .there sl2 | exact .there sl3 | exact .there sl4 | exact .there sl5 | exact .there sl6 | exact .there sl7 | exact .there sl8 | exact .there sl9 | exact .there sl10 | exact .there sl11 | exact .there sl12) ?_; rfl))) | (refine st1.mk (Ok.bring h (by with_reducible first | exact sl0 | exact .there sl0 | exact .there sl1 | exact .there sl2 | exact .there sl3 | exact .there sl4 | exact .there sl5 | exact .there sl6 | exact .there sl7 | exact .there sl8 | exact .there sl9 | exact .there sl10 | exact .there sl11 | exact .there sl12)) (by simp) fun _ h => ?_; dsimp only [List.set] at h)))
  refine call220 (Search_int (Ok.emb (h) (.cons (A := slc 1 t _) (by with_reducible first | exact sl0 | exact .there sl0 | exact .there sl1 | exact .there sl2 | exact .there sl3 | exact .there sl4 | exact .there sl5 | exact .there sl6 | exact .there sl7 | exact .there sl8 | exact .there sl9 | exact .there sl10 | exact .there sl11 | exact .there sl12) (.same _))) ho.up (by omega) ⟨((pos q.held (q.poll a n z).1.1 : Int), decide ((q.poll a n z).1.1 ∈ q.held), ()), rfl, ?_⟩)
  dsimp only
  (repeat (first | with_reducible refine dr.mk h fun _ h => ?_ | with_reducible refine nn.mk ?_ | ((first | with_reducible apply ldI.mk | with_reducible apply ldB.mk | with_reducible apply ldP.mk | with_reducible apply ldS.mk | with_reducible apply ldM.mk | with_reducible apply ldF.mk | with_reducible apply ldG.mk); (· exact (by refine Ok.cellS h (by with_reducible first | exact sl0 | exact .there sl0 | exact .there sl1 | exact .there sl2 | exact .there sl3 | exact .there sl4 | exact .there sl5 | exact .there sl6 | exact .there sl7 | exact .there sl8 | exact .there sl9 | exact .there sl10 | exact .there sl11 | exact .there sl12) ?_; rfl))) | (refine st1.mk (Ok.bring h (by with_reducible first | exact sl0 | exact .there sl0 | exact .there sl1 | exact .there sl2 | exact .there sl3 | exact .there sl4 | exact .there sl5 | exact .there sl6 | exact .there sl7 | exact .there sl8 | exact .there sl9 | exact .there sl10 | exact .there sl11 | exact .there sl12)) (by simp) fun _ h => ?_; dsimp only [List.set] at h)))
  refine al.mk h fun c w2 h => ?_
  refine call126 (Insert_one (y := (q.poll a n z).1.1) (Ok.emb (h) (.cons (A := pts c _) (by with_reducible first | exact sl0 | exact .there sl0 | exact .there sl1 | exact .there sl2 | exact .there sl3 | exact .there sl4 | exact .there sl5 | exact .there sl6 | exact .there sl7 | exact .there sl8 | exact .there sl9 | exact .there sl10 | exact .there sl11 | exact .there sl12) (.cons (A := slc 1 t _) (by with_reducible first | exact sl0 | exact .there sl0 | exact .there sl1 | exact .there sl2 | exact .there sl3 | exact .there sl4 | exact .there sl5 | exact .there sl6 | exact .there sl7 | exact .there sl8 | exact .there sl9 | exact .there sl10 | exact .there sl11 | exact .there sl12) (.same _)))) (pos_le _ _) (by omega) fun t' w3 h => ⟨(t', ()), rfl, ?_⟩)
  dsimp only
  (repeat (first | with_reducible refine dr.mk h fun _ h => ?_ | with_reducible refine nn.mk ?_ | ((first | with_reducible apply ldI.mk | with_reducible apply ldB.mk | with_reducible apply ldP.mk | with_reducible apply ldS.mk | with_reducible apply ldM.mk | with_reducible apply ldF.mk | with_reducible apply ldG.mk); (· exact (by refine Ok.cellS h (by with_reducible first | exact sl0 | exact .there sl0 | exact .there sl1 | exact .there sl2 | exact .there sl3 | exact .there sl4 | exact .there sl5 | exact .there sl6 | exact .there sl7 | exact .there sl8 | exact .there sl9 | exact .there sl10 | exact .there sl11 | exact .there sl12) ?_; rfl))) | (refine st1.mk (Ok.bring h (by with_reducible first | exact sl0 | exact .there sl0 | exact .there sl1 | exact .there sl2 | exact .there sl3 | exact .there sl4 | exact .there sl5 | exact .there sl6 | exact .there sl7 | exact .there sl8 | exact .there sl9 | exact .there sl10 | exact .there sl11 | exact .there sl12)) (by simp) fun _ h => ?_; dsimp only [List.set] at h)))
  have hk : (q.poll a n z).1.2 = true ∧ (q.poll a n z).2.S = q.S ∧ (q.poll a n z).2.held = insU q.held (q.poll a n z).1.1 := by
    unfold MP.poll
    cases hb : q.back.getLast? with
    | some x => exact ⟨rfl, rfl, rfl⟩
    | none =>
      have hb0 : q.back = [] := List.getLast?_eq_none_iff.1 hb
      have hlt : q.had < n := Decidable.byContradiction fun h5 => hf ⟨hb0, h5⟩
      simp only [if_pos hlt, and_self]
  rw [hk.1] at k
  refine k _ (mpfI (p := p) (s := s') (t := t') ?_)
  rw [hk.2.1, hk.2.2]
  unfold insU
  exact (h.emb (by repeat' (first | with_reducible exact Emb.same _ | exact Emb.nil _ | refine Emb.cons (by with_reducible first | exact sl0 | exact .there sl0 | exact .there sl1 | exact .there sl2 | exact .there sl3 | exact .there sl4 | exact .there sl5 | exact .there sl6 | exact .there sl7 | exact .there sl8 | exact .there sl9 | exact .there sl10 | exact .there sl11 | exact .there sl12) ?_ | refine Emb.skip ?_)))

set_option maxHeartbeats 1000000 in
theorem Put_mpf {e w L b byPri a n z q x R} (h : Ok e (mpfP b byPri a n z q :: L) w) (ho : MPo a n z q)
    (k : ∀ w', Ok e (mpfP b byPri a n z (q.put x).2 :: L) w' → R [.int .i64 (q.put x).1.1, .int .i64 (q.put x).1.2] w') : sh156 (some ⟨b, 0, none⟩) x R w := by
  unfold sh156
  unfold MP.put at k
  have hlen := ho.len
  have hhad := ho.had
  have hc := ho.c
  have hup := ho.up
  have l1 := okL_len ho.line
  obtain ⟨p, s, t, hs, ht, h⟩ := mpfE h
  refine nn.mk (ldS.mk (by refine Ok.cellS h (by with_reducible first | exact sl0 | exact .there sl0 | exact .there sl1 | exact .there sl2 | exact .there sl3 | exact .there sl4 | exact .there sl5 | exact .there sl6 | exact .there sl7 | exact .there sl8 | exact .there sl9 | exact .there sl10 | exact .there sl11 | exact .there sl12) ?_; rfl) ?_)
  refine call220 (Search_int (Ok.emb (h) (.cons (A := slc 1 t _) (by with_reducible first | exact sl0 | exact .there sl0 | exact .there sl1 | exact .there sl2 | exact .there sl3 | exact .there sl4 | exact .there sl5 | exact .there sl6 | exact .there sl7 | exact .there sl8 | exact .there sl9 | exact .there sl10 | exact .there sl11 | exact .there sl12) (.same _))) hup (by omega) ⟨((pos q.held x : Int), decide (x ∈ q.held), ()), rfl, ?_⟩)
  dsimp only
  refine cs.mk (fun hm => ?_) (fun hm => ?_)
  · have hm : x ∉ q.held := by simpa using hm
    rw [if_neg hm] at k
    exact k w (mpfI (q := q) (p := p) (s := s) (t := t) (h.emb (by repeat' (first | with_reducible exact Emb.same _ | exact Emb.nil _ | refine Emb.cons (by with_reducible first | exact sl0 | exact .there sl0 | exact .there sl1 | exact .there sl2 | exact .there sl3 | exact .there sl4 | exact .there sl5 | exact .there sl6 | exact .there sl7 | exact .there sl8 | exact .there sl9 | exact .there sl10 | exact .there sl11 | exact .there sl12) ?_ | refine Emb.skip ?_))))
  have hm : x ∈ q.held := by simpa using hm
  rw [if_pos hm] at k
  have hpl := pos_lt hup hm
  refine nn.mk (ldP.mk (by refine Ok.cellS h (by with_reducible first | exact sl0 | exact .there sl0 | exact .there sl1 | exact .there sl2 | exact .there sl3 | exact .there sl4 | exact .there sl5 | exact .there sl6 | exact .there sl7 | exact .there sl8 | exact .there sl9 | exact .there sl10 | exact .there sl11 | exact .there sl12) ?_; rfl) ?_)
  refine call214 (Take_order (Ok.emb (h) (.cons (A := lineP p _ _) (by with_reducible first | exact sl0 | exact .there sl0 | exact .there sl1 | exact .there sl2 | exact .there sl3 | exact .there sl4 | exact .there sl5 | exact .there sl6 | exact .there sl7 | exact .there sl8 | exact .there sl9 | exact .there sl10 | exact .there sl11 | exact .there sl12) (.same _))) (by omega) fun w1 h => ⟨(((q.S.head?.getD (0, 0)).1, (q.S.head?.getD (0, 0)).2, ()), !q.S.isEmpty, ()), rfl, ?_⟩)
  refine al.mk h fun c w2 h => st1.mk h (by simp) fun w3 h => st1.mk h (by simp) fun w4 h => ?_
  dsimp only
  obtain ⟨S, had, back, held⟩ := q
  dsimp only at *
  cases S with
  | cons y S =>
    refine cs.yes rfl (ldI.mk (h.cell rfl) (k w4 ?_))
    exact mpfI (q := ⟨S, had, back, held⟩) (p := p) (s := s) (t := t) (h.emb (by repeat' (first | with_reducible exact Emb.same _ | exact Emb.nil _ | refine Emb.cons (by with_reducible first | exact sl0 | exact .there sl0 | exact .there sl1 | exact .there sl2 | exact .there sl3 | exact .there sl4 | exact .there sl5 | exact .there sl6 | exact .there sl7 | exact .there sl8 | exact .there sl9 | exact .there sl10 | exact .there sl11 | exact .there sl12) ?_ | refine Emb.skip ?_)))
  | nil =>
    refine cs.no rfl ?_
    refine nn.mk (ldS.mk (by refine Ok.cellS h (by with_reducible first | exact sl0 | exact .there sl0 | exact .there sl1 | exact .there sl2 | exact .there sl3 | exact .there sl4 | exact .there sl5 | exact .there sl6 | exact .there sl7 | exact .there sl8 | exact .there sl9 | exact .there sl10 | exact .there sl11 | exact .there sl12) ?_; rfl) ?_)
    rw [w64_in (x := (pos held x : Int) + 1) (by omega) (by omega)]
    refine call219 (Delete_int (Ok.emb (h) (.cons (A := slc 1 t _) (by with_reducible first | exact sl0 | exact .there sl0 | exact .there sl1 | exact .there sl2 | exact .there sl3 | exact .there sl4 | exact .there sl5 | exact .there sl6 | exact .there sl7 | exact .there sl8 | exact .there sl9 | exact .there sl10 | exact .there sl11 | exact .there sl12) (.same _))) hpl (by omega) fun t' w5 h => ⟨(t', ()), rfl, ?_⟩)
    dsimp only
    refine nn.mk (st1.mk (Ok.emb (h) (.cons (A := pts b _) (by with_reducible first | exact sl0 | exact .there sl0 | exact .there sl1 | exact .there sl2 | exact .there sl3 | exact .there sl4 | exact .there sl5 | exact .there sl6 | exact .there sl7 | exact .there sl8 | exact .there sl9 | exact .there sl10 | exact .there sl11 | exact .there sl12) (.same _))) (by simp) fun w6 h => ?_)
    dsimp only [List.set, List.tail_cons, List.tail_nil, List.head?_cons, List.head?_nil, Option.getD_some, Option.getD_none] at h
    refine nn.mk (ldS.mk (by refine Ok.cellS h (by with_reducible first | exact sl0 | exact .there sl0 | exact .there sl1 | exact .there sl2 | exact .there sl3 | exact .there sl4 | exact .there sl5 | exact .there sl6 | exact .there sl7 | exact .there sl8 | exact .there sl9 | exact .there sl10 | exact .there sl11 | exact .there sl12) ?_; rfl) ?_)
    refine al.mk h fun c2 w6 h => ?_
    refine ef.append1 (n := 1) slT_int (by decide) (Ok.emb (h) (.cons (A := pts c2 _) (by with_reducible first | exact sl0 | exact .there sl0 | exact .there sl1 | exact .there sl2 | exact .there sl3 | exact .there sl4 | exact .there sl5 | exact .there sl6 | exact .there sl7 | exact .there sl8 | exact .there sl9 | exact .there sl10 | exact .there sl11 | exact .there sl12) (.cons (A := slc 1 s _) (by with_reducible first | exact sl0 | exact .there sl0 | exact .there sl1 | exact .there sl2 | exact .there sl3 | exact .there sl4 | exact .there sl5 | exact .there sl6 | exact .there sl7 | exact .there sl8 | exact .there sl9 | exact .there sl10 | exact .there sl11 | exact .there sl12) (.same _)))) rfl (by intro v hv; simp at hv; subst hv; rfl) (by omega) fun s2 w7 hl2 h => ?_
    refine nn.mk (st1.mk (Ok.emb (h) (.cons (A := pts b _) (by with_reducible first | exact sl0 | exact .there sl0 | exact .there sl1 | exact .there sl2 | exact .there sl3 | exact .there sl4 | exact .there sl5 | exact .there sl6 | exact .there sl7 | exact .there sl8 | exact .there sl9 | exact .there sl10 | exact .there sl11 | exact .there sl12) (.same _))) (by simp) fun w8 h => k w8 ?_)
    rw [mp_ints_snoc] at h
    dsimp only [List.set, List.tail_cons, List.tail_nil, List.head?_cons, List.head?_nil, Option.getD_some, Option.getD_none] at h
    refine mpfI (q := ⟨[], had, back ++ [x], delU held x⟩) (s := s2) (p := p) (t := t') ?_
    unfold delU
    exact (h.emb (by repeat' (first | with_reducible exact Emb.same _ | exact Emb.nil _ | refine Emb.cons (by with_reducible first | exact sl0 | exact .there sl0 | exact .there sl1 | exact .there sl2 | exact .there sl3 | exact .there sl4 | exact .there sl5 | exact .there sl6 | exact .there sl7 | exact .there sl8 | exact .there sl9 | exact .there sl10 | exact .there sl11 | exact .there sl12) ?_ | refine Emb.skip ?_)))

end Go.Proofs.YtenonfkfoedfmaaGreatDoor.B


/- The kernel as plain Lean: what its calls compute, wherever they do not fail. -/
namespace Go.Proofs.YtenonfkfoedfmaaGreatDoor.B
open Go
set_option linter.unusedVariables false

def getO {α : Type} (l : List α) (i : Int) : Option α := if 0 ≤ i then l[i.toNat]? else none

/-! ### entries of the clock -/
structure Ent where
  at' : Int
  hd : Int
  arg : Int
  deriving DecidableEq

def Ent.lt (a b : Ent) : Bool := decide (a.at' < b.at') || (a.at' == b.at' && decide (a.hd < b.hd))

def insE (x : Ent) : List Ent → List Ent
  | [] => [x]
  | y :: r => if x.lt y then x :: y :: r else y :: insE x r

def delE (h : Int) (l : List Ent) : List Ent := l.filter fun x => !(x.hd == h)

def dueE (now : Int) (l : List Ent) : List Ent := l.takeWhile fun x => decide (x.at' ≤ now)

def restE (now : Int) (l : List Ent) : List Ent := l.dropWhile fun x => decide (x.at' ≤ now)

/-! ### mutexes -/
structure Mx where
  attr : Int
  ceil : Int
  owner : Int
  wait : List Int
  deriving DecidableEq

structure Mt where
  base : Int
  pri : Int
  waits : Int
  deriving DecidableEq

structure MM where
  m : List Mx
  t : List Mt
  deriving DecidableEq

namespace MM

def base (M : MM) (n : Int) : Option Int := if 1 ≤ n ∧ n ≤ 16 then (getO M.t n).map Mt.base else some 0

def pri (M : MM) (n : Int) : Option Int := if 1 ≤ n ∧ n ≤ 16 then (getO M.t n).map Mt.pri else some 0

def rkL (rk : Int → Option Int) : List Int → Int → Option Int
  | [], p => some p
  | w :: r, p => (rk w).bind fun q => rkL rk r (if q < p then q else p)

def rkM (rk : Int → Option Int) (n deep : Int) : List Mx → Int → Option Int
  | [], p => some p
  | x :: r, p =>
    if x.owner ≠ n ∨ deep > 16 then rkM rk n deep r p
    else if x.attr = 3 then rkM rk n deep r (if x.ceil < p then x.ceil else p)
    else if x.attr = 2 then if x.wait.length ≤ 64 then (rkL rk x.wait p).bind fun p => rkM rk n deep r p else none
    else rkM rk n deep r p

def reckon (M : MM) : Nat → Int → Int → Option Int
  | 0, _, _ => none
  | f + 1, n, deep => (getO M.t n).bind fun t => rkM (fun w => reckon M f w (deep + 1)) n deep (M.m.drop 1) t.base

/-- where a task of a priority comes to stand in a row -/
def standK (M : MM) (attr pn : Int) (l : List Int) : Nat → Option Nat
  | 0 => some 0
  | i + 1 =>
    if attr = 0 then some (i + 1)
    else (l[i]?).bind fun w => (getO M.t w).bind fun tw => if tw.pri > pn then standK M attr pn l i else some (i + 1)

def setW (M : MM) (m : Int) (l : List Int) : Option MM :=
  (getO M.m m).bind fun x => if l.length ≤ 64 then some { M with m := M.m.set m.toNat { x with wait := l } } else none

def setO (M : MM) (m o : Int) : Option MM := (getO M.m m).map fun x => { M with m := M.m.set m.toNat { x with owner := o } }

def setPri (M : MM) (n p : Int) : Option MM := (getO M.t n).map fun x => { M with t := M.t.set n.toNat { x with pri := p } }

def setWaits (M : MM) (n m : Int) : Option MM := (getO M.t n).map fun x => { M with t := M.t.set n.toNat { x with waits := m } }

def setB (M : MM) (n b : Int) : Option MM := (getO M.t n).map fun x => { M with t := M.t.set n.toNat { x with base := b } }

def stand (M : MM) (m n : Int) : Option MM :=
  (getO M.m m).bind fun x => (getO M.t n).bind fun tn => (standK M x.attr tn.pri x.wait x.wait.length).bind fun i =>
    setW M m (x.wait.take i ++ [n] ++ x.wait.drop i)

/-- the priorities of tasks n, n + 1, .. -/
def prs (M : MM) (n : Nat) : Nat → Option (List Int)
  | 0 => some []
  | k + 1 => (reckon M 18 n 0).bind fun p => (prs M (n + 1) k).map fun r => p :: r

/-- those that wait stand as they stood: nobody's priority is another one -/
def anew1 (ps : List Int) : List Int → MM → Option Unit
  | [], M => some ()
  | n :: r, M => (getO ps n).bind fun p => (getO M.t n).bind fun x => if p = x.pri then anew1 ps r M else none

def anew (ps : List Int) (m : Nat) : Nat → MM → Option Unit
  | 0, M => some ()
  | k + 1, M => (getO M.m m).bind fun x => if x.wait.length ≤ 64 then (anew1 ps x.wait M).bind fun _ => anew ps (m + 1) k M else none

def setPris (ps : List Int) (n : Nat) : Nat → MM → Option MM
  | 0, M => some M
  | k + 1, M => (getO ps n).bind fun p => (setPri M n p).bind fun M => setPris ps (n + 1) k M

def settle (M : MM) : Option MM :=
  (prs M 1 16).bind fun r => (anew (0 :: r) 1 (M.m.length - 1) M).bind fun _ => setPris (0 :: r) 1 16 M

/-- does something speak against a base priority? -/
def against (M : MM) (n p : Int) (tw : Int) : List Mx → Nat → Bool
  | [], _ => false
  | x :: r, m => if x.attr = 3 ∧ x.ceil > p ∧ (x.owner = n ∨ tw = (m : Int)) then true else against M n p tw r (m + 1)

def setBase (M : MM) (n p : Int) : Option (Int × MM) :=
  if ¬ (1 ≤ n ∧ n ≤ 16) then some (-18, M)
  else if ¬ (1 ≤ p ∧ p ≤ 16) then some (-17, M)
  else (getO M.t n).bind fun t => if against M n p t.waits (M.m.drop 1) 1 then some (-28, M)
    else (setB M n p).bind fun M => (settle M).map fun M => (0, M)

def over (M : MM) (holder : Int) : Nat → Int → Option Bool
  | 0, _ => some false
  | f + 1, n => (getO M.t n).bind fun t => if t.waits = 0 then some false else (getO M.m t.waits).bind fun x =>
    if x.owner = holder then some true else if x.owner = 0 then some false else over M holder f x.owner

def isIn (M : MM) (m : Int) : Bool := decide (1 ≤ m ∧ m < M.m.length)

def tryLock (M : MM) (m n : Int) : Option ((Bool × Int) × MM) :=
  if ¬ (isIn M m = true ∧ 1 ≤ n ∧ n ≤ 16) then some ((false, -18), M)
  else (getO M.m m).bind fun x => (getO M.t n).bind fun t =>
    if x.owner = n ∨ (x.attr = 3 ∧ t.base < x.ceil) then some ((false, -28), M)
    else if t.waits > 0 then some ((false, -41), M)
    else if x.owner = 0 then (setO M m n).bind fun M => (settle M).map fun M => ((true, 0), M)
    else some ((false, 0), M)

def lock (M : MM) (m n : Int) : Option ((Bool × Int) × MM) :=
  (tryLock M m n).bind fun r =>
    if r.1.1 = true ∨ r.1.2 ≠ 0 then some r
    else (getO M.m m).bind fun x => (over M n 17 x.owner).bind fun o =>
      if o then some ((false, -28), M)
      else (stand M m n).bind fun M => (setWaits M n m).bind fun M => (settle M).map fun M => ((false, 0), M)

/-- the next one has it -/
def pass (M : MM) (m : Int) : Option MM :=
  (getO M.m m).bind fun x => match x.wait with
    | [] => setO M m 0
    | w :: r => (setO M m w).bind fun M => (setW M m r).bind fun M => setWaits M w 0

def unlock (M : MM) (m n : Int) : Option ((Int × Int) × MM) :=
  if ¬ (isIn M m = true ∧ 1 ≤ n ∧ n ≤ 16) then some ((0, -18), M)
  else (getO M.m m).bind fun x =>
    if x.owner ≠ n then some ((0, -28), M)
    else (pass M m).bind fun M => (settle M).bind fun M => (getO M.m m).map fun x => ((x.owner, 0), M)

def heldFrom (n : Int) : List Mx → Nat → List Int
  | [], _ => []
  | x :: r, m => if x.owner = n then (m : Int) :: heldFrom n r (m + 1) else heldFrom n r (m + 1)

def held (M : MM) (n : Int) : List Int := if 1 ≤ n ∧ n ≤ 16 then heldFrom n (M.m.drop 1) 1 else []

def freeL (n : Int) : List Int → MM → List Int → Option (List Int × MM)
  | [], M, out => some (out, M)
  | m :: r, M, out => (unlock M m n).bind fun x => freeL n r x.2 (if x.1.2 = 0 ∧ x.1.1 > 0 then out ++ [x.1.1] else out)

def free (M : MM) (n : Int) : Option (List Int × MM) := freeL n (held M n) M []

def owner (M : MM) (m : Int) : Int := if isIn M m then ((getO M.m m).map Mx.owner).getD 0 else 0

def waiting (M : MM) (m : Int) : List Int := if isIn M m then ((getO M.m m).map Mx.wait).getD [] else []

def mt0 : Mt := ⟨16, 16, 0⟩

def right (k : Int × Int) : Bool := decide (((k.1 = 0 ∨ k.1 = 1 ∨ k.1 = 2) ∧ k.2 = 0) ∨ (k.1 = 3 ∧ 1 ≤ k.2 ∧ k.2 ≤ 16))

def new (l : List (Int × Int)) : MM := ⟨⟨0, 0, 0, []⟩ :: l.map (fun k => ⟨k.1, k.2, 0, []⟩), List.replicate 17 mt0⟩

end MM

/-! ### the kernel -/
structure Un where
  acts : Int
  wups : Int
  susps : Int
  state : Int
  asleep : Bool
  base : Int
  pri : Int
  kind : Int
  obj : Int
  handle : Int
  lc : Int
  lv : Int
  deriving DecidableEq

structure SemM where
  byPri : Bool
  c : Int
  m : Int
  l : List (Int × Int)
  deriving DecidableEq

structure DatM where
  byPri : Bool
  room : Int
  q : DQ

structure PoolM where
  byPri : Bool
  a : Int
  n : Int
  z : Int
  q : MP

structure KM where
  pl : PlaceM
  tic : Int
  up : Int
  tb : Int
  last : Int
  ents : List Ent
  rdy : List (Int × Int)
  mm : MM
  us : List Un
  sems : List SemM
  datas : List DatM
  pools : List PoolM
  who : Int

namespace KM

def choose (K : KM) : KM := if K.pl.dispatch then { K with who := (K.rdy.head?.getD (0, 0)).1 } else K

def un (K : KM) (n : Int) : Option Un := getO K.us (n - 1)

def setU (K : KM) (n : Int) (u : Un) : KM := { K with us := K.us.set (n - 1).toNat u }

def enter (K : KM) (n : Int) : Option KM :=
  (K.un n).bind fun u => if u.state = 2 then (K.mm.pri n).map fun p => { K.setU n { u with pri := p } with rdy := (addL true K.rdy n p).2 } else some K

def act (K : KM) (n : Int) : Option (Int × KM) :=
  (K.un n).bind fun u =>
    if ¬ (0 ≤ u.acts ∧ u.acts ≤ 7) then none
    else if u.state = 16 then ((K.setU n { u with state := 2, lc := 0, lv := 0 }).enter n).map fun K => (0, K)
    else if u.acts ≥ 7 then some (-43, K)
    else some (0, K.setU n { u with acts := u.acts + 1 })

def settle1 (K : KM) (n : Int) : Option KM :=
  (K.un n).bind fun u => (K.mm.pri n).bind fun p =>
    if p = u.pri then some K
    else if (chgL true K.rdy n p).1 = true then some { K.setU n { u with pri := p } with rdy := (chgL true K.rdy n p).2 }
    else if u.kind = 0 ∨ u.kind = 1 ∨ u.kind = 2 ∨ u.kind = 7 then some { K.setU n { u with pri := p } with rdy := (chgL true K.rdy n p).2 }
    else none

def settleFrom (n : Nat) : Nat → KM → Option KM
  | 0, K => some K
  | k + 1, K => (K.settle1 n).bind fun K => settleFrom (n + 1) k K

def settle (K : KM) : Option KM := settleFrom 1 K.us.length K

def leave (K : KM) (n : Int) : Option KM :=
  (K.un n).bind fun u =>
    if u.kind = 3 then (getO K.sems (u.obj - 1)).map fun s => { K with sems := K.sems.set (u.obj - 1).toNat { s with l := rmL s.l n } }
    else if u.kind = 0 ∨ u.kind = 1 ∨ u.kind = 2 then some K
    else none

def forget (K : KM) (n : Int) : Option KM :=
  (K.un n).map fun u => { K.setU n { u with kind := 0, obj := 0, handle := 0 } with ents := delE u.handle K.ents }

def told (K : KM) (n c v : Int) : Option KM :=
  (K.forget n).bind fun K => (K.un n).bind fun u => (K.setU n { u with lc := c, lv := v }).enter n

def _root_.Go.Proofs.YtenonfkfoedfmaaGreatDoor.B.Un.release (u : Un) : Un :=
  if u.state = 4 then { u with state := 2, asleep := false } else if u.state = 12 then { u with state := 8, asleep := false } else u

def wake (K : KM) (n c v : Int) : Option KM := (K.un n).bind fun u => (K.setU n u.release).told n c v

def woken (v : Int) : List Int → KM → Option KM
  | [], K => some K
  | n :: r, K => if n > 0 then (K.wake n 0 v).bind fun K => woken v r K else woken v r K

/-- a time-out is laid -/
def wait (K : KM) (d arg : Int) : Option (Int × KM) :=
  if 0 ≤ d ∧ d ≤ 2147483647 ∧ 0 ≤ arg ∧ arg ≤ 1000 ∧ K.ents.length < 256 ∧ 0 ≤ K.up ∧ K.up ≤ 2 ^ 40 ∧ 0 ≤ K.last ∧ K.last ≤ 2 ^ 40
  then some (K.last + 1, { K with last := K.last + 1, ents := insE ⟨K.up + d + K.tic, K.last + 1, arg⟩ K.ents }) else none

def stay (K : KM) (kind obj tmo : Int) : Option KM :=
  (K.un K.who).bind fun u =>
    let u1 : Un := if kind ≠ 1 ∧ u.state = 2 then { u with state := 4, asleep := false } else u
    let K1 : KM := { K with rdy := rmL K.rdy K.who }
    if tmo ≥ 0 then (K1.wait tmo K.who).bind fun r => (r.2.setU K.who { u1 with kind := kind, obj := obj, handle := r.1 }).settle
    else (K1.setU K.who { u1 with kind := kind, obj := obj }).settle

def _root_.Go.Proofs.YtenonfkfoedfmaaGreatDoor.B.Un.kill (u : Un) : Bool × Un :=
  if u.state = 16 then (false, u)
  else if u.acts = 0 then (false, { u with state := 16, asleep := false, wups := 0, susps := 0 })
  else (true, { u with state := 2, asleep := false, wups := 0, susps := 0, acts := u.acts - 1 })

def over (K : KM) (n : Int) : Option KM :=
  (K.leave n).bind fun K => (K.forget n).bind fun K => (K.un n).bind fun u => if ¬ (0 ≤ u.acts ∧ u.acts ≤ 7) then none else
    (K.mm.free n).bind fun f => (f.2.setBase n u.base).bind fun b =>
      let K1 : KM := { K.setU n u.kill.2 with rdy := rmL K.rdy n, mm := b.2 }
      (woken 0 f.1 K1).bind fun K => (if u.kill.1 = true then (K.un n).bind fun u => (K.setU n { u with lc := 0, lv := 0 }).enter n else some K).bind fun K => K.settle

def tickL : List Int → KM → Option KM
  | [], K => some K
  | n :: r, K => (K.un n).bind fun u => (K.leave n).bind fun K => (K.wake n (if u.kind = 2 then 0 else -50) 0).bind fun K => (K.settle).bind fun K => tickL r K

def tick (K : KM) : Option KM :=
  if 0 ≤ K.up ∧ K.up ≤ 2 ^ 40 then
    (tickL ((dueE (K.up + K.tic) K.ents).map Ent.arg) { K with up := K.up + K.tic, ents := restE (K.up + K.tic) K.ents }).map choose
  else none

def intr (K : KM) (level : Int) : Int × KM := ((K.pl.enter level).1, ({ K with pl := (K.pl.enter level).2 } : KM).choose)

def retn (K : KM) : Int × KM := (K.pl.exit.1, ({ K with pl := K.pl.exit.2 } : KM).choose)

/-! ### what is told -/
structure Fact where
  state : Int
  pri : Int
  base : Int
  kind : Int
  obj : Int
  lc : Int
  lv : Int
  acts : Int
  wups : Int
  susps : Int

def task (K : KM) (n : Int) : Option Fact :=
  (K.un n).bind fun u => (K.mm.pri n).bind fun p => (K.mm.base n).map fun b =>
    ⟨if n = K.who then 1 else u.state, p, b, u.kind, u.obj, u.lc, u.lv, u.acts, u.wups, u.susps⟩

def state (K : KM) (n : Int) : Option Int := (K.task n).map Fact.state

/-! ### calls -/
def may (K : KM) (kind : Int) : Int := K.pl.may kind (decide (K.who = 0))

/-- a call of a kind: its code, its value -/
def call (K : KM) (kind : Int) (f : KM → Option ((Int × Int) × KM)) : Option ((Int × Int) × KM) :=
  if K.may kind ≠ 0 then some ((K.may kind, 0), K) else (f K).map fun r => (r.1, r.2.choose)

end KM

end Go.Proofs.YtenonfkfoedfmaaGreatDoor.B


/- The kernel as plain Lean: how it is made, and its calls. -/
namespace Go.Proofs.YtenonfkfoedfmaaGreatDoor.B
open Go
set_option linter.unusedVariables false

structure ConfM where
  tic : Int
  tasks : List (Int × Bool)
  sems : List (Bool × Int × Int)
  datas : List (Bool × Int)
  mtxs : List (Int × Int)
  pools : List (Bool × Int × Int)

def layoutM : Int → List (Bool × Int × Int) → List Int
  | _, [] => []
  | a, p :: r => stp a :: layoutM (stp a + p.2.1 * stp p.2.2) r

def bytesM : Int → List (Bool × Int × Int) → Int
  | a, [] => a
  | a, p :: r => bytesM (stp a + p.2.1 * stp p.2.2) r

/-- may there be such pools, from a place on? -/
def poolsOk : Int → List (Bool × Int × Int) → Bool
  | _, [] => true
  | a, p :: r => decide (mpGood (stp a) p.2.1 p.2.2) && poolsOk (stp a + p.2.1 * stp p.2.2) r

namespace ConfM

def ok (c : ConfM) : Bool :=
  decide (1 ≤ c.tic ∧ c.tic ≤ 1000 ∧ 1 ≤ c.tasks.length ∧ c.tasks.length ≤ 16 ∧ c.sems.length ≤ 8 ∧ c.datas.length ≤ 8 ∧ c.mtxs.length ≤ 8 ∧ c.pools.length ≤ 8)
  && c.tasks.all (fun x => decide (1 ≤ x.1 ∧ x.1 ≤ 16)) && c.sems.all (fun x => decide (1 ≤ x.2.2 ∧ x.2.2 ≤ 65535 ∧ 0 ≤ x.2.1 ∧ x.2.1 ≤ x.2.2))
  && c.datas.all (fun x => decide (0 ≤ x.2 ∧ x.2 ≤ 64)) && c.mtxs.all MM.right && poolsOk 0 c.pools

end ConfM

namespace KM

def unNew (pri : Int) : Un := ⟨0, 0, 0, 16, false, pri, pri, 0, 0, 0, 0, 0⟩

def new0 (c : ConfM) : KM :=
  ⟨⟨[], false, false⟩, c.tic, 0, 0, 0, [], [], MM.new c.mtxs, [], c.sems.map (fun s => ⟨s.1, s.2.1, s.2.2, []⟩), c.datas.map (fun d => ⟨d.1, d.2, dqNew⟩),
    List.zipWith (fun a p => ⟨p.1, a, p.2.1, p.2.2, mp0⟩) (layoutM 0 c.pools) c.pools, 0⟩

def newT (i : Nat) : List (Int × Bool) → KM → Option KM
  | [], K => some K
  | x :: r, K => (K.mm.setBase ((i : Int) + 1) x.1).bind fun b => newT (i + 1) r { K with mm := b.2, us := K.us ++ [unNew x.1] }

def newA (i : Nat) : List (Int × Bool) → KM → Option KM
  | [], K => some K
  | x :: r, K => if x.2 = true then (K.act ((i : Int) + 1)).bind fun a => newA (i + 1) r a.2 else newA (i + 1) r K

def new (c : ConfM) : Option KM := ((newT 0 c.tasks (new0 c)).bind (newA 0 c.tasks)).map choose

abbrev Ans := Option ((Int × Int) × KM)

/-- the task that a call names -/
def named (K : KM) (n : Int) (poly : Bool) : Int := if 1 ≤ n ∧ n ≤ K.us.length then n else if n = 0 ∧ poly = true then K.who else 0

def byTask (K : KM) (n : Int) (poly : Bool) (f : Int → Ans) : Ans := if K.named n poly = 0 then some ((-18, 0), K) else f (K.named n poly)

def cAct (n : Int) (K : KM) : Ans := K.byTask n true fun n => (K.act n).map fun r => ((r.1, 0), r.2)

def cIact (n : Int) (K : KM) : Ans := K.byTask n false fun n => (K.act n).map fun r => ((r.1, 0), r.2)

def cExt (K : KM) : Ans := if K.who = 0 then some ((-18, 0), K) else (({ K with pl := { K.pl with locked := false, disabled := false } } : KM).over K.who).map fun K => ((0, 0), K)

def cTer (n : Int) (K : KM) : Ans := K.byTask n false fun n => (K.un n).bind fun u =>
  if n = K.who then some ((-28, 0), K) else if u.state = 16 then some ((-41, 0), K) else (K.over n).map fun K => ((0, 0), K)

def cChg (n pri : Int) (K : KM) : Ans := K.byTask n true fun n => (K.un n).bind fun u =>
  if pri < 0 ∨ pri > 16 then some ((-17, 0), K)
  else if u.state = 16 then some ((-41, 0), K)
  else (K.mm.setBase n (if pri = 0 then u.base else pri)).bind fun b =>
    if b.1 ≠ 0 then some ((b.1, 0), { K with mm := b.2 })
    else (({ K with mm := b.2 } : KM).settle).bind fun K => (K.mm.pri n).map fun p => ((0, 0), { K with rdy := (chgL true K.rdy n p).2 })

def cPri (n : Int) (K : KM) : Ans := K.byTask n true fun n => (K.un n).bind fun u => if u.state = 16 then some ((-41, 0), K) else (K.mm.pri n).map fun p => ((0, p), K)

def cTid (K : KM) : Ans := if K.who = 0 then some ((-18, 0), K) else some ((0, K.who), K)

def cItid (K : KM) : Ans := some ((0, K.who), K)

def cSlp (K : KM) : Ans := if K.who = 0 then some ((-18, 0), K) else (K.un K.who).bind fun u =>
  if ¬ (0 ≤ u.wups ∧ u.wups ≤ 7) then none
  else if u.state ≠ 2 then some ((-41, 0), K)
  else if u.wups > 0 then some ((0, 0), K.setU K.who { u with wups := u.wups - 1 })
  else ((K.setU K.who { u with state := 4, asleep := true }).stay 1 0 (-1)).map fun K => ((1, 0), K)

def wup (K : KM) (n : Int) : Ans := (K.un n).bind fun u =>
  if ¬ (0 ≤ u.wups ∧ u.wups ≤ 7) then none
  else if u.state = 16 then some ((-41, 0), K)
  else if u.asleep = true then ((K.setU n u.release).told n 0 0).map fun K => ((0, 0), K)
  else if u.wups ≥ 7 then some ((-43, 0), K)
  else some ((0, 0), K.setU n { u with wups := u.wups + 1 })

def cIwup (n : Int) (K : KM) : Ans := K.byTask n false fun n => K.wup n

def cSus (n : Int) (K : KM) : Ans := K.byTask n true fun n => (K.un n).bind fun u =>
  if ¬ (0 ≤ u.susps ∧ u.susps ≤ 7) then none
  else if n = K.who ∧ K.pl.disabled = true then some ((-25, 0), K)
  else if u.state = 16 then some ((-41, 0), K)
  else if u.susps ≥ 7 then some ((-43, 0), K)
  else some ((0, 0), { K.setU n { u with susps := u.susps + 1, state := if u.state = 2 then 8 else if u.state = 4 then 12 else u.state } with rdy := rmL K.rdy n })

def cDly (d : Int) (K : KM) : Ans := if K.who = 0 then some ((-18, 0), K) else if d < 0 ∨ d > 2147483647 then some ((-17, 0), K) else (K.stay 2 0 d).map fun K => ((1, 0), K)

def cSem (o tmo : Int) (K : KM) : Ans :=
  if ¬ (1 ≤ o ∧ o ≤ K.sems.length) then some ((-18, 0), K)
  else if ¬ (-1 ≤ tmo ∧ tmo ≤ 2147483647) then some ((-17, 0), K)
  else (getO K.sems (o - 1)).bind fun s =>
    if s.c > 0 then some ((0, 0), { K with sems := K.sems.set (o - 1).toNat { s with c := s.c - 1 } })
    else if tmo = 0 then some ((-50, 0), K)
    else (K.mm.pri K.who).bind fun p => (({ K with sems := K.sems.set (o - 1).toNat { s with l := (addL s.byPri s.l K.who p).2 } } : KM).stay 3 o tmo).map fun K => ((1, 0), K)

def cLoc (o : Int) (K : KM) : Ans :=
  if ¬ (1 ≤ o ∧ o < K.mm.m.length) then some ((-18, 0), K)
  else (K.mm.lock o K.who).bind fun r =>
    if r.1.1 = true ∨ r.1.2 ≠ 0 then (({ K with mm := r.2 } : KM).settle).map fun K => ((r.1.2, 0), K)
    else (({ K with mm := r.2 } : KM).stay 7 o (-1)).map fun K => ((1, 0), K)

def cUnl (o : Int) (K : KM) : Ans :=
  if ¬ (1 ≤ o ∧ o < K.mm.m.length) then some ((-18, 0), K)
  else (K.mm.unlock o K.who).bind fun r => (woken 0 [r.1.1] { K with mm := r.2 }).bind fun K => K.settle.map fun K => ((r.1.2, 0), K)

end KM

end Go.Proofs.YtenonfkfoedfmaaGreatDoor.B


/- The kernel as plain Lean: mutexes for which nobody waits. -/
namespace Go.Proofs.YtenonfkfoedfmaaGreatDoor.B
open Go
set_option linter.unusedVariables false

theorem getO_nat {α : Type} (l : List α) (n : Nat) : getO l (n : Int) = l[n]? := by simp [getO]

theorem getO_some {α : Type} {l : List α} {i : Int} {a : α} (h : getO l i = some a) : 0 ≤ i ∧ i.toNat < l.length ∧ l[i.toNat]? = some a := by
  unfold getO at h
  split at h
  · next h0 => exact ⟨h0, (List.getElem?_eq_some_iff.1 h).1, h⟩
  · cases h

theorem getO_of {α : Type} {l : List α} {i : Int} {a : α} (h0 : 0 ≤ i) (h : l[i.toNat]? = some a) : getO l i = some a := by
  unfold getO
  rw [if_pos h0, h]

theorem getO_ex {α : Type} {l : List α} {i : Int} (h0 : 0 ≤ i) (h : i.toNat < l.length) : ∃ a, getO l i = some a ∧ l[i.toNat]? = some a := ⟨_, getO_of h0 (List.getElem?_eq_getElem h), List.getElem?_eq_getElem h⟩

namespace MM

/-- a task's priority is its base -/
def fix (x : Mt) : Mt := ⟨x.base, x.base, x.waits⟩

theorem rkM_plain {rk : Int → Option Int} {n d : Int} : ∀ {l : List Mx} {p : Int}, (∀ x ∈ l, x.wait = [] ∧ x.attr ≠ 3) → rkM rk n d l p = some p := by
  intro l
  induction l with
  | nil => intro p _; rfl
  | cons x r ih =>
    intro p h
    have hx := h x (List.mem_cons_self ..)
    have hr := ih (p := p) fun y hy => h y (List.mem_cons_of_mem _ hy)
    rw [rkM, hx.1]
    split
    · exact hr
    · rw [if_neg hx.2]
      split
      · simp [rkL, hr]
      · exact hr

theorem reckon_plain {M : MM} (h : ∀ x ∈ M.m, x.wait = [] ∧ x.attr ≠ 3) (f : Nat) (n d : Int) : reckon M (f + 1) n d = (getO M.t n).map Mt.base := by
  rw [reckon]
  cases getO M.t n with
  | none => rfl
  | some t => exact rkM_plain fun x hx => h x (List.drop_subset _ _ hx)

theorem prs_plain {M : MM} (h : ∀ x ∈ M.m, x.wait = [] ∧ x.attr ≠ 3) : ∀ (k n : Nat), n + k ≤ M.t.length → prs M n k = some (((M.t.drop n).take k).map Mt.base) := by
  intro k
  induction k with
  | zero => intro n _; simp [prs]
  | succ k ih =>
    intro n hn
    have hlt : n < M.t.length := by omega
    rw [prs, reckon_plain h, getO_nat, List.getElem?_eq_getElem hlt, ih (n + 1) (by omega), List.drop_eq_getElem_cons hlt]
    rfl

theorem anew_plain (ps : List Int) : ∀ (k m : Nat) {M : MM}, (∀ x ∈ M.m, x.wait = [] ∧ x.attr ≠ 3) → m + k ≤ M.m.length → anew ps m k M = some () := by
  intro k
  induction k with
  | zero => intro m M _ _; rfl
  | succ k ih =>
    intro m M h hm
    have hlt : m < M.m.length := by omega
    rw [anew, getO_nat, List.getElem?_eq_getElem hlt]
    simp only [Option.bind_some]
    rw [(h _ (List.getElem_mem hlt)).1, if_pos (by simp)]
    simp only [anew1, Option.bind_some]
    exact ih (m + 1) h (by omega)

theorem setPris_spec (ps : List Int) : ∀ (k n : Nat) (M : MM), (∀ i, n ≤ i → i < n + k → ∃ x, M.t[i]? = some x ∧ ps[i]? = some x.base) →
    ∃ t, setPris ps n k M = some { M with t := t } ∧ ∀ i, t[i]? = if n ≤ i ∧ i < n + k then M.t[i]?.map fix else M.t[i]? := by
  intro k
  induction k with
  | zero => intro n M _; exact ⟨M.t, rfl, fun i => by rw [if_neg (by omega)]⟩
  | succ k ih =>
    intro n M h
    obtain ⟨x, hx, hp⟩ := h n (Nat.le_refl _) (by omega)
    have hlt := (List.getElem?_eq_some_iff.1 hx).1
    obtain ⟨t, ht, hi⟩ := ih (n + 1) { M with t := M.t.set n (fix x) } (fun i h1 h2 => by
      obtain ⟨y, hy, hq⟩ := h i (by omega) (by omega)
      exact ⟨y, by simp only [List.getElem?_set]; rw [if_neg (by omega)]; exact hy, hq⟩)
    refine ⟨t, ?_, fun i => ?_⟩
    · rw [setPris, getO_nat, hp]
      simp only [Option.bind_some]
      unfold setPri
      rw [getO_nat, hx]
      simp only [Option.map_some, Option.bind_some, Int.toNat_natCast]
      exact ht
    · rw [hi]
      simp only [List.getElem?_set]
      by_cases e : n = i
      · subst e
        have e1 : ¬ (n + 1 ≤ n ∧ n < n + 1 + k) := by omega
        have e2 : n ≤ n ∧ n < n + (k + 1) := by omega
        simp only [if_neg e1, if_pos e2, if_pos hlt, hx, if_true, Option.map_some]
      · by_cases e2 : n + 1 ≤ i ∧ i < n + 1 + k
        · have e3 : n ≤ i ∧ i < n + (k + 1) := by omega
          simp [e2, e3, e]
        · have e3 : ¬ (n ≤ i ∧ i < n + (k + 1)) := by omega
          simp only [if_neg e2, if_neg e3, if_neg e]

theorem setPris_plain {M : MM} (h : M.t.length = 17) (h0 : M.t[0]?.map fix = M.t[0]?) : setPris (0 :: ((M.t.drop 1).take 16).map Mt.base) 1 16 M = some { M with t := M.t.map fix } := by
  obtain ⟨t, ht, hi⟩ := setPris_spec (0 :: ((M.t.drop 1).take 16).map Mt.base) 16 1 M (fun i h1 h2 => by
    have hlt : i < M.t.length := by omega
    refine ⟨_, List.getElem?_eq_getElem hlt, ?_⟩
    obtain ⟨j, rfl⟩ : ∃ j, i = j + 1 := ⟨i - 1, by omega⟩
    rw [List.getElem?_cons_succ, List.getElem?_map, List.getElem?_take_of_lt (by omega), List.getElem?_drop, Nat.add_comm 1 j, List.getElem?_eq_getElem hlt]
    rfl)
  rw [ht]
  congr 2
  apply List.ext_getElem?
  intro i
  rw [hi, List.getElem?_map]
  by_cases e : 1 ≤ i ∧ i < 1 + 16
  · rw [if_pos e]
  · rw [if_neg e]
    by_cases e0 : i = 0
    · subst e0; exact h0.symm
    · rw [List.getElem?_eq_none (by omega)]; rfl

theorem settle_plain {M : MM} (hm : ∀ x ∈ M.m, x.wait = [] ∧ x.attr ≠ 3) (h : M.t.length = 17) (h0 : M.t[0]?.map fix = M.t[0]?) : M.settle = some { M with t := M.t.map fix } := by
  unfold settle
  rw [prs_plain hm 16 1 (by omega)]
  simp only [Option.bind_some]
  cases hl : M.m.length with
  | zero =>
    rw [anew]
    simp only [Option.bind_some]
    exact setPris_plain h h0
  | succ k =>
    rw [anew_plain _ (k + 1 - 1) 1 hm (by omega)]
    simp only [Option.bind_some]
    exact setPris_plain h h0

/-- nobody waits, no ceilings, and priorities are as they were given -/
structure Plain (M : MM) : Prop where
  m : ∀ x ∈ M.m, x.wait = [] ∧ x.attr ≠ 3
  len : M.t.length = 17
  t : ∀ x ∈ M.t, fix x = x ∧ x.waits = 0

theorem Plain.map {M : MM} (h : Plain M) : M.t.map fix = M.t := by
  have : M.t.map fix = M.t.map id := List.map_congr_left fun x hx => (h.t x hx).1
  rw [this, List.map_id]

theorem Plain.z {M : MM} (h : Plain M) : M.t[0]?.map fix = M.t[0]? := by
  cases h0 : M.t[0]? with
  | none => rfl
  | some x => simp [(h.t x (List.mem_of_getElem? h0)).1]

theorem Plain.settle {M : MM} (h : Plain M) : M.settle = some M := by
  rw [settle_plain h.m h.len h.z, h.map]

theorem Plain.get {M : MM} (h : Plain M) {n : Int} (hn : 1 ≤ n ∧ n ≤ 16) : ∃ b, getO M.t n = some ⟨b, b, 0⟩ ∧ M.t[n.toNat]? = some ⟨b, b, 0⟩ := by
  obtain ⟨x, h1, h2⟩ := getO_ex (l := M.t) (i := n) (by omega) (by rw [h.len]; omega)
  have := h.t x (List.mem_of_getElem? h2)
  obtain ⟨b, p, w⟩ := x
  have e1 : b = p := by have := congrArg Mt.pri this.1; simpa [fix] using this
  have e2 : w = 0 := this.2
  subst e1; subst e2
  exact ⟨b, h1, h2⟩

theorem against_plain {M : MM} {n p tw : Int} : ∀ {l : List Mx} {m : Nat}, (∀ x ∈ l, x.attr ≠ 3) → against M n p tw l m = false := by
  intro l
  induction l with
  | nil => intro m _; rfl
  | cons x r ih =>
    intro m h
    rw [against, if_neg (fun hc => h x (List.mem_cons_self ..) hc.1)]
    exact ih fun y hy => h y (List.mem_cons_of_mem _ hy)

theorem Plain.setBase {M : MM} (h : Plain M) {n p : Int} (hn : 1 ≤ n ∧ n ≤ 16) (hp : 1 ≤ p ∧ p ≤ 16) : M.setBase n p = some (0, { M with t := M.t.set n.toNat ⟨p, p, 0⟩ }) := by
  obtain ⟨b, h1, h2⟩ := h.get hn
  unfold MM.setBase
  rw [if_neg (by omega), if_neg (by omega), h1]
  simp only [Option.bind_some]
  rw [against_plain (fun x hx => (h.m x (List.drop_subset _ _ hx)).2)]
  simp only [Bool.false_eq_true, if_false]
  unfold setB
  rw [h1]
  simp only [Option.map_some, Option.bind_some]
  have hlt := (List.getElem?_eq_some_iff.1 h2).1
  rw [settle_plain (M := { M with t := M.t.set n.toNat ⟨p, b, 0⟩ }) h.m (by simp [h.len])]
  · simp only [Option.map_some, List.map_set]
    rw [h.map]
    rfl
  · have e := h.z
    simp only [List.getElem?_set]
    rw [if_neg (by omega)]
    exact e

theorem Plain.set {M : MM} (h : Plain M) {n p : Int} : Plain { M with t := M.t.set n.toNat ⟨p, p, 0⟩ } := by
  refine ⟨h.m, by simp [h.len], fun x hx => ?_⟩
  rcases List.mem_or_eq_of_mem_set hx with hx | rfl
  · exact h.t x hx
  · exact ⟨rfl, rfl⟩

theorem new_plain {l : List (Int × Int)} (h : ∀ x ∈ l, x.1 ≠ 3) : Plain (new l) := by
  refine ⟨fun x hx => ?_, rfl, fun x hx => ?_⟩
  · rcases List.mem_cons.1 hx with rfl | hx
    · exact ⟨rfl, by decide⟩
    · obtain ⟨y, hy, rfl⟩ := List.mem_map.1 hx
      exact ⟨rfl, h y hy⟩
  · have := (List.mem_replicate.1 hx).2
    subst this
    exact ⟨rfl, rfl⟩

theorem Plain.owned {M : MM} (h : Plain M) {m : Nat} {o : Int} : ∀ M', setO M m o = some M' → Plain M' := by
  intro M' hM
  unfold setO at hM
  obtain ⟨x, hx, rfl⟩ := Option.map_eq_some_iff.1 hM
  obtain ⟨-, -, h2⟩ := getO_some hx
  refine ⟨fun y hy => ?_, h.len, h.t⟩
  rcases List.mem_or_eq_of_mem_set hy with hy | rfl
  · exact h.m y hy
  · exact h.m x (List.mem_of_getElem? h2)

end MM

end Go.Proofs.YtenonfkfoedfmaaGreatDoor.B


/- Parts by number. -/
namespace Go.Proofs.YtenonfkfoedfmaaGreatDoor.B
open Go
set_option linter.unusedVariables false

abbrev starN (n : Nat) (F : Nat → SP) : List SP := (List.range n).map F

theorem star_perm {n i : Nat} (hi : i < n) (F : Nat → SP) : (starN n F).Perm (F i :: ((List.range n).erase i).map F) :=
  (List.perm_cons_erase (List.mem_range.2 hi)).map F

theorem star_back {n i : Nat} (hi : i < n) {F F' : Nat → SP} (h : ∀ j, j ≠ i → F' j = F j) : (F' i :: ((List.range n).erase i).map F).Perm (starN n F') := by
  have e : ((List.range n).erase i).map F = ((List.range n).erase i).map F' := by
    apply List.map_congr_left
    intro j hj
    have := (List.nodup_range (n := n)).mem_erase_iff.1 hj
    exact (h j this.1).symm
  rw [e]
  exact (star_perm hi F').symm

/-- one of them is taken out; another one may be laid in its place -/
theorem star_open {e w L n i} {F : Nat → SP} (h : Ok e (oksH (starN n F) :: L) w) (hi : i < n) :
    ∃ H : SP, Ok e (F i :: H :: L) w ∧ ∀ F' : Nat → SP, (∀ j, j ≠ i → F' j = F j) → ∀ e' L' w', Ok e' (F' i :: H :: L') w' → Ok e' (oksH (starN n F') :: L') w' := by
  refine ⟨oksH (((List.range n).erase i).map F), ?_, fun F' hF e' L' w' h' => ?_⟩
  · have h1 := h.unpack.perm ((star_perm hi F).append_right L)
    exact Ok.p1 (Ok.pack (h1.perm (List.perm_middle (l₁ := ((List.range n).erase i).map F) (a := F i) (l₂ := L)).symm))
  · have h1 : Ok e' (((List.range n).erase i).map F ++ (F' i :: L')) w' := h'.p1.unpack
    have h2 := h1.perm (List.perm_middle (l₁ := ((List.range n).erase i).map F) (a := F' i) (l₂ := L'))
    exact Ok.pack (h2.perm ((star_back hi hF).append_right L'))

theorem star_congr {n : Nat} {F G : Nat → SP} (h : ∀ i, i < n → F i = G i) : starN n F = starN n G := List.map_congr_left fun i hi => h i (List.mem_range.1 hi)

theorem star_zero {e w L} {F : Nat → SP} (h : Ok e L w) : Ok e (oksH (starN 0 F) :: L) w := Ok.pack (M := []) h

/-- one more -/
theorem star_snoc {e w L n} {F : Nat → SP} (h : Ok e (F n :: oksH (starN n F) :: L) w) : Ok e (oksH (starN (n + 1) F) :: L) w := by
  have h1 : Ok e (starN n F ++ (F n :: L)) w := h.p1.unpack
  have e1 : starN (n + 1) F = starN n F ++ [F n] := by simp [starN, List.range_succ]
  rw [e1]
  refine Ok.pack ?_
  rw [List.append_assoc]
  exact h1

end Go.Proofs.YtenonfkfoedfmaaGreatDoor.B


/- Those that may run, as one row in order: what its parts by priority are. -/
namespace Go.Proofs.YtenonfkfoedfmaaGreatDoor.B
open Go
set_option linter.unusedVariables false

/-- the tasks of a priority -/
def rowR (l : List (Int × Int)) (p : Int) : List Int := ids (l.filter fun x => x.2 == p)

structure RdOk (l : List (Int × Int)) : Prop where
  ok : okL l
  sorted : l.Pairwise fun a b => a.2 ≤ b.2
  bd : ∀ x ∈ l, 1 ≤ x.2 ∧ x.2 ≤ 16

theorem rdOk_nil : RdOk [] := ⟨okL_nil, List.Pairwise.nil, by simp⟩

theorem pp_drop (l : List (Int × Int)) (y : Int) : ∀ b ∈ l.drop (pp l y l.length), y < b.2 := by
  obtain ⟨s1, _⟩ := pp_spec l y l.length
  intro b hb
  obtain ⟨i, hi, rfl⟩ := List.getElem_of_mem hb
  rw [List.getElem_drop]
  have hlt : pp l y l.length + i < l.length := by simp at hi; omega
  have := s1 (pp l y l.length + i) (by omega) hlt
  rwa [List.getElem?_eq_getElem hlt] at this

theorem pp_take {l : List (Int × Int)} (y : Int) (h : l.Pairwise fun a b => a.2 ≤ b.2) : ∀ a ∈ l.take (pp l y l.length), a.2 ≤ y := by
  obtain ⟨_, s2⟩ := pp_spec l y l.length
  have hk := pp_le l y l.length
  have hg := List.pairwise_iff_getElem.1 h
  intro a ha
  obtain ⟨i, hi, rfl⟩ := List.getElem_of_mem ha
  rw [List.getElem_take]
  have hlt : i < pp l y l.length := by simp at hi; omega
  have h2 := s2 (by omega)
  rw [List.getElem?_eq_getElem (by omega)] at h2
  simp only [Option.getD_some] at h2
  rcases Nat.lt_or_ge i (pp l y l.length - 1) with h3 | h3
  · have := hg i (pp l y l.length - 1) (by omega) (by omega) h3
    omega
  · have : i = pp l y l.length - 1 := by omega
    simp only [this]
    omega

theorem rowR_put (l : List (Int × Int)) (n q p : Int) : rowR (putL true l (n, q)) p = if q = p then rowR l p ++ [n] else rowR l p := by
  have hd := pp_drop l q
  have hp : putK true l q = pp l q l.length := rfl
  unfold rowR putL ids
  rw [hp, List.filter_append, List.filter_append]
  have e1 : l.filter (fun x => x.2 == p) = (l.take (pp l q l.length)).filter (fun x => x.2 == p) ++ (l.drop (pp l q l.length)).filter (fun x => x.2 == p) := by
    rw [← List.filter_append, List.take_append_drop]
  by_cases h : q = p
  · subst h
    have e2 : (l.drop (pp l q l.length)).filter (fun x => x.2 == q) = [] := by
      rw [List.filter_eq_nil_iff]
      intro a ha
      have := hd a ha
      simp; omega
    rw [if_pos rfl, e1, e2]
    simp
  · rw [if_neg h, e1]
    simp [h]

theorem atI_cons (x : Int × Int) (l : List (Int × Int)) (n : Int) : atI (x :: l) n = if x.1 = n then 0 else if atI l n < 0 then -1 else atI l n + 1 := by
  unfold atI
  rw [List.findIdx?_cons]
  by_cases h : x.1 = n
  · simp [h]
  · have h2 : (x.1 == n) = false := by simpa using h
    simp only [h2, h, if_false, Bool.false_eq_true]
    cases hf : l.findIdx? (fun p => p.1 == n) with
    | none => simp
    | some i =>
      simp only [Option.map_some]
      rw [if_neg (by omega)]
      omega

theorem rmL_cons (x : Int × Int) (l : List (Int × Int)) (n : Int) : rmL (x :: l) n = if x.1 = n then l else x :: rmL l n := by
  have hb := atI_bd l n
  unfold rmL rmAt
  rw [atI_cons]
  by_cases h : x.1 = n
  · simp [h]
  · rw [if_neg h, if_neg h]
    by_cases h2 : atI l n < 0
    · rw [if_pos h2, if_pos h2]; rfl
    · rw [if_neg h2, if_neg h2, if_neg (by omega)]
      have e : (atI l n + 1).toNat = (atI l n).toNat + 1 := by omega
      rw [e]
      simp

theorem rmL_filter {l : List (Int × Int)} (n : Int) (h : (ids l).Nodup) : rmL l n = l.filter fun x => !(x.1 == n) := by
  induction l with
  | nil => rfl
  | cons x l ih =>
    have hn := List.nodup_cons.1 h
    rw [rmL_cons]
    by_cases hx : x.1 = n
    · rw [if_pos hx, List.filter_cons_of_neg (by simp [hx]), List.filter_eq_self.2]
      intro y hy
      have : y.1 ≠ n := fun e => hn.1 (List.mem_map.2 ⟨y, hy, by rw [e, hx]⟩)
      simpa using this
    · rw [if_neg hx, List.filter_cons_of_pos (by simpa using hx), ih hn.2]

theorem rowR_sub (l : List (Int × Int)) (p : Int) : (rowR l p).Sublist (ids l) := List.filter_sublist.map _

theorem rowR_rm {l : List (Int × Int)} (n p : Int) (h : (ids l).Nodup) : rowR (rmL l n) p = (rowR l p).erase n := by
  rw [List.Nodup.erase_eq_filter ((rowR_sub l p).nodup h), rmL_filter n h]
  unfold rowR ids
  rw [List.filter_map, List.filter_filter, List.filter_filter]
  congr 1
  apply List.filter_congr
  intro x _
  simp [Function.comp, Bool.and_comm, bne]

theorem priL_cons (x : Int × Int) (l : List (Int × Int)) (n : Int) : priL (x :: l) n = if x.1 = n then x.2 else priL l n := by
  have hb := atI_bd l n
  unfold priL
  rw [atI_cons]
  by_cases h : x.1 = n
  · simp [h]
  · rw [if_neg h, if_neg h]
    by_cases h2 : atI l n < 0
    · rw [if_pos h2, if_pos h2]; rfl
    · rw [if_neg h2, if_neg h2, if_neg (by omega)]
      have e : (atI l n + 1).toNat = (atI l n).toNat + 1 := by omega
      rw [e]
      simp

theorem priL_no {l : List (Int × Int)} {n : Int} (h : n ∉ ids l) : priL l n = 0 := by
  unfold priL
  rw [if_pos (atI_neg.2 h)]

theorem priL_mem {l : List (Int × Int)} {n p : Int} (h : (ids l).Nodup) (hm : (n, p) ∈ l) : priL l n = p := by
  induction l with
  | nil => cases hm
  | cons x l ih =>
    have hn := List.nodup_cons.1 h
    rw [priL_cons]
    rcases List.mem_cons.1 hm with rfl | hm
    · simp
    · have : x.1 ≠ n := fun e => hn.1 (List.mem_map.2 ⟨_, hm, e.symm⟩)
      rw [if_neg this, ih hn.2 hm]

theorem mem_ids {l : List (Int × Int)} {n : Int} : n ∈ ids l ↔ ∃ p, (n, p) ∈ l := by
  constructor
  · intro h
    obtain ⟨⟨a, b⟩, hx, rfl⟩ := List.mem_map.1 h
    exact ⟨b, hx⟩
  · rintro ⟨p, h⟩; exact List.mem_map.2 ⟨_, h, rfl⟩

theorem priL_perm {l m : List (Int × Int)} (h : (ids l).Nodup) (hp : m.Perm l) (n : Int) : priL m n = priL l n := by
  have hm : (ids m).Nodup := (hp.map Prod.fst).nodup_iff.2 h
  by_cases hn : n ∈ ids l
  · obtain ⟨p, hq⟩ := mem_ids.1 hn
    rw [priL_mem h hq, priL_mem hm (hp.mem_iff.2 hq)]
  · rw [priL_no hn, priL_no fun h2 => hn ((hp.map Prod.fst).mem_iff.1 h2)]

theorem priL_put {l : List (Int × Int)} {n q : Int} (h : (ids l).Nodup) (hn : n ∉ ids l) (i : Int) : priL (putL true l (n, q)) i = if i = n then q else priL l i := by
  have h2 : (ids ((n, q) :: l)).Nodup := List.nodup_cons.2 ⟨hn, h⟩
  rw [priL_perm h2 (putL_perm true l (n, q)), priL_cons]
  by_cases e : n = i
  · simp [e]
  · simp [e, Ne.symm e]

theorem priL_rm {l : List (Int × Int)} (n i : Int) (h : (ids l).Nodup) : priL (rmL l n) i = if i = n then 0 else priL l i := by
  have hs := rmL_sub l n
  have hn2 : (ids (rmL l n)).Nodup := (hs.map Prod.fst).nodup h
  by_cases e : i = n
  · subst e
    rw [if_pos rfl, priL_no]
    rw [rmL_filter i h]
    intro hm
    obtain ⟨p, hp⟩ := mem_ids.1 hm
    simp at hp
  · rw [if_neg e]
    by_cases hi : i ∈ ids l
    · obtain ⟨p, hp⟩ := mem_ids.1 hi
      rw [priL_mem h hp, priL_mem hn2]
      rw [rmL_filter n h]
      exact List.mem_filter.2 ⟨hp, by simpa using e⟩
    · rw [priL_no hi, priL_no fun hm => hi ((hs.map Prod.fst).subset hm)]

theorem priL_pos {l : List (Int × Int)} (h : RdOk l) (n : Int) : (0 < priL l n ↔ n ∈ ids l) ∧ 0 ≤ priL l n ∧ priL l n ≤ 16 := by
  by_cases hn : n ∈ ids l
  · obtain ⟨p, hp⟩ := mem_ids.1 hn
    rw [priL_mem h.ok.1 hp]
    have := h.bd _ hp
    simp only at this
    exact ⟨⟨fun _ => hn, fun _ => by omega⟩, by omega, by omega⟩
  · rw [priL_no hn]
    exact ⟨⟨fun h => by omega, fun h => absurd h hn⟩, by omega, by omega⟩

theorem rdOk_put {l : List (Int × Int)} {n p : Int} (h : RdOk l) (hn : 1 ≤ n ∧ n ≤ 16) (hp : 1 ≤ p ∧ p ≤ 16) (hm : n ∉ ids l) : RdOk (putL true l (n, p)) := by
  refine ⟨okL_put h.ok hn hm, ?_, fun x hx => ?_⟩
  · have hd := pp_drop l p
    have ht := pp_take p h.sorted
    have hk : putK true l p = pp l p l.length := rfl
    unfold putL
    rw [hk]
    rw [List.append_assoc]
    refine List.pairwise_append.2 ⟨h.sorted.sublist (List.take_sublist ..), ?_, ?_⟩
    · refine List.pairwise_append.2 ⟨List.pairwise_singleton .., h.sorted.sublist (List.drop_sublist ..), ?_⟩
      intro a ha b hb
      simp only [List.mem_singleton] at ha
      subst ha
      have := hd b hb
      simp only; omega
    · intro a ha b hb
      have h1 := ht a ha
      rcases List.mem_append.1 hb with hb | hb
      · simp only [List.mem_singleton] at hb
        subst hb
        exact h1
      · have := hd b hb
        omega
  · rcases putL_mem.1 hx with rfl | hx
    · exact hp
    · exact h.bd x hx

theorem rdOk_sub {l m : List (Int × Int)} (h : RdOk l) (hs : m.Sublist l) : RdOk m := ⟨okL_sub h.ok hs, h.sorted.sublist hs, fun x hx => h.bd x (hs.subset hx)⟩

theorem rdOk_rm {l : List (Int × Int)} {n : Int} (h : RdOk l) : RdOk (rmL l n) := rdOk_sub h (rmL_sub l n)

theorem rowR_mem {l : List (Int × Int)} {n p : Int} : n ∈ rowR l p ↔ (n, p) ∈ l := by
  unfold rowR
  rw [mem_ids]
  constructor
  · rintro ⟨q, h⟩
    obtain ⟨h1, h2⟩ := List.mem_filter.1 h
    simp at h2; subst h2; exact h1
  · intro h; exact ⟨p, List.mem_filter.2 ⟨h, by simp⟩⟩

theorem filter_le_succ {l : List (Int × Int)} (h : l.Pairwise fun a b => a.2 ≤ b.2) (k : Int) :
    l.filter (fun x => decide (x.2 ≤ k + 1)) = l.filter (fun x => decide (x.2 ≤ k)) ++ l.filter (fun x => x.2 == k + 1) := by
  induction l with
  | nil => rfl
  | cons x l ih =>
    have hp := List.pairwise_cons.1 h
    have ih := ih hp.2
    by_cases h1 : x.2 ≤ k
    · rw [List.filter_cons_of_pos (by simp; omega), List.filter_cons_of_pos (by simpa using h1), List.filter_cons_of_neg (by simp; omega), ih]
      rfl
    · have e0 : l.filter (fun x => decide (x.2 ≤ k)) = [] := by
        rw [List.filter_eq_nil_iff]
        intro a ha
        have := hp.1 a ha
        simp; omega
      rw [e0, List.nil_append] at ih
      by_cases h2 : x.2 = k + 1
      · rw [List.filter_cons_of_pos (by simp; omega), List.filter_cons_of_neg (by simpa using h1), List.filter_cons_of_pos (by simpa using h2), ih, e0]
        rfl
      · rw [List.filter_cons_of_neg (by simp; omega), List.filter_cons_of_neg (by simpa using h1), List.filter_cons_of_neg (by simpa using h2), ih, e0]
        rfl

/-- the priorities that have tasks, rising -/
def psR (l : List (Int × Int)) : Nat → List Int
  | 0 => []
  | k + 1 => psR l k ++ if rowR l ((k : Int) + 1) = [] then [] else [(k : Int) + 1]

theorem psR_le {l : List (Int × Int)} (h : l.Pairwise fun a b => a.2 ≤ b.2) (hb : ∀ x ∈ l, 1 ≤ x.2) (k : Nat) : (psR l k).flatMap (rowR l) = ids (l.filter fun x => decide (x.2 ≤ (k : Int))) := by
  induction k with
  | zero =>
    have : l.filter (fun x => decide (x.2 ≤ ((0 : Nat) : Int))) = [] := by
      rw [List.filter_eq_nil_iff]
      intro a ha
      have := hb a ha
      simp; omega
    rw [this]; rfl
  | succ k ih =>
    rw [psR, List.flatMap_append, ih]
    have := filter_le_succ h (k : Int)
    rw [show ((k + 1 : Nat) : Int) = (k : Int) + 1 by omega, this]
    unfold ids
    rw [List.map_append]
    congr 1
    by_cases he : rowR l ((k : Int) + 1) = []
    · rw [if_pos he]
      exact he.symm
    · rw [if_neg he]
      simp [rowR]

theorem psR_all {l : List (Int × Int)} (h : RdOk l) : (psR l 16).flatMap (rowR l) = ids l := by
  rw [psR_le h.sorted (fun x hx => (h.bd x hx).1) 16, List.filter_eq_self.2]
  intro x hx
  have := (h.bd x hx).2
  simpa using this

theorem rowR_first {x : Int × Int} {l : List (Int × Int)} (h : RdOk (x :: l)) : (rowR (x :: l) x.2).head? = some x.1 ∧ ∀ p, p < x.2 → rowR (x :: l) p = [] := by
  refine ⟨by simp [rowR, ids], fun p hp => ?_⟩
  have hs := (List.pairwise_cons.1 h.sorted).1
  unfold rowR ids
  rw [List.filter_eq_nil_iff.2, List.map_nil]
  intro a ha
  rcases List.mem_cons.1 ha with rfl | ha
  · simp; omega
  · have := hs a ha
    simp; omega

/-! ### the word of bits -/
structure BitsR (W : Nat) (l : List (Int × Int)) : Prop where
  lt : W < 2 ^ 16
  bit : ∀ i : Nat, i < 16 → (W.testBit i = true ↔ rowR l ((i : Int) + 1) ≠ [])

theorem bitsR_nil : BitsR 0 [] := ⟨by decide, fun i _ => by simp [rowR]⟩

theorem bitsR_zero {W : Nat} {l : List (Int × Int)} (h : BitsR W l) (hl : RdOk l) : W = 0 ↔ l = [] := by
  constructor
  · rintro rfl
    cases l with
    | nil => rfl
    | cons x l =>
      have hb := hl.bd x (List.mem_cons_self ..)
      have := h.bit (x.2 - 1).toNat (by omega)
      rw [show (((x.2 - 1).toNat : Nat) : Int) + 1 = x.2 by omega] at this
      have h2 := (rowR_first hl).1
      have h3 : rowR (x :: l) x.2 ≠ [] := by intro e; rw [e] at h2; cases h2
      have := this.2 h3
      simp at this
  · rintro rfl
    apply Nat.eq_of_testBit_eq
    intro i
    rw [Nat.zero_testBit]
    by_cases hi : i < 16
    · have := h.bit i hi
      cases hb : W.testBit i with
      | false => rfl
      | true => exact absurd rfl (this.1 hb)
    · exact Nat.testBit_lt_two_pow (Nat.lt_of_lt_of_le h.lt (Nat.pow_le_pow_right (by decide) (by omega)))

theorem bitsR_put {W : Nat} {l : List (Int × Int)} {n p : Int} (h : BitsR W l) (hp : 1 ≤ p ∧ p ≤ 16) : BitsR (W ||| 2 ^ (p - 1).toNat) (putL true l (n, p)) := by
  refine ⟨Nat.or_lt_two_pow h.lt (Nat.pow_lt_pow_right (by decide) (by omega)), fun i hi => ?_⟩
  rw [Nat.testBit_or, Nat.testBit_two_pow, rowR_put]
  by_cases e : p = (i : Int) + 1
  · rw [if_pos e]
    have : (p - 1).toNat = i := by omega
    simp [this]
  · rw [if_neg e]
    have h2 : ¬ (p - 1).toNat = i := by omega
    simp only [h2, decide_false, Bool.or_false]
    exact h.bit i hi

end Go.Proofs.YtenonfkfoedfmaaGreatDoor.B


/- Contracts of the package bits: a word of bits, the first one of them. -/
namespace Go.Proofs.YtenonfkfoedfmaaGreatDoor.B
open Go
set_option linter.unusedVariables false

def tzTab : List Int := [0, 1, 56, 2, 57, 49, 28, 3, 61, 58, 42, 50, 38, 29, 17, 4, 62, 47, 59, 36, 45, 43, 51, 22, 53, 39, 33, 30, 24, 18, 12, 5, 63, 55, 48, 27, 60, 41, 37, 16, 46, 35, 44, 21, 52, 32, 23, 11, 54, 26, 40, 15, 34, 20, 31, 10, 25, 14, 19, 9, 13, 8, 7, 6]

/-- the library's table lies as the program's text lays it -/
structure TabE (e : World) : Prop where
  cell : ∀ (j : Nat) v, tzTab[j]? = some v → e.cell? ⟨0, j, none⟩ = some (.int .u8 v)
  lt : 0 < e.heap.size

def TabW (w : World) : Prop := ∀ (j : Nat) v, tzTab[j]? = some v → w.cell? ⟨0, j, none⟩ = some (.int .u8 v)

theorem TabE.w {e w : World} {L : List SP} (t : TabE e) (h : Ok e (old e :: L) w) : TabW w := fun j v hv => by
  rw [h.old_cell (a := ⟨0, j, none⟩) t.lt]; exact t.cell j v hv

theorem and_neg {x i m : Nat} (hx : x = 2 ^ (i + 1) * m + 2 ^ i) (h : x < 2 ^ 64) : x &&& (2 ^ 64 - x) = 2 ^ i := by
  have h1 : 2 ^ i < 2 ^ (i + 1) := Nat.pow_lt_pow_right (by decide) (by omega)
  have h0 : 0 < 2 ^ i := Nat.two_pow_pos i
  have e1 : 2 ^ 64 - x = 2 ^ 64 - ((x - 1) + 1) := by omega
  have e2 : x - 1 = 2 ^ (i + 1) * m + (2 ^ i - 1) := by omega
  apply Nat.eq_of_testBit_eq
  intro j
  rw [Nat.testBit_and, e1, Nat.testBit_two_pow_sub_succ (by omega), e2, hx, Nat.testBit_two_pow_mul_add _ h1, Nat.testBit_two_pow_mul_add _ (by omega), Nat.testBit_two_pow]
  by_cases hj : j < i + 1
  · rw [if_pos hj, if_pos hj, Nat.testBit_two_pow_sub_one]
    try rw [Nat.testBit_two_pow]
    by_cases hij : i = j
    · subst hij
      have : i < 64 := by
        have : 2 ^ i < 2 ^ 64 := by omega
        exact (Nat.pow_lt_pow_iff_right (by decide)).1 this
      simp [this]
    · simp [hij]
  · rw [if_neg hj, if_neg hj]
    have hij : ¬ i = j := by omega
    cases m.testBit (j - (i + 1)) <;> simp [hij]

theorem low_of {W i : Nat} (h : W.testBit i = true) (hl : ∀ j, j < i → W.testBit j = false) : W = 2 ^ (i + 1) * (W / 2 ^ (i + 1)) + 2 ^ i := by
  have e : W % 2 ^ (i + 1) = 2 ^ i := by
    apply Nat.eq_of_testBit_eq
    intro j
    rw [Nat.testBit_mod_two_pow, Nat.testBit_two_pow]
    by_cases hij : i = j
    · subst hij; simp [h]
    · by_cases hlt : j < i
      · simp [hl j hlt, hij]
      · have : ¬ j < i + 1 := by omega
        simp [this, hij]
  have := Nat.div_add_mod W (2 ^ (i + 1))
  rw [e] at this
  exact this.symm

theorem u64_nat {x : Nat} (h : x < 2 ^ 64) : IntKind.u64.wrap (x : Int) = x := by
  simp only [IntKind.wrap, IntKind.signed, IntKind.bits]
  have : (x : Int) % 2 ^ 64 = x := Int.emod_eq_of_lt (by omega) (by exact_mod_cast h)
  simpa using this

theorem u64_neg {x : Nat} (h0 : 0 < x) (h : x < 2 ^ 64) : IntKind.u64.wrap (0 - (x : Int)) = ((2 ^ 64 - x : Nat) : Int) := by
  have h1 : (0 - (x : Int)) % (2 ^ 64 : Int) = (2 ^ 64 : Int) - x := by omega
  have h2 : ((2 ^ 64 - x : Nat) : Int) = (2 ^ 64 : Int) - x := by omega
  rw [h2]
  simp only [IntKind.wrap, IntKind.signed, IntKind.bits]
  simpa using h1

theorem ofInt_nat {x : Nat} (h : x < 2 ^ 64) : (BitVec.ofInt 64 (x : Int)).toNat = x := by
  rw [BitVec.toNat_ofInt]
  have : (x : Int) % ((2 ^ 64 : Nat) : Int) = x := Int.emod_eq_of_lt (by omega) (by exact_mod_cast h)
  rw [this]; rfl

theorem bAnd_nat {x y : Nat} (hx : x < 2 ^ 64) (hy : y < 2 ^ 64) : bAnd .u64 (x : Int) (y : Int) = ((x &&& y : Nat) : Int) := by
  unfold bAnd
  show IntKind.u64.wrap (((BitVec.ofInt 64 (x : Int) &&& BitVec.ofInt 64 (y : Int)).toNat : Nat) : Int) = _
  rw [BitVec.toNat_and, ofInt_nat hx, ofInt_nat hy]
  exact u64_nat (Nat.lt_of_le_of_lt Nat.and_le_left hx)

theorem bOr_nat {x y : Nat} (hx : x < 2 ^ 64) (hy : y < 2 ^ 64) : bOr .u64 (x : Int) (y : Int) = ((x ||| y : Nat) : Int) := by
  unfold bOr
  show IntKind.u64.wrap (((BitVec.ofInt 64 (x : Int) ||| BitVec.ofInt 64 (y : Int)).toNat : Nat) : Int) = _
  rw [BitVec.toNat_or, ofInt_nat hx, ofInt_nat hy]
  exact u64_nat (Nat.or_lt_two_pow hx hy)

theorem bAndNot_nat {x y : Nat} (hx : x < 2 ^ 64) (hy : y < 2 ^ 64) : bAndNot .u64 (x : Int) (y : Int) = ((x &&& (2 ^ 64 - 1 - y) : Nat) : Int) := by
  unfold bAndNot
  show IntKind.u64.wrap (((BitVec.ofInt 64 (x : Int) &&& ~~~(BitVec.ofInt 64 (y : Int))).toNat : Nat) : Int) = _
  rw [BitVec.toNat_and, BitVec.toNat_not, ofInt_nat hx, ofInt_nat hy]
  exact u64_nat (Nat.lt_of_le_of_lt Nat.and_le_left hx)

theorem tz_idx : ∀ i : Nat, i < 16 → tzTab[(2 ^ i * 285870213051353865 % 2 ^ 64) / 2 ^ 58]? = some (i : Int) := by decide

theorem TZ_bits {w R} {x i m : Nat} (hx : x = 2 ^ (i + 1) * m + 2 ^ i) (hi : i < 16) (h : x < 2 ^ 64) (ht : TabW w) (k : R [.int .i64 i] w) : sh224 (x : Int) R w := by
  unfold sh224
  have h0 : 0 < 2 ^ i := Nat.two_pow_pos i
  refine cs.no (by simp; omega) ?_
  rw [u64_neg (by omega) h, bAnd_nat h (by omega), and_neg hx h]
  have e1 : IntKind.u64.wrap (((2 ^ i : Nat) : Int) * 285870213051353865) = ((2 ^ i * 285870213051353865 % 2 ^ 64 : Nat) : Int) := by
    simp only [IntKind.wrap, IntKind.signed, IntKind.bits]
    simp
  rw [e1]
  have e2 : Int.fdiv ((2 ^ i * 285870213051353865 % 2 ^ 64 : Nat) : Int) (2 ^ 58) = (((2 ^ i * 285870213051353865 % 2 ^ 64) / 2 ^ 58 : Nat) : Int) := by
    rw [Int.fdiv_eq_ediv_of_nonneg _ (by decide)]
    exact_mod_cast rfl
  rw [e2]
  have hlt : (2 ^ i * 285870213051353865 % 2 ^ 64) / 2 ^ 58 < 64 := by
    have := Nat.mod_lt (2 ^ i * 285870213051353865) (show 0 < 2 ^ 64 by decide)
    omega
  refine ⟨by omega, by omega, ⟨(i : Int), ?_, ?_⟩⟩
  · rw [Int.toNat_natCast, Nat.zero_add, Nat.mul_one]
    exact ht _ _ (tz_idx i hi)
  · show R [.int .i64 (w64 (i : Int))] w
    rw [w64_in (by omega) (by omega)]
    exact k

/-- the first bit from a place on -/
def nextB (W : Nat) (p : Nat) : Option Nat := (List.range 16).find? fun i => decide (p ≤ i) && W.testBit i

theorem find_range {f : Nat → Bool} {n i : Nat} (h : (List.range n).find? f = some i) : i < n ∧ f i = true ∧ ∀ j, j < i → f j = false := by
  have h1 := List.mem_of_find?_eq_some h
  have h2 := List.find?_some h
  refine ⟨List.mem_range.1 h1, h2, fun j hj => ?_⟩
  obtain ⟨_, xs, ys, he, hn⟩ := List.find?_eq_some_iff_append.1 h
  have hjm : j ∈ xs := by
    have hs := List.pairwise_lt_range (n := n)
    rw [he] at hs
    have hjr : j ∈ List.range n := List.mem_range.2 (by have := List.mem_range.1 h1; omega)
    rw [he] at hjr
    rcases List.mem_append.1 hjr with hm | hm
    · exact hm
    · rcases List.mem_cons.1 hm with rfl | hm
      · omega
      · have := (List.pairwise_append.1 hs).2.1
        have := (List.pairwise_cons.1 this).1 j hm
        omega
  have := hn j hjm
  simpa using this

theorem cut_bits (W p : Nat) (j : Nat) : (W / 2 ^ p * 2 ^ p).testBit j = (decide (p ≤ j) && W.testBit j) := by
  rw [← Nat.shiftRight_eq_div_pow, ← Nat.shiftLeft_eq, Nat.testBit_shiftLeft, Nat.testBit_shiftRight]
  by_cases h : p ≤ j
  · simp [h, show p + (j - p) = j by omega]
  · simp [h]

theorem After_bits {w R r} {W p : Nat} (h0 : w.cell? ⟨r, 0, none⟩ = some (.int .u64 W)) (h1 : ∀ j, 1 ≤ j → j < 4 → w.cell? ⟨r, j, none⟩ = some (.int .u64 0)) (hW : W < 2 ^ 16) (hp : p ≤ 16) (ht : TabW w)
    (k0 : nextB W p = none → R [.int .i64 0, .bool false] w) (k1 : ∀ i, nextB W p = some i → R [.int .i64 ((i : Int) + 1), .bool true] w) : sh170 (some ⟨r, 0, none⟩) (p : Int) R w := by
  unfold sh170
  have em : (if 0 > (p : Int) then (0 : Int) else (p : Int)) = (p : Int) := if_neg (by omega)
  rw [em]
  refine cs.no (by simp; omega) ?_
  have ed : w64 (Int.tdiv (p : Int) 64) = 0 := by
    have : Int.tdiv (p : Int) 64 = 0 := by rw [Int.tdiv_eq_ediv_of_nonneg (by omega)]; omega
    rw [this]; rfl
  have etm : Int.tmod (p : Int) 64 = p := Int.tmod_eq_of_lt (by omega) (by omega)
  rw [ed, etm]
  refine lp.mk (fun t w1 => w1 = w ∧ ∃ n : Nat, t.1 = (n : Int) ∧ n ≤ 4 ∧ (0 < n → nextB W p = none)) (fun t _ => Int.toNat (Int.sub 4 t.1)) ⟨rfl, 0, rfl, by omega, fun h => by omega⟩ ?_
  rintro ⟨(t : Int), _⟩ w1 ⟨rfl, n, (rfl : t = (n : Int)), hn, hno⟩
  refine cs.mk (fun hlt => ?_) (fun hge => ?_)
  · have hlt : n < 4 := by have := of_decide_eq_true hlt; simp only at this; omega
    refine nn.mk ⟨by simp only; omega, by simp only; omega, ?_⟩
    simp only [Int.toNat_natCast, Nat.zero_add, Nat.mul_one]
    by_cases hn0 : n = 0
    · subst hn0
      refine ldI.mk h0 ?_
      have hmin : min p 64 = p := by omega
      have hcut : W / 2 ^ p * 2 ^ p ≤ W := Nat.div_mul_le_self ..
      have ew : IntKind.u64.wrap (Int.fdiv (W : Int) (2 ^ (min p 64)) * 2 ^ (min p 64)) = ((W / 2 ^ p * 2 ^ p : Nat) : Int) := by
        rw [hmin, Int.fdiv_eq_ediv_of_nonneg _ (Int.pow_nonneg (by decide))]
        rw [← u64_nat (x := W / 2 ^ p * 2 ^ p) (by omega)]
        congr 1
      refine jn.at (t := (((W / 2 ^ p * 2 ^ p : Nat) : Int), ())) (fun w' => w' = w1) (fun J hJ => ?_) ?_
      · refine cs.yes (by simp) ⟨by omega, by omega, ?_⟩
        have hJ' := hJ _ rfl
        rw [← ew] at hJ'
        exact hJ'
      · rintro w' rfl
        cases hN : nextB W p with
        | none =>
          have hz : W / 2 ^ p * 2 ^ p = 0 := by
            apply Nat.eq_of_testBit_eq
            intro j
            rw [cut_bits, Nat.zero_testBit]
            by_cases hj : j < 16
            · have := List.find?_eq_none.1 hN j (List.mem_range.2 hj)
              simpa using this
            · rw [Nat.testBit_lt_two_pow (Nat.lt_of_lt_of_le hW (Nat.pow_le_pow_right (by decide) (by omega))), Bool.and_false]
          rw [hz]
          refine cs.no rfl ?_
          exact ⟨⟨rfl, 1, rfl, by omega, fun _ => rfl⟩, by decide⟩
        | some i =>
          obtain ⟨hi, hf, hl⟩ := find_range hN
          have hbit : (W / 2 ^ p * 2 ^ p).testBit i = true := by rw [cut_bits]; exact hf
          have hlow := low_of hbit fun j hj => by rw [cut_bits]; exact hl j hj
          have hne : W / 2 ^ p * 2 ^ p ≠ 0 := by intro e; rw [e] at hbit; simp at hbit
          refine cs.yes (by simp only [bne_iff_ne, ne_eq]; omega) ?_
          refine call224 (TZ_bits hlow hi (by omega) ht ⟨((i : Int), ()), rfl, ?_⟩)
          have e1 : w64 (w64 (w64 ((0 : Int) * 64) + (i : Int)) + 1) = (i : Int) + 1 := by
            rw [show w64 ((0 : Int) * 64) = 0 from rfl, w64_in (x := 0 + (i : Int)) (by omega) (by omega), w64_in (by omega) (by omega)]; omega
          have := k1 i hN
          rw [← e1] at this
          exact this
    · refine ldI.mk (h1 n (by omega) hlt) ?_
      refine jn.at (t := ((0 : Int), ())) (fun w' => w' = w1) (fun J hJ => ?_) ?_
      · refine cs.no (by simp; omega) (hJ _ rfl)
      · rintro w' rfl
        refine cs.no rfl ⟨⟨rfl, n + 1, ?_, by omega, fun _ => hno (by omega)⟩, ?_⟩
        · show w64 _ = _
          rw [w64_in (by omega) (by omega)]; rfl
        · show Int.toNat (Int.sub 4 (w64 ((n : Int) + 1))) < Int.toNat (Int.sub 4 (n : Int))
          rw [w64_in (by omega) (by omega)]
          show Int.toNat (4 - ((n : Int) + 1)) < Int.toNat (4 - (n : Int))
          omega
  · have hge : 4 ≤ n := by have := of_decide_eq_false hge; simp only at this; omega
    exact k0 (hno (by omega))

theorem First_bits {w R r} {W : Nat} (h0 : w.cell? ⟨r, 0, none⟩ = some (.int .u64 W)) (h1 : ∀ j, 1 ≤ j → j < 4 → w.cell? ⟨r, j, none⟩ = some (.int .u64 0)) (hW : W < 2 ^ 16) (ht : TabW w)
    (k0 : nextB W 0 = none → R [.int .i64 0, .bool false] w) (k1 : ∀ i, nextB W 0 = some i → R [.int .i64 ((i : Int) + 1), .bool true] w) : sh169 (some ⟨r, 0, none⟩) R w := by
  unfold sh169
  exact call170 (After_bits (p := 0) h0 h1 hW (by omega) ht (fun h => ⟨((0 : Int), false, ()), rfl, k0 h⟩) (fun i h => ⟨((i : Int) + 1, true, ()), rfl, k1 i h⟩))

theorem place_bits {e w L R} {p : Nat} (h : Ok e L w) (hp : 1 ≤ p ∧ p ≤ 16) (k : ∀ w', Ok e L w' → R [.int .i64 0, .int .u64 ((2 ^ (p - 1) : Nat) : Int), .bool true] w') : sh223 (p : Int) R w := by
  unfold sh223
  refine jn.bool false (fun J hJ => cs.no (by simp; omega) ?_) ?_
  · rw [decide_eq_false (show ¬ ((p : Int) > 256) by omega)]; exact hJ
  · refine cs.no rfl (dr.mk h fun w1 h => ?_)
    have e1 : w64 ((p : Int) - 1) = ((p - 1 : Nat) : Int) := by rw [w64_in (by omega) (by omega)]; omega
    rw [e1]
    have e2 : Int.tmod (((p - 1 : Nat)) : Int) 64 = ((p - 1 : Nat) : Int) := Int.tmod_eq_of_lt (by omega) (by omega)
    have e3 : w64 (Int.tdiv (((p - 1 : Nat)) : Int) 64) = 0 := by
      have : Int.tdiv (((p - 1 : Nat)) : Int) 64 = 0 := by rw [Int.tdiv_eq_ediv_of_nonneg (by omega)]; omega
      rw [this]; rfl
    rw [e2, e3]
    refine ⟨by omega, ?_⟩
    have hmin : min (((p - 1 : Nat) : Int)).toNat 64 = p - 1 := by simp; omega
    have hlt : 2 ^ (p - 1) < 2 ^ 64 := Nat.pow_lt_pow_right (by decide) (by omega)
    have e4 : IntKind.u64.wrap (1 * 2 ^ (min (((p - 1 : Nat) : Int)).toNat 64)) = ((2 ^ (p - 1) : Nat) : Int) := by
      rw [hmin, ← u64_nat hlt]
      congr 1
      push_cast
      omega
    rw [e4]
    exact k w1 h

end Go.Proofs.YtenonfkfoedfmaaGreatDoor.B


/- Contracts of the package ready. -/
namespace Go.Proofs.YtenonfkfoedfmaaGreatDoor.B
open Go
set_option linter.unusedVariables false

def rdC (W : Nat) (ss : Nat → Sl) (f : Nat → Int) : List Value :=
  [.int .u64 W, .int .u64 0, .int .u64 0, .int .u64 0] ++ (List.range 17).map (fun i => vS (ss i)) ++ (List.range 17).map (fun n => .int .i64 (f n))

def updN {α : Type} (f : Nat → α) (i : Nat) (x : α) : Nat → α := fun j => if j = i then x else f j

theorem updN_same {α : Type} (f : Nat → α) (i : Nat) (x : α) : updN f i x i = x := if_pos rfl

theorem updN_other {α : Type} {f : Nat → α} {i j : Nat} {x : α} (h : j ≠ i) : updN f i x j = f j := if_neg h

theorem rdC_row {W ss f} {i : Nat} (hi : i < 17) : (rdC W ss f)[4 + i]? = some (vS (ss i)) := by
  unfold rdC
  rw [List.getElem?_append_left (by simp <;> omega), List.getElem?_append_right (by simp)]
  simp [hi]

theorem rdC_pri {W ss f} {n : Nat} (hn : n < 17) : (rdC W ss f)[21 + n]? = some (.int .i64 (f n)) := by
  unfold rdC
  rw [List.getElem?_append_right (by simp <;> omega)]
  simp [hn, show 21 + n - 21 = n by omega]

theorem rdC_len {W ss f} : (rdC W ss f).length = 38 := by simp [rdC]

theorem map_range_set {α : Type} (f : Nat → α) (n i : Nat) (x : α) : ((List.range n).map f).set i x = (List.range n).map (updN f i x) := by
  apply List.ext_getElem?
  intro j
  rw [List.getElem?_set, List.getElem?_map, List.getElem?_map]
  by_cases hj : j < n
  · rw [List.getElem?_range hj]
    by_cases e : i = j
    · subst e; simp [hj, updN]
    · simp [e, updN, Ne.symm e]
  · rw [List.getElem?_eq_none (by simp <;> omega)]
    by_cases e : i = j
    · subst e; simp [hj]
    · simp [e]

theorem rdC_setRow {W ss f} {i : Nat} {s : Sl} (hi : i < 17) : (rdC W ss f).set (4 + i) (vS s) = rdC W (updN ss i s) f := by
  unfold rdC
  rw [List.set_append_left _ _ (by simp <;> omega), List.set_append_right _ _ (by simp)]
  congr 2
  simp only [List.length_cons, List.length_nil]
  rw [show 4 + i - (0 + 1 + 1 + 1 + 1) = i by omega, map_range_set]
  apply List.map_congr_left
  intro j _
  unfold updN; split <;> rfl

theorem rdC_setPri {W ss f} {n : Nat} {x : Int} (hn : n < 17) : (rdC W ss f).set (21 + n) (.int .i64 x) = rdC W ss (updN f n x) := by
  unfold rdC
  rw [List.set_append_right _ _ (by simp <;> omega)]
  congr 1
  rw [show 21 + n - ([Value.int .u64 (W : Int), .int .u64 0, .int .u64 0, .int .u64 0] ++ (List.range 17).map fun i => vS (ss i)).length = n by simp, map_range_set]
  apply List.map_congr_left
  intro j _
  unfold updN; split <;> rfl

theorem rdC_setW {W W' : Nat} {ss f} : (rdC W ss f).set 0 (.int .u64 (W' : Int)) = rdC W' ss f := rfl

/-- those that may run -/
def rdyP (r : Nat) (l : List (Int × Int)) : SP := fun h => ∃ W ss, RdOk l ∧ BitsR W l ∧ oksH [pts r (rdC W ss fun n => priL l n), oksH (starN 17 fun i => slc 1 (ss i) (ints (rowR l (i : Int))))] h

theorem rdyE {e w L r l} (h : Ok e (rdyP r l :: L) w) : ∃ W ss, RdOk l ∧ BitsR W l ∧ Ok e (pts r (rdC W ss fun n => priL l n) :: oksH (starN 17 fun i => slc 1 (ss i) (ints (rowR l (i : Int)))) :: L) w := by
  obtain ⟨W, h⟩ := h.exE
  obtain ⟨ss, h⟩ := h.exE
  obtain ⟨h1, h⟩ := h.pureE
  obtain ⟨h2, h⟩ := h.pureE
  exact ⟨W, ss, h1, h2, h.unpack⟩

theorem rdyI {e w L r l W ss} (h1 : RdOk l) (h2 : BitsR W l) (h : Ok e (pts r (rdC W ss fun n => priL l n) :: oksH (starN 17 fun i => slc 1 (ss i) (ints (rowR l (i : Int)))) :: L) w) : Ok e (rdyP r l :: L) w :=
  (Ok.pack (M := [pts r (rdC W ss fun n => priL l n), oksH (starN 17 fun i => slc 1 (ss i) (ints (rowR l (i : Int))))]) h).imp fun k hk => ⟨W, ss, h1, h2, hk⟩

theorem rdy_ok {e w L r l} (h : Ok e (rdyP r l :: L) w) : RdOk l := (rdyE h).choose_spec.choose_spec.1

theorem New_ready {e w L R} (h : Ok e L w) (k : ∀ r w', Ok e (rdyP r [] :: L) w' → R [.pointer (some ⟨r, 0, none⟩)] w') : sh45 R w := by
  unfold sh45
  refine al.mk h fun r w1 h => k r w1 ?_
  refine rdyI (W := 0) (ss := fun _ => ⟨none, 0, 0⟩) rdOk_nil bitsR_nil ?_
  refine Ok.p1 ?_
  refine Ok.pack ?_
  have h2 : Ok e (List.replicate 17 (slc 1 ⟨none, 0, 0⟩ []) ++ (pts r (rdC 0 (fun _ => ⟨none, 0, 0⟩) fun n => priL [] n) :: L)) w1 := by
    have h3 : Ok e (pts r (rdC 0 (fun _ => ⟨none, 0, 0⟩) fun n => priL [] n) :: L) w1 := h
    have key : ∀ n : Nat, Ok e (List.replicate n (slc 1 ⟨none, 0, 0⟩ []) ++ (pts r (rdC 0 (fun _ => ⟨none, 0, 0⟩) fun n => priL [] n) :: L)) w1 := by
      intro n
      induction n with
      | zero => exact h3
      | succ n ih => exact ih.slcNil 1
    exact key 17
  exact h2

theorem task_ready {w n R} (k : R [.bool (decide (1 ≤ n ∧ n ≤ 16))] w) : sh88 n R w := by
  unfold sh88
  refine jn.bool (decide (1 ≤ n ∧ n ≤ 16)) (fun J hJ => cs.mk (fun h1 => ?_) (fun h1 => ?_)) k
  · have h1 := of_decide_eq_true h1
    rw [show decide (n ≤ 16) = decide (1 ≤ n ∧ n ≤ 16) from decide_eq_decide.2 (by omega)]; exact hJ
  · have h1 := of_decide_eq_false h1
    rw [decide_eq_false (by omega)] at hJ; exact hJ

theorem may_ready {w n R} (k : R [.bool (decide (1 ≤ n ∧ n ≤ 16))] w) : sh89 n R w := task_ready k

/-- a word of bits, with one more, one less -/
theorem Set_bits {e w L r ds R} {W p : Nat} {s : Sl} (h : Ok e (pts r ds :: slc 1 s (ints [(p : Int)]) :: L) w) (hc : ds[0]? = some (.int .u64 W)) (hW : W < 2 ^ 16) (hp : 1 ≤ p ∧ p ≤ 16)
    (k : ∀ w', Ok e (pts r (ds.set 0 (.int .u64 ((W ||| 2 ^ (p - 1) : Nat) : Int))) :: slc 1 s (ints [(p : Int)]) :: L) w' → R [] w') : sh168 (some ⟨r, 0, none⟩) s R w := by
  unfold sh168
  have hs : s.len = 1 := by have := h.p1.slc_len; simp at this; omega
  have hlt : 2 ^ (p - 1) < 2 ^ 64 := Nat.pow_lt_pow_right (by decide) (by omega)
  refine lp.mk (fun t w1 => (@Eq Int t.1 0 ∧ Ok e (pts r ds :: slc 1 s (ints [(p : Int)]) :: L) w1) ∨ (@Eq Int t.1 1 ∧ Ok e (pts r (ds.set 0 (.int .u64 ((W ||| 2 ^ (p - 1) : Nat) : Int))) :: slc 1 s (ints [(p : Int)]) :: L) w1))
    (fun t _ => Int.toNat (Int.sub 1 t.1)) (.inl ⟨rfl, h⟩) ?_
  rintro ⟨(t : Int), _⟩ w1 (⟨(rfl : t = 0), h⟩ | ⟨(rfl : t = 1), h⟩)
  · refine cs.yes (by rw [hs]; rfl) ?_
    refine ix_int h.p1 (by simp) (by rw [hs]; exact (show (0 : Int) < ((1 : Nat) : Int) by decide)) fun b o x hx hc1 => ?_
    have hx : x = p := by simpa using hx.symm
    subst hx
    refine ldI.mk (hc1 _ ⟨_, h.p1⟩) ?_
    refine call223 (place_bits h hp fun w2 h => ⟨((0 : Int), ((2 ^ (p - 1) : Nat) : Int), true, ()), rfl, ?_⟩)
    refine cs.yes rfl (dr.mk h fun w3 h => nn.mk ⟨(show (0 : Int) ≤ 0 by decide), (show (0 : Int) < ((4 : Nat) : Int) by decide), ldI.mk (h.cell hc) (nn.mk ⟨(show (0 : Int) ≤ 0 by decide), (show (0 : Int) < ((4 : Nat) : Int) by decide), ?_⟩)⟩)
    refine st1.mk h (by have := (List.getElem?_eq_some_iff.1 hc).1; simpa using this) fun w4 h => ?_
    refine ⟨.inr ⟨rfl, ?_⟩, (show Int.toNat (Int.sub 1 1) < Int.toNat (Int.sub 1 0) by decide)⟩
    dsimp only at h
    rw [bOr_nat (by omega) hlt] at h
    exact h
  · refine cs.no (by rw [hs]; rfl) (k w1 h)

theorem Clear_bits {e w L r ds R} {W p : Nat} {s : Sl} (h : Ok e (pts r ds :: slc 1 s (ints [(p : Int)]) :: L) w) (hc : ds[0]? = some (.int .u64 W)) (hW : W < 2 ^ 16) (hp : 1 ≤ p ∧ p ≤ 16)
    (k : ∀ w', Ok e (pts r (ds.set 0 (.int .u64 ((W &&& (2 ^ 64 - 1 - 2 ^ (p - 1)) : Nat) : Int))) :: slc 1 s (ints [(p : Int)]) :: L) w' → R [] w') : sh238 (some ⟨r, 0, none⟩) s R w := by
  unfold sh238
  have hs : s.len = 1 := by have := h.p1.slc_len; simp at this; omega
  have hlt : 2 ^ (p - 1) < 2 ^ 64 := Nat.pow_lt_pow_right (by decide) (by omega)
  refine lp.mk (fun t w1 => (@Eq Int t.1 0 ∧ Ok e (pts r ds :: slc 1 s (ints [(p : Int)]) :: L) w1) ∨ (@Eq Int t.1 1 ∧ Ok e (pts r (ds.set 0 (.int .u64 ((W &&& (2 ^ 64 - 1 - 2 ^ (p - 1)) : Nat) : Int))) :: slc 1 s (ints [(p : Int)]) :: L) w1))
    (fun t _ => Int.toNat (Int.sub 1 t.1)) (.inl ⟨rfl, h⟩) ?_
  rintro ⟨(t : Int), _⟩ w1 (⟨(rfl : t = 0), h⟩ | ⟨(rfl : t = 1), h⟩)
  · refine cs.yes (by rw [hs]; rfl) ?_
    refine ix_int h.p1 (by simp) (by rw [hs]; exact (show (0 : Int) < ((1 : Nat) : Int) by decide)) fun b o x hx hc1 => ?_
    have hx : x = p := by simpa using hx.symm
    subst hx
    refine ldI.mk (hc1 _ ⟨_, h.p1⟩) ?_
    refine call223 (place_bits h hp fun w2 h => ⟨((0 : Int), ((2 ^ (p - 1) : Nat) : Int), true, ()), rfl, ?_⟩)
    refine cs.yes rfl (dr.mk h fun w3 h => nn.mk ⟨(show (0 : Int) ≤ 0 by decide), (show (0 : Int) < ((4 : Nat) : Int) by decide), ldI.mk (h.cell hc) (nn.mk ⟨(show (0 : Int) ≤ 0 by decide), (show (0 : Int) < ((4 : Nat) : Int) by decide), ?_⟩)⟩)
    refine st1.mk h (by have := (List.getElem?_eq_some_iff.1 hc).1; simpa using this) fun w4 h => ?_
    refine ⟨.inr ⟨rfl, ?_⟩, (show Int.toNat (Int.sub 1 1) < Int.toNat (Int.sub 1 0) by decide)⟩
    dsimp only at h
    rw [bAndNot_nat (by omega) hlt] at h
    exact h
  · refine cs.no (by rw [hs]; rfl) (k w1 h)

theorem put_ready {e w L r l n p R} (h : Ok e (rdyP r l :: L) w) (hn : 1 ≤ n ∧ n ≤ 16) (hp : 1 ≤ p ∧ p ≤ 16) (hm : n ∉ ids l)
    (k : ∀ w', Ok e (rdyP r (putL true l (n, p)) :: L) w' → R [] w') : sh90 (some ⟨r, 0, none⟩) n p R w := by
  obtain ⟨W, ss, ho, hb, h⟩ := rdyE h
  obtain ⟨q, rfl⟩ := Int.eq_ofNat_of_zero_le (show 0 ≤ p by omega)
  obtain ⟨m, rfl⟩ := Int.eq_ofNat_of_zero_le (show 0 ≤ n by omega)
  unfold sh90
  have hpn : q < 17 := by omega
  have hnn : m < 17 := by omega
  refine dr.mk h fun w1 h => nn.mk ⟨by omega, by omega, ldS.mk (by rw [Int.toNat_natCast, Nat.zero_add, Nat.mul_one]; exact h.cell (rdC_row hpn)) (nn.mk ?_)⟩
  obtain ⟨H, h, back⟩ := star_open h.p1 hpn
  have hlen : (ss q).len ≤ 16 := by
    have h1 := h.slc_len
    rw [ints_len] at h1
    have h2 := (rowR_sub l (q : Int)).length_le
    have h3 := okL_len ho.ok
    have h4 : (ids l).length = l.length := List.length_map ..
    omega
  refine al.mk h fun b w2 h => ⟨by rw [Int.toNat_natCast, Nat.zero_add, Nat.mul_one]; exact h.p3.cell (rdC_row hpn), ?_⟩
  refine ef.append1 (n := 1) slT_int (by decide) h rfl (ints_one [(m : Int)]) (by omega) fun s' w3 hl h => ?_
  refine ⟨by omega, by omega, ?_⟩
  refine st1.mk h.p2 (by rw [rdC_len]; omega) fun w4 h => nn.mk ⟨by omega, by omega, ?_⟩
  rw [Int.toNat_natCast, Nat.zero_add, Nat.mul_one, rdC_setRow hpn] at h
  refine st1.mk h (by rw [rdC_len]; omega) fun w5 h => nn.mk ?_
  rw [Int.toNat_natCast, Nat.zero_add, Nat.mul_one, rdC_setPri hnn] at h
  refine al.mk h fun c w6 h => ?_
  have h := h.slcNew (n := 1) (sz := 1) rfl (ints_one [(q : Int)])
  refine call168 (Set_bits h.p1 rfl hb.lt (by omega) fun w7 h => ⟨(), rfl, k w7 ?_⟩)
  rw [rdC_setW] at h
  have h := h.p1.drop
  have hb' := bitsR_put (n := (m : Int)) hb hp
  rw [show ((q : Int) - 1).toNat = q - 1 by omega] at hb'
  have e2 : ints (rowR l (q : Int)) ++ [Value.int .i64 (m : Int)] = ints (rowR (putL true l ((m : Int), (q : Int))) (q : Int)) := by
    rw [rowR_put, if_pos rfl]; simp [ints]
  have e3 : (fun j : Nat => priL (putL true l ((m : Int), (q : Int))) (j : Int)) = updN (fun n : Nat => priL l (n : Int)) m (q : Int) := by
    funext j
    rw [priL_put ho.ok.1 hm]
    unfold updN
    by_cases hj : j = m
    · rw [if_pos hj, if_pos (by omega)]
    · rw [if_neg hj, if_neg (by omega)]
  refine rdyI (ss := updN ss q s') (rdOk_put ho hn hp hm) hb' ?_
  rw [e3]
  refine Ok.p1 (back (fun i => slc 1 (updN ss q s' i) (ints (rowR (putL true l ((m : Int), (q : Int))) (i : Int)))) (fun j hj => ?_) e _ w7 ?_)
  · simp only [updN_other hj]
    rw [rowR_put, if_neg (by omega)]
  · simp only [updN_same]
    rw [← e2]
    exact h.q2

end Go.Proofs.YtenonfkfoedfmaaGreatDoor.B


/- Contracts of the package ready: in, out, another priority. -/
namespace Go.Proofs.YtenonfkfoedfmaaGreatDoor.B
open Go
set_option linter.unusedVariables false

theorem ndT {p : Prop} [Decidable p] (h : (!decide p) = true) : ¬ p := by
  intro hp
  rw [decide_eq_true hp] at h
  cases h

theorem ndM {p : Prop} [Decidable p] (h : ¬ p) : (!decide p) = true := by rw [decide_eq_false h]; rfl

theorem ndF {p : Prop} [Decidable p] (h : p) : (!decide p) = false := by rw [decide_eq_true h]; rfl

theorem Add_ready {e w L r l n p R} (h : Ok e (rdyP r l :: L) w)
    (k : ∀ w', Ok e (rdyP r (addL true l n p).2 :: L) w' → R [.int .i64 (addL true l n p).1] w') : sh46 (some ⟨r, 0, none⟩) n p R w := by
  unfold sh46
  have ho := rdy_ok h
  refine call88 (task_ready ⟨(decide (1 ≤ n ∧ n ≤ 16), ()), rfl, ?_⟩)
  dsimp only
  refine jn.bool (decide (n < 1 ∨ n > 16 ∨ p < 1 ∨ p > 16)) (fun J hJ => cs.mk (fun h1 => ?_) (fun h1 => ?_)) ?_
  · have h1 : ¬ (1 ≤ n ∧ n ≤ 16) := ndT h1
    rw [decide_eq_true (by omega)] at hJ
    exact hJ
  · have h1 : 1 ≤ n ∧ n ≤ 16 := by simpa using h1
    refine call89 (may_ready ⟨(decide (1 ≤ p ∧ p ≤ 16), ()), rfl, ?_⟩)
    dsimp only
    rw [show (!decide (1 ≤ p ∧ p ≤ 16)) = decide (n < 1 ∨ n > 16 ∨ p < 1 ∨ p > 16) by
      rw [← decide_not]; exact decide_eq_decide.2 (by omega)]
    exact hJ
  · refine cs.mk (fun h1 => ?_) (fun h1 => ?_)
    · have h1 := of_decide_eq_true h1
      simp only [addL, if_pos h1] at k
      exact k w h
    · have h1 := of_decide_eq_false h1
      simp only [addL, if_neg h1] at k
      obtain ⟨W, ss, _, hb, h'⟩ := rdyE h
      obtain ⟨m, rfl⟩ := Int.eq_ofNat_of_zero_le (show 0 ≤ n by omega)
      refine nn.mk ⟨by omega, by omega, ldI.mk (by rw [Int.toNat_natCast, Nat.zero_add, Nat.mul_one]; exact h'.cell (rdC_pri (by omega))) ?_⟩
      have hpos := priL_pos ho (m : Int)
      refine cs.mk (fun h2 => ?_) (fun h2 => ?_)
      · have h2 := of_decide_eq_true h2
        rw [if_pos (atI_pos.2 (hpos.1.1 h2))] at k
        exact k w h
      · have h2 := of_decide_eq_false h2
        have hm : (m : Int) ∉ ids l := fun hm => h2 (hpos.1.2 hm)
        rw [if_neg (fun h3 => hm (atI_pos.1 h3))] at k
        exact call90 (put_ready h (by omega) (by omega) hm fun w1 h => ⟨(), rfl, k w1 h⟩)

theorem Index_int {e w L s xs a R} (h : Ok e (slc 1 s (ints xs) :: L) w) (hb : s.len ≤ 2 ^ 31) (hm : a ∈ xs)
    (k : ∀ i : Nat, i < xs.length → xs.erase a = xs.eraseIdx i → R [.int .i64 i] w) : sh237 s a R w := by
  unfold sh237
  have hl : xs.length = s.len := by have := h.slc_len; rw [ints_len] at this; omega
  refine lp.mk (fun t w1 => w1 = w ∧ ∃ n : Nat, @Eq Int t.1 (n : Int) ∧ n ≤ xs.length ∧ a ∉ xs.take n) (fun t _ => Int.toNat (Int.sub xs.length t.1)) ⟨rfl, 0, rfl, by omega, by simp⟩ ?_
  rintro ⟨(t : Int), _⟩ w1 ⟨rfl, n, (rfl : t = (n : Int)), hn, hno⟩
  have hlt : n < xs.length := by
    rcases Nat.lt_or_ge n xs.length with h | h
    · exact h
    · rw [List.take_of_length_le h] at hno; exact absurd hm hno
  refine cs.yes (by simp only [decide_eq_true_eq]; omega) ?_
  refine ix_int h (by simp only; omega) (by simp only; omega) fun b o x hx hc => ?_
  refine ldI.mk (hc _ ⟨_, h⟩) ?_
  simp only [Int.toNat_natCast] at hx
  refine cs.mk (fun h1 => ?_) (fun h1 => ?_)
  · have h1 : a = x := by simpa using h1
    subst h1
    refine k n hlt ?_
    rw [← List.take_append_drop n xs, List.erase_append_right _ hno, List.drop_eq_getElem_cons hlt]
    have : xs[n] = a := by rw [List.getElem?_eq_getElem hlt] at hx; exact Option.some.inj hx
    rw [this, List.erase_cons_head, List.eraseIdx_append_of_length_le (by rw [List.length_take]; omega)]
    simp [Nat.min_eq_left (Nat.le_of_lt hlt)]
  · have h1 : a ≠ x := by simpa using h1
    refine ⟨⟨rfl, n + 1, ?_, hlt, ?_⟩, ?_⟩
    · show w64 _ = _
      rw [w64_in (by omega) (by omega)]; rfl
    · rw [List.take_add_one, hx]
      simp [hno, h1]
    · show Int.toNat (Int.sub _ (w64 ((n : Int) + 1))) < Int.toNat (Int.sub _ (n : Int))
      rw [w64_in (by omega) (by omega)]
      show Int.toNat ((xs.length : Int) - ((n : Int) + 1)) < Int.toNat ((xs.length : Int) - (n : Int))
      omega

theorem bitsR_rm {W : Nat} {l : List (Int × Int)} {n p : Int} (h : BitsR W l) (ho : RdOk l) (hm : (n, p) ∈ l) :
    (rowR (rmL l n) p = [] → BitsR (W &&& (2 ^ 64 - 1 - 2 ^ (p - 1).toNat)) (rmL l n)) ∧ (rowR (rmL l n) p ≠ [] → BitsR W (rmL l n)) := by
  have hp := ho.bd _ hm
  simp only at hp
  have hother : ∀ q, q ≠ p → rowR (rmL l n) q = rowR l q := fun q hq => by
    rw [rowR_rm n q ho.ok.1]
    apply List.erase_of_not_mem
    intro hmem
    have h1 := rowR_mem.1 hmem
    exact hq ((priL_mem ho.ok.1 h1).symm.trans (priL_mem ho.ok.1 hm))
  refine ⟨fun he => ⟨Nat.lt_of_le_of_lt Nat.and_le_left h.lt, fun i hi => ?_⟩, fun he => ⟨h.lt, fun i hi => ?_⟩⟩
  · have hlt : 2 ^ (p - 1).toNat < 2 ^ 64 := Nat.pow_lt_pow_right (by decide) (by omega)
    rw [Nat.testBit_and, show 2 ^ 64 - 1 - 2 ^ (p - 1).toNat = 2 ^ 64 - (2 ^ (p - 1).toNat + 1) by omega, Nat.testBit_two_pow_sub_succ hlt, Nat.testBit_two_pow]
    by_cases e : (i : Int) + 1 = p
    · have : (p - 1).toNat = i := by omega
      rw [e, he]
      simp [this]
    · have h2 : ¬ (p - 1).toNat = i := by omega
      rw [hother _ e]
      have := h.bit i hi
      simp [h2, show i < 64 by omega, this]
      try (intro _; omega)
  · by_cases e : (i : Int) + 1 = p
    · rw [e]
      have := h.bit i hi
      rw [e] at this
      have h2 : rowR l p ≠ [] := by
        intro e2
        rw [rowR_rm n p ho.ok.1, e2] at he
        exact he rfl
      exact ⟨fun _ => he, fun _ => this.2 h2⟩
    · rw [hother _ e]
      exact h.bit i hi

theorem Remove_ready {e w L r l n R} (h : Ok e (rdyP r l :: L) w)
    (k : ∀ w', Ok e (rdyP r (rmL l n) :: L) w' → R [.bool (decide (0 ≤ atI l n))] w') : sh197 (some ⟨r, 0, none⟩) n R w := by
  unfold sh197
  have ho := rdy_ok h
  have hpos := priL_pos ho n
  refine call88 (task_ready ⟨(decide (1 ≤ n ∧ n ≤ 16), ()), rfl, ?_⟩)
  dsimp only
  obtain ⟨W, ss, _, hb, h'⟩ := rdyE h
  refine jn.bool (decide (n ∉ ids l)) (fun J hJ => cs.mk (fun h1 => ?_) (fun h1 => ?_)) ?_
  · have h1 : ¬ (1 ≤ n ∧ n ≤ 16) := ndT h1
    rw [show decide (n ∉ ids l) = true from decide_eq_true (fun hm => h1 (ho.ok.2 n hm))] at hJ
    exact hJ
  · have h1 : 1 ≤ n ∧ n ≤ 16 := by simpa using h1
    obtain ⟨m, rfl⟩ := Int.eq_ofNat_of_zero_le (show 0 ≤ n by omega)
    refine nn.mk ⟨by omega, by omega, ldI.mk (by rw [Int.toNat_natCast, Nat.zero_add, Nat.mul_one]; exact h'.cell (rdC_pri (by omega))) ?_⟩
    have e1 : ((priL l (m : Int) : Int) == (0 : Int)) = decide ((m : Int) ∉ ids l) := by
      by_cases hm : (m : Int) ∈ ids l
      · have := hpos.1.2 hm
        have h3 : ¬ priL l (m : Int) = 0 := by omega
        simp [hm, h3]
      · have := priL_no hm
        simp [hm, this]
    rw [e1]
    exact hJ
  · refine cs.mk (fun h1 => ?_) (fun h1 => ?_)
    · have hm : n ∉ ids l := of_decide_eq_true h1
      have h2 : atI l n < 0 := atI_neg.2 hm
      rw [decide_eq_false (by omega), rmL_none h2] at k
      exact k w h
    · have hm : n ∈ ids l := Decidable.not_not.1 (of_decide_eq_false h1)
      rw [decide_eq_true (atI_pos.2 hm)] at k
      have hn := ho.ok.2 n hm
      obtain ⟨p, hmem⟩ := mem_ids.1 hm
      have hp := ho.bd _ hmem
      simp only at hp
      have hpri := priL_mem ho.ok.1 hmem
      obtain ⟨m, rfl⟩ := Int.eq_ofNat_of_zero_le (show 0 ≤ n by omega)
      obtain ⟨q, rfl⟩ := Int.eq_ofNat_of_zero_le (show 0 ≤ p by omega)
      have hmn : m < 17 := by omega
      have hqn : q < 17 := by omega
      refine nn.mk ⟨by omega, by omega, ldI.mk (by rw [Int.toNat_natCast, Nat.zero_add, Nat.mul_one]; exact h'.cell (rdC_pri hmn)) ?_⟩
      rw [hpri]
      refine nn.mk ⟨by omega, by omega, ldS.mk (by rw [Int.toNat_natCast, Nat.zero_add, Nat.mul_one]; exact h'.cell (rdC_row hqn)) ?_⟩
      obtain ⟨H, h, back⟩ := star_open h'.p1 hqn
      have hlen : (rowR l (q : Int)).length ≤ 16 := by
        have h2 := (rowR_sub l (q : Int)).length_le
        have h3 := okL_len ho.ok
        have h4 : (ids l).length = l.length := List.length_map ..
        omega
      have hsl : (rowR l (q : Int)).length = (ss q).len := by have := h.slc_len; rw [ints_len] at this; omega
      refine call237 (Index_int h (by omega) (rowR_mem.2 hmem) fun i hi he => ⟨((i : Int), ()), rfl, ?_⟩)
      refine dr.mk h fun w1 h => nn.mk ⟨by omega, by omega, ldS.mk (by rw [Int.toNat_natCast, Nat.zero_add, Nat.mul_one]; exact h.p2.cell (rdC_row hqn)) (nn.mk ?_)⟩
      dsimp only
      rw [w64_in (by omega) (by omega)]
      refine call219 (Delete_int h hi (by omega) fun s' w2 h => ⟨(s', ()), rfl, ?_⟩)
      refine ⟨by omega, by omega, ?_⟩
      refine st1.mk h.p2 (by rw [rdC_len]; omega) fun w3 h => nn.mk ⟨by omega, by omega, ?_⟩
      rw [Int.toNat_natCast, Nat.zero_add, Nat.mul_one, rdC_setRow hqn] at h
      refine st1.mk h (by rw [rdC_len]; omega) fun w4 h => nn.mk ⟨by omega, by omega, ?_⟩
      rw [Int.toNat_natCast, Nat.zero_add, Nat.mul_one, rdC_setPri hmn] at h
      have hrow : rowR (rmL l (m : Int)) (q : Int) = (rowR l (q : Int)).eraseIdx i := by rw [rowR_rm _ _ ho.ok.1, he]
      have hs' : (rowR (rmL l (m : Int)) (q : Int)).length = s'.len := by
        have := h.p1.slc_len
        rw [ints_len] at this
        rw [hrow, List.eraseIdx_eq_take_drop_succ]; omega
      have fin : ∀ W' w', BitsR W' (rmL l (m : Int)) → Ok e (pts r (rdC W' (updN ss q s') (updN (fun n : Nat => priL l (n : Int)) m 0)) :: slc 1 s' (ints ((rowR l (q : Int)).take i ++ (rowR l (q : Int)).drop (i + 1))) :: H :: L) w' → Ok e (rdyP r (rmL l (m : Int)) :: L) w' := by
        intro W' w' hb' h
        have e3 : (fun j : Nat => priL (rmL l (m : Int)) (j : Int)) = updN (fun n : Nat => priL l (n : Int)) m 0 := by
          funext j
          rw [priL_rm _ _ ho.ok.1]
          unfold updN
          by_cases hj : j = m
          · rw [if_pos hj, if_pos (by omega)]
          · rw [if_neg hj, if_neg (by omega)]
        refine rdyI (ss := updN ss q s') (rdOk_rm ho) hb' ?_
        rw [e3]
        refine Ok.p1 (back (fun i => slc 1 (updN ss q s' i) (ints (rowR (rmL l (m : Int)) (i : Int)))) (fun j hj => ?_) e _ w' ?_)
        · simp only [updN_other hj]
          rw [rowR_rm _ _ ho.ok.1, List.erase_of_not_mem]
          intro hmem2
          have h1 := rowR_mem.1 hmem2
          have h2 := (priL_mem ho.ok.1 h1).symm.trans hpri
          omega
        · simp only [updN_same]
          rw [hrow, List.eraseIdx_eq_take_drop_succ]
          exact h.q2
      refine ldS.mk (by rw [Int.toNat_natCast, Nat.zero_add, Nat.mul_one]; exact h.cell (by rw [rdC_row hqn, updN_same])) ?_
      obtain ⟨hb0, hb1⟩ := bitsR_rm hb ho hmem
      refine cs.mk (fun h2 => ?_) (fun h2 => ?_)
      · have h2 : s'.len = 0 := by simpa using h2
        have hnil : rowR (rmL l (m : Int)) (q : Int) = [] := List.eq_nil_of_length_eq_zero (by omega)
        refine nn.mk (al.mk h fun c w5 h => ?_)
        have h := h.slcNew (n := 1) (sz := 1) rfl (ints_one [(q : Int)])
        refine call238 (Clear_bits h.p1 rfl hb.lt (by omega) fun w6 h => ⟨(), rfl, k w6 ?_⟩)
        have hb' := hb0 hnil
        rw [show ((q : Int) - 1).toNat = q - 1 by omega] at hb'
        rw [rdC_setW] at h
        exact fin _ w6 hb' h.p1.drop
      · have h2 : ¬ s'.len = 0 := by simpa using h2
        have hne : rowR (rmL l (m : Int)) (q : Int) ≠ [] := fun e => h2 (by rw [← hs', e]; rfl)
        exact k w4 (fin _ w4 (hb1 hne) h)

theorem Change_ready {e w L r l n p R} (h : Ok e (rdyP r l :: L) w)
    (k : ∀ w', Ok e (rdyP r (chgL true l n p).2 :: L) w' → R [.bool (chgL true l n p).1] w') : sh117 (some ⟨r, 0, none⟩) n p R w := by
  unfold sh117
  have ho := rdy_ok h
  refine call89 (may_ready ⟨(decide (1 ≤ p ∧ p ≤ 16), ()), rfl, ?_⟩)
  dsimp only
  by_cases hp : 1 ≤ p ∧ p ≤ 16
  · refine jn.at (t := (decide (¬ 0 ≤ atI l n), ())) (fun w' => Ok e (rdyP r (rmL l n) :: L) w') (fun J hJ => cs.no (ndF hp) ?_) (fun w1 h => ?_)
    · refine call197 (Remove_ready h fun w1 h => ⟨(decide (0 ≤ atI l n), ()), rfl, ?_⟩)
      rw [← decide_not]
      exact hJ w1 h
    · refine cs.mk (fun h1 => ?_) (fun h1 => ?_)
      · have h1 := of_decide_eq_true h1
        rw [rmL_none (by omega)] at h
        simp only [chgL, if_pos (show atI l n < 0 ∨ p < 1 ∨ p > 16 by omega)] at k
        exact k w1 h
      · have h1 := Decidable.not_not.1 (of_decide_eq_false h1)
        simp only [chgL, if_neg (show ¬ (atI l n < 0 ∨ p < 1 ∨ p > 16) by omega), if_true] at k
        have hn := ho.ok.2 n (atI_pos.1 h1)
        exact call90 (put_ready h hn hp (rmL_ids ho.ok) fun w2 h => ⟨(), rfl, k w2 h⟩)
  · refine jn.bool true (fun J hJ => cs.yes (ndM hp) hJ) (cs.yes rfl ?_)
    simp only [chgL, if_pos (show atI l n < 0 ∨ p < 1 ∨ p > 16 by omega)] at k
    exact k w h

end Go.Proofs.YtenonfkfoedfmaaGreatDoor.B


/- Rows of pointers; contracts of the package tcb. -/
namespace Go.Proofs.YtenonfkfoedfmaaGreatDoor.B
open Go
set_option linter.unusedVariables false

/-! ### rows of pointers, and what lies behind them -/
abbrev pV (b : Nat) : Value := .pointer (some ⟨b, 0, none⟩)

def ptrsC (pre : List Value) (bs : Nat → Nat) (n : Nat) : List Value := pre ++ (List.range n).map fun i => pV (bs i)

def ptrsB {α : Type} (P : Nat → α → SP) (pre : List Value) (d : α) (bs : Nat → Nat) (s : Sl) (l : List α) : SP := fun h =>
  oksH [slc 1 s (ptrsC pre bs l.length), oksH (starN l.length fun i => P (bs i) ((l[i]?).getD d))] h

def ptrsP {α : Type} (P : Nat → α → SP) (pre : List Value) (d : α) (s : Sl) (l : List α) : SP := fun h => ∃ bs : Nat → Nat, ptrsB P pre d bs s l h

section
variable {α : Type} {P : Nat → α → SP} {pre : List Value} {d : α} {s : Sl} {l : List α} {e : World} {L : List SP} {w : World} {bs : Nat → Nat}

theorem ptrsBE (h : Ok e (ptrsB P pre d bs s l :: L) w) : Ok e (slc 1 s (ptrsC pre bs l.length) :: oksH (starN l.length fun i => P (bs i) ((l[i]?).getD d)) :: L) w := Ok.unpack (M := [slc 1 s (ptrsC pre bs l.length), oksH (starN l.length fun i => P (bs i) ((l[i]?).getD d))]) h

theorem ptrsBI (h : Ok e (slc 1 s (ptrsC pre bs l.length) :: oksH (starN l.length fun i => P (bs i) ((l[i]?).getD d)) :: L) w) : Ok e (ptrsB P pre d bs s l :: L) w :=
  Ok.pack (M := [slc 1 s (ptrsC pre bs l.length), oksH (starN l.length fun i => P (bs i) ((l[i]?).getD d))]) h

theorem ptrsE (h : Ok e (ptrsP P pre d s l :: L) w) : ∃ bs, Ok e (ptrsB P pre d bs s l :: L) w := h.exE

theorem ptrsI (h : Ok e (ptrsB P pre d bs s l :: L) w) : Ok e (ptrsP P pre d s l :: L) w := h.imp fun k hk => ⟨bs, hk⟩

theorem ptrsB_len (h : Ok e (ptrsB P pre d bs s l :: L) w) : s.len = pre.length + l.length := by
  have := (ptrsBE h).slc_len
  simp [ptrsC] at this
  omega

theorem ptrs_len (h : Ok e (ptrsP P pre d s l :: L) w) : s.len = pre.length + l.length := (ptrsE h).elim fun _ h => ptrsB_len h

theorem ptrsB_open {i : Nat} {a : α} (h : Ok e (ptrsB P pre d bs s l :: L) w) (ha : l[i]? = some a) : ∃ (H : SP), Ok e (P (bs i) a :: H :: L) w ∧
    (∀ a' e' L' w', Ok e' (P (bs i) a' :: H :: L') w' → Ok e' (ptrsB P pre d bs s (l.set i a') :: L') w') ∧
    (∀ e' L' w' (n : Int) (f : Nat → Nat → Prop), Ok e' (H :: L') w' → n = ((pre.length + i : Nat) : Int) → (∀ b2 o2, w'.cell? ⟨b2, o2, none⟩ = some (pV (bs i)) → f b2 o2) → ix s n 1 f) := by
  have h := ptrsBE h
  have hi := (List.getElem?_eq_some_iff.1 ha).1
  obtain ⟨H0, h2, back⟩ := star_open h.p1 hi
  rw [ha] at h2
  refine ⟨oksH [slc 1 s (ptrsC pre bs l.length), H0], ?_, fun a' e' L' w' h' => ?_, fun e' L' w' n f h' hn k => ?_⟩
  · have h3 : Ok e ([slc 1 s (ptrsC pre bs l.length), H0] ++ (P (bs i) a :: L)) w := h2.p2.p2.p1
    exact Ok.p1 (Ok.pack h3)
  · have h3 : Ok e' (slc 1 s (ptrsC pre bs l.length) :: H0 :: P (bs i) a' :: L') w' := h'.p1.unpack
    have h4 := back (fun j => P (bs j) (((l.set i a')[j]?).getD d)) (fun j hj => by
      rw [List.getElem?_set, if_neg (Ne.symm hj)]) e' (slc 1 s (ptrsC pre bs l.length) :: L') w' (by
        rw [List.getElem?_set, if_pos rfl, if_pos hi]
        exact h3.p1.p2)
    refine ptrsBI ?_
    rw [List.length_set]
    exact h4.p1
  · have h3 : Ok e' (slc 1 s (ptrsC pre bs l.length) :: H0 :: L') w' := h'.unpack
    have hl := h3.slc_len
    have hll : (ptrsC pre bs l.length).length = pre.length + l.length := by simp [ptrsC]
    refine ix_slc h3 (by omega) (by omega) fun b2 hc => k b2 _ ?_
    have := hc 0 (by decide)
    rw [Nat.mul_one, Nat.add_zero] at this
    rw [Nat.mul_one, Nat.zero_add, this, hn, Int.toNat_natCast]
    unfold ptrsC
    rw [List.getElem?_append_right (by omega)]
    simp [hi]

theorem ptrs_open {i : Nat} {a : α} (h : Ok e (ptrsP P pre d s l :: L) w) (ha : l[i]? = some a) : ∃ (b : Nat) (H : SP), Ok e (P b a :: H :: L) w ∧
    (∀ a' e' L' w', Ok e' (P b a' :: H :: L') w' → Ok e' (ptrsP P pre d s (l.set i a') :: L') w') ∧
    (∀ e' L' w' (n : Int) (f : Nat → Nat → Prop), Ok e' (H :: L') w' → n = ((pre.length + i : Nat) : Int) → (∀ b2 o2, w'.cell? ⟨b2, o2, none⟩ = some (pV b) → f b2 o2) → ix s n 1 f) := by
  obtain ⟨bs, h⟩ := ptrsE h
  obtain ⟨H, h1, h2, h3⟩ := ptrsB_open h ha
  exact ⟨bs i, H, h1, fun a' e' L' w' h => ptrsI (h2 a' e' L' w' h), h3⟩

theorem ptrsB_nil (h : Ok e (slc 1 s pre :: L) w) : Ok e (ptrsB P pre d bs s [] :: L) w := by
  refine ptrsBI ?_
  have e1 : ptrsC pre bs ([] : List α).length = pre := by simp [ptrsC]
  rw [e1]
  exact (star_zero h).p1

theorem ptrs_nil (h : Ok e (slc 1 s pre :: L) w) : Ok e (ptrsP P pre d s [] :: L) w := ptrsI (bs := fun _ => 0) (ptrsB_nil h)

theorem ef.appendPtrB {t : TypeId} {b c : Nat} {a : α} {K : TK [kS] → World → Prop} (T : SlT Pg t 1) (h : Ok e (pts c [pV b] :: P b a :: ptrsB P pre d bs s l :: L) w) (hb : pre.length + l.length ≤ 2 ^ 31)
    (k : ∀ s' w', Ok e (ptrsB P pre d (updN bs l.length b) s' (l ++ [a]) :: L) w' → K (s', ()) w') : ef Pg (Builtin.append_ #[t, t] t #[vS s, vS ⟨some ⟨c, 0, none⟩, 1, 1⟩]) [kS] w K := by
  have hl := ptrsB_len h.p2
  have h2 := ptrsBE h.p2
  have h1 : ∀ v ∈ [pV b], v.oneCell' = true := by
    intro v hv
    rcases List.mem_singleton.1 hv with rfl
    rfl
  refine ef.append1 (n := 1) (sz := 1) (us := [pV b]) T (by decide) (Ok.emb (h2) (.cons (A := pts c [pV b]) (by with_reducible first | exact sl0 | exact .there sl0 | exact .there sl1 | exact .there sl2 | exact .there sl3 | exact .there sl4 | exact .there sl5 | exact .there sl6 | exact .there sl7 | exact .there sl8 | exact .there sl9 | exact .there sl10 | exact .there sl11 | exact .there sl12) (.cons (A := slc 1 s (ptrsC pre bs l.length)) (by with_reducible first | exact sl0 | exact .there sl0 | exact .there sl1 | exact .there sl2 | exact .there sl3 | exact .there sl4 | exact .there sl5 | exact .there sl6 | exact .there sl7 | exact .there sl8 | exact .there sl9 | exact .there sl10 | exact .there sl11 | exact .there sl12) (.same _)))) rfl h1 (by omega) fun s' w' hl' h => k s' w' ?_
  refine ptrsBI ?_
  have e1 : ptrsC pre bs l.length ++ [pV b] = ptrsC pre (updN bs l.length b) (l ++ [a]).length := by
    unfold ptrsC
    rw [List.length_append, List.length_singleton, List.range_succ, List.map_append, List.append_assoc]
    congr 2
    · apply List.map_congr_left
      intro j hj
      rw [updN_other (by have := List.mem_range.1 hj; omega)]
    · simp [updN_same]
  rw [e1] at h
  rw [show (l ++ [a]).length = l.length + 1 by simp] at h ⊢
  have e2 : starN l.length (fun i => P (bs i) ((l[i]?).getD d)) = starN l.length (fun i => P (updN bs l.length b i) (((l ++ [a])[i]?).getD d)) := star_congr fun i hi => by
    rw [updN_other (by omega), List.getElem?_append_left hi]
  rw [e2] at h
  have e3 : P b a = P (updN bs l.length b l.length) (((l ++ [a])[l.length]?).getD d) := by
    rw [updN_same, List.getElem?_append_right (Nat.le_refl _)]; simp
  rw [e3] at h
  exact (star_snoc (F := fun i => P (updN bs l.length b i) (((l ++ [a])[i]?).getD d)) (h.emb (by repeat' (first | with_reducible exact Emb.same _ | exact Emb.nil _ | refine Emb.cons (by with_reducible first | exact sl0 | exact .there sl0 | exact .there sl1 | exact .there sl2 | exact .there sl3 | exact .there sl4 | exact .there sl5 | exact .there sl6 | exact .there sl7 | exact .there sl8 | exact .there sl9 | exact .there sl10 | exact .there sl11 | exact .there sl12) ?_ | refine Emb.skip ?_)))).p1

theorem ef.appendPtr {t : TypeId} {b c : Nat} {a : α} {K : TK [kS] → World → Prop} (T : SlT Pg t 1) (h : Ok e (pts c [pV b] :: P b a :: ptrsP P pre d s l :: L) w) (hb : pre.length + l.length ≤ 2 ^ 31)
    (k : ∀ s' w', Ok e (ptrsP P pre d s' (l ++ [a]) :: L) w' → K (s', ()) w') : ef Pg (Builtin.append_ #[t, t] t #[vS s, vS ⟨some ⟨c, 0, none⟩, 1, 1⟩]) [kS] w K := by
  obtain ⟨bs, h2⟩ := ptrsE h.p2
  exact ef.appendPtrB (P := P) (bs := bs) (b := b) (a := a) T (h2.q2) hb fun s' w' h => k s' w' (ptrsI h)

end

/-! ### a task by itself -/
abbrev tcC (u : Un) : List Value := [.int .i64 u.acts, .int .i64 u.wups, .int .i64 u.susps, .int .i64 u.state, .bool u.asleep]

theorem Contains1 {e w L s R} {x a : Int} (h : Ok e (slc 1 s (ints [x]) :: L) w) (k : R [.bool (x == a)] w) : sh243 s a R w := by
  unfold sh243
  refine call237 ?_
  unfold sh237
  have hs : s.len = 1 := by have := h.slc_len; simp at this; omega
  refine lp.mk (fun t w1 => w1 = w ∧ (@Eq Int t.1 0 ∨ (@Eq Int t.1 1 ∧ x ≠ a))) (fun t _ => Int.toNat (Int.sub 1 t.1)) ⟨rfl, .inl rfl⟩ ?_
  rintro ⟨(t : Int), _⟩ w1 ⟨rfl, (rfl : t = 0) | ⟨(rfl : t = 1), hne⟩⟩
  · refine cs.yes (by rw [hs]; rfl) ?_
    refine ix_int h (by simp) (by rw [hs]; exact (show (0 : Int) < ((1 : Nat) : Int) by decide)) fun b o z hz hc => ldI.mk (hc _ ⟨_, h⟩) ?_
    have hz : z = x := by simpa using hz.symm
    subst hz
    refine cs.mk (fun h1 => ?_) (fun h1 => ?_)
    · have h1 : a = z := by simpa using h1
      subst h1
      refine ⟨((0 : Int), ()), rfl, ?_⟩
      simpa using k
    · have h1 : ¬ a = z := by simpa using h1
      exact ⟨⟨rfl, .inr ⟨rfl, fun h => h1 h.symm⟩⟩, (show Int.toNat (Int.sub 1 1) < Int.toNat (Int.sub 1 0) by decide)⟩
  · refine cs.no (by rw [hs]; rfl) ⟨((-1 : Int), ()), rfl, ?_⟩
    have e1 : (x == a) = false := by simpa using hne
    rw [e1] at k
    exact k

theorem Is_tcb {e w L t u s R} {x : Int} (h : Ok e (pts t (tcC u) :: slc 1 s (ints [x]) :: L) w) (k : R [.bool (x == u.state)] w) : sh207 (some ⟨t, 0, none⟩) s R w := by
  unfold sh207
  refine nn.mk (ldI.mk (h.cell rfl) ?_)
  exact call243 (Contains1 h.p1 ⟨((x == u.state), ()), rfl, k⟩)

/-- the question at a state alone -/
theorem is_step {e w L t u} {x : Int} {K : TK [kB] → World → Prop} (h : Ok e (pts t (tcC u) :: L) w) (k : ∀ w', Ok e (pts t (tcC u) :: L) w' → K ((x == u.state), ()) w') :
    al w 3 [.int .i64 x] fun b1 w2 => cl Pg 207 [pV t, vS ⟨some ⟨b1, 0, none⟩, 1, 1⟩] [kB] w2 K := by
  refine al.mk h fun b w1 h => ?_
  have h := h.slcNew (n := 1) (sz := 1) rfl (ints_one [x])
  exact call207 (Is_tcb h.p1 ⟨((x == u.state), ()), rfl, k w1 h.drop⟩)

theorem New_tcb {e w L R} (h : Ok e L w) (k : ∀ t w', Ok e (pts t [.int .i64 0, .int .i64 0, .int .i64 0, .int .i64 16, .bool false] :: L) w' → R [pV t] w') : sh104 R w := by
  unfold sh104
  exact al.mk h fun t w1 h => k t w1 h

theorem Act_tcb {e w L t u R} (h : Ok e (pts t (tcC u) :: L) w) (hb : 0 ≤ u.acts)
    (k1 : u.state = 16 → ∀ w', Ok e (pts t (tcC { u with state := 2 }) :: L) w' → R [.bool true, .int .i64 0] w')
    (k2 : u.state ≠ 16 → u.acts ≥ 7 → ∀ w', Ok e (pts t (tcC u) :: L) w' → R [.bool false, .int .i64 (-43)] w')
    (k3 : u.state ≠ 16 → ¬ u.acts ≥ 7 → ∀ w', Ok e (pts t (tcC { u with acts := u.acts + 1 }) :: L) w' → R [.bool false, .int .i64 0] w') : sh187 (some ⟨t, 0, none⟩) R w := by
  unfold sh187
  refine is_step h fun w1 h => cs.mk (fun h1 => ?_) (fun h1 => ?_)
  · have h1 : u.state = 16 := by have : (16 : Int) = u.state := by simpa using h1
                                 exact this.symm
    exact nn.mk (st1.mk h (by simp) fun w2 h => k1 h1 w2 h)
  · have h1 : u.state ≠ 16 := by have : ¬ (16 : Int) = u.state := by simpa using h1
                                 exact fun h => this h.symm
    refine nn.mk (ldI.mk (h.cell rfl) (cs.mk (fun h2 => ?_) (fun h2 => ?_)))
    · exact k2 h1 (of_decide_eq_true h2) w1 h
    · have h2 := of_decide_eq_false h2
      refine nn.mk (ldI.mk (h.cell rfl) (nn.mk (st1.mk h (by simp) fun w2 h => k3 h1 h2 w2 ?_)))
      rw [w64_in (by omega) (by omega)] at h
      exact h

theorem Release_tcb {e w L t u R} (h : Ok e (pts t (tcC u) :: L) w) (k : ∀ w' b, Ok e (pts t (tcC u.release) :: L) w' → R [.bool b] w') : sh115 (some ⟨t, 0, none⟩) R w := by
  unfold sh115
  refine nn.mk (ldI.mk (h.cell rfl) ?_)
  by_cases h4 : u.state = 4
  · refine jn.at (t := ()) (fun w' => Ok e (pts t (tcC { u with state := 2 }) :: L) w') (fun J hJ => cs.yes (by simpa using h4) (nn.mk (st1.mk h (by simp) fun w1 h => hJ w1 h))) (fun w1 h => nn.mk (st1.mk h (by simp) fun w2 h => k w2 true ?_))
    unfold Un.release
    rw [if_pos h4]
    exact h
  · by_cases h12 : u.state = 12
    · refine jn.at (t := ()) (fun w' => Ok e (pts t (tcC { u with state := 8 }) :: L) w') (fun J hJ => cs.no (by simpa using h4) (cs.yes (by simpa using h12) (nn.mk (st1.mk h (by simp) fun w1 h => hJ w1 h)))) (fun w1 h => nn.mk (st1.mk h (by simp) fun w2 h => k w2 true ?_))
      unfold Un.release
      rw [if_neg h4, if_pos h12]
      exact h
    · refine jn.mk fun J _ => cs.no (by simpa using h4) (cs.no (by simpa using h12) (k w false ?_))
      unfold Un.release
      rw [if_neg h4, if_neg h12]
      exact h

theorem Kill_tcb {e w L t u R} (h : Ok e (pts t (tcC u) :: L) w) (hb : 0 ≤ u.acts ∧ u.acts ≤ 2 ^ 40) (k : ∀ w' c, Ok e (pts t (tcC u.kill.2) :: L) w' → R [.bool u.kill.1, .int .i64 c] w') : sh202 (some ⟨t, 0, none⟩) R w := by
  unfold sh202
  unfold Un.kill at k
  refine is_step h fun w1 h => cs.mk (fun h1 => ?_) (fun h1 => ?_)
  · have h1 : (16 : Int) = u.state := by simpa using h1
    rw [if_pos h1.symm] at k
    exact k w1 _ h
  · have h1 : ¬ (16 : Int) = u.state := by simpa using h1
    rw [if_neg (fun h => h1 h.symm)] at k
    refine call241 ?_
    unfold sh241
    refine nn.mk (st1.mk h (by simp) fun w2 h => nn.mk (st1.mk h (by simp) fun w3 h => nn.mk (st1.mk h (by simp) fun w4 h => nn.mk (st1.mk h (by simp) fun w5 h => nn.mk (ldI.mk (h.cell rfl) (cs.mk (fun h2 => ?_) (fun h2 => ?_)))))))
    · have h2 : u.acts = 0 := by simpa using h2
      rw [if_pos h2] at k
      exact ⟨(false, ()), rfl, k w5 _ h⟩
    · have h2 : ¬ u.acts = 0 := by simpa using h2
      rw [if_neg h2] at k
      refine nn.mk (ldI.mk (h.cell rfl) (nn.mk (st1.mk h (by simp) fun w6 h => nn.mk (st1.mk h (by simp) fun w7 h => ⟨(true, ()), rfl, k w7 _ ?_⟩))))
      rw [w64_in (by omega) (by omega)] at h
      exact h

theorem Stay_tcb {e w L t u R} (h : Ok e (pts t (tcC u) :: L) w) (k : ∀ w' c, Ok e (pts t (tcC (if u.state = 2 then { u with state := 4, asleep := false } else u)) :: L) w' → R [.int .i64 c] w') : sh205 (some ⟨t, 0, none⟩) R w := by
  unfold sh205
  refine is_step h fun w1 h => cs.mk (fun h1 => ?_) (fun h1 => ?_)
  · have h1 : ¬ (2 : Int) = u.state := by simpa using h1
    rw [if_neg (fun h => h1 h.symm)] at k
    exact k w1 _ h
  · have h1 : (2 : Int) = u.state := by simpa using h1
    rw [if_pos h1.symm] at k
    exact nn.mk (st1.mk h (by simp) fun w2 h => nn.mk (st1.mk h (by simp) fun w3 h => k w3 _ h))

theorem Sleep_tcb {e w L t u R} (h : Ok e (pts t (tcC u) :: L) w) (hb : 0 ≤ u.wups ∧ u.wups ≤ 2 ^ 40)
    (k1 : u.state ≠ 2 → ∀ w', Ok e (pts t (tcC u) :: L) w' → R [.bool false, .int .i64 (-41)] w')
    (k2 : u.state = 2 → u.wups > 0 → ∀ w', Ok e (pts t (tcC { u with wups := u.wups - 1 }) :: L) w' → R [.bool false, .int .i64 0] w')
    (k3 : u.state = 2 → ¬ u.wups > 0 → ∀ w', Ok e (pts t (tcC { u with state := 4, asleep := true }) :: L) w' → R [.bool true, .int .i64 0] w') : sh204 (some ⟨t, 0, none⟩) R w := by
  unfold sh204
  refine is_step h fun w1 h => cs.mk (fun h1 => ?_) (fun h1 => ?_)
  · have h1 : ¬ (2 : Int) = u.state := by simpa using h1
    exact k1 (fun h => h1 h.symm) w1 h
  · have h1 : (2 : Int) = u.state := by simpa using h1
    refine nn.mk (ldI.mk (h.cell rfl) (cs.mk (fun h2 => ?_) (fun h2 => ?_)))
    · have h2 := of_decide_eq_true h2
      refine nn.mk (ldI.mk (h.cell rfl) (nn.mk (st1.mk h (by simp) fun w2 h => k2 h1.symm h2 w2 ?_)))
      rw [w64_in (by omega) (by omega)] at h
      exact h
    · have h2 := of_decide_eq_false h2
      exact nn.mk (st1.mk h (by simp) fun w2 h => nn.mk (st1.mk h (by simp) fun w3 h => k3 h1.symm h2 w3 h))

theorem Suspend_tcb {e w L t u R} (h : Ok e (pts t (tcC u) :: L) w) (hb : 0 ≤ u.susps)
    (k1 : u.state = 16 → ∀ w', Ok e (pts t (tcC u) :: L) w' → R [.int .i64 (-41)] w')
    (k2 : u.state ≠ 16 → u.susps ≥ 7 → ∀ w', Ok e (pts t (tcC u) :: L) w' → R [.int .i64 (-43)] w')
    (k3 : u.state ≠ 16 → ¬ u.susps ≥ 7 → ∀ w', Ok e (pts t (tcC { u with susps := u.susps + 1, state := if u.state = 2 then 8 else if u.state = 4 then 12 else u.state }) :: L) w' → R [.int .i64 0] w') : sh211 (some ⟨t, 0, none⟩) R w := by
  unfold sh211
  refine is_step h fun w1 h => cs.mk (fun h1 => ?_) (fun h1 => ?_)
  · have h1 : (16 : Int) = u.state := by simpa using h1
    exact k1 h1.symm w1 h
  · have h1 : ¬ (16 : Int) = u.state := by simpa using h1
    have h1 : u.state ≠ 16 := fun h => h1 h.symm
    refine nn.mk (ldI.mk (h.cell rfl) (cs.mk (fun h2 => ?_) (fun h2 => ?_)))
    · exact k2 h1 (of_decide_eq_true h2) w1 h
    · have h2 := of_decide_eq_false h2
      refine nn.mk (ldI.mk (h.cell rfl) (nn.mk (st1.mk h (by simp) fun w2 h => nn.mk (ldI.mk (h.cell rfl) (cs.mk (fun h3 => ?_) (fun h3 => ?_))))))
      · have h3 : u.state = 2 := by simpa using h3
        refine nn.mk (st1.mk h (by simp) fun w3 h => k3 h1 h2 w3 ?_)
        rw [w64_in (by omega) (by omega)] at h
        rw [if_pos h3]
        exact h
      · have h3 : ¬ u.state = 2 := by simpa using h3
        refine cs.mk (fun h4 => ?_) (fun h4 => ?_)
        · have h4 : u.state = 4 := by simpa using h4
          refine nn.mk (st1.mk h (by simp) fun w3 h => k3 h1 h2 w3 ?_)
          rw [w64_in (by omega) (by omega)] at h
          rw [if_neg h3, if_pos h4]
          exact h
        · have h4 : ¬ u.state = 4 := by simpa using h4
          refine k3 h1 h2 w2 ?_
          rw [w64_in (by omega) (by omega)] at h
          rw [if_neg h3, if_neg h4]
          exact h

end Go.Proofs.YtenonfkfoedfmaaGreatDoor.B


/- Rows of elements of any form. -/
namespace Go.Proofs.YtenonfkfoedfmaaGreatDoor.B
open Go
set_option linter.unusedVariables false
section
variable {α : Type} {f : α → List Value} {n : Nat} {l m : List α}
def flat (f : α → List Value) (l : List α) : List Value := l.flatMap f
theorem flat_nil : flat f [] = [] := rfl
theorem flat_cons (a : α) : flat f (a :: l) = f a ++ flat f l := by simp [flat]
theorem flat_append : flat f (l ++ m) = flat f l ++ flat f m := by simp [flat]
theorem flat_one (h : ∀ a, ∀ v ∈ f a, v.oneCell' = true) : ∀ v ∈ flat f l, v.oneCell' = true := by
  intro v hv
  obtain ⟨a, _, ha⟩ := List.mem_flatMap.1 hv
  exact h a v ha
theorem flat_len (hf : ∀ a, (f a).length = n) : (flat f l).length = l.length * n := by
  induction l with
  | nil => simp [flat]
  | cons a l ih => rw [flat_cons, List.length_append, ih, hf, List.length_cons, Nat.add_mul, Nat.one_mul, Nat.add_comm]
theorem flat_take (hf : ∀ a, (f a).length = n) (i : Nat) : (flat f l).take (i * n) = flat f (l.take i) := by
  induction l generalizing i with
  | nil => simp [flat]
  | cons a l ih =>
    cases i with
    | zero => simp [flat]
    | succ i =>
      rw [flat_cons, List.take_succ_cons, flat_cons, ← ih, List.take_append, hf, List.take_of_length_le (by rw [hf, Nat.add_mul, Nat.one_mul]; exact Nat.le_add_left ..)]
      congr 2
      rw [Nat.add_mul, Nat.one_mul, Nat.add_sub_cancel]
theorem flat_drop (hf : ∀ a, (f a).length = n) (i : Nat) : (flat f l).drop (i * n) = flat f (l.drop i) := by
  induction l generalizing i with
  | nil => simp [flat]
  | cons a l ih =>
    cases i with
    | zero => simp
    | succ i =>
      rw [flat_cons, List.drop_succ_cons, ← ih, List.drop_append, hf, List.drop_eq_nil_of_le (by rw [hf, Nat.add_mul, Nat.one_mul]; exact Nat.le_add_left ..)]
      rw [Nat.add_mul, Nat.one_mul, Nat.add_sub_cancel, List.nil_append]
theorem flat_get (hf : ∀ a, (f a).length = n) {i j : Nat} {a : α} (h : l[i]? = some a) (hj : j < n) : (flat f l)[i * n + j]? = (f a)[j]? := by
  induction l generalizing i with
  | nil => simp at h
  | cons b l ih =>
    cases i with
    | zero =>
      simp at h
      subst h
      rw [flat_cons, Nat.zero_mul, Nat.zero_add, List.getElem?_append_left (by rw [hf]; exact hj)]
    | succ i =>
      have := ih (i := i) (by simpa using h)
      rw [flat_cons, List.getElem?_append_right (by rw [hf, Nat.add_mul, Nat.one_mul]; omega), hf]
      rw [← this]
      congr 1
      rw [Nat.add_mul, Nat.one_mul]; omega
theorem flat_set (hf : ∀ a, (f a).length = n) {i j : Nat} {a b : α} {v : Value} (h : l[i]? = some a) (hj : j < n) (hb : (f a).set j v = f b) : (flat f l).set (i * n + j) v = flat f (l.set i b) := by
  induction l generalizing i with
  | nil => simp at h
  | cons c l ih =>
    cases i with
    | zero =>
      simp at h
      subst h
      rw [flat_cons, Nat.zero_mul, Nat.zero_add, List.set_append_left _ _ (by rw [hf]; exact hj), hb, List.set_cons_zero, flat_cons]
    | succ i =>
      have := ih (i := i) (by simpa using h)
      rw [flat_cons, List.set_append_right _ _ (by rw [hf, Nat.add_mul, Nat.one_mul]; omega), hf, List.set_cons_succ, flat_cons, ← this]
      congr 2
      rw [Nat.add_mul, Nat.one_mul]; omega
theorem slc_flat_len {e : World} {L : List SP} {w : World} {s : Sl} (hf : ∀ a, (f a).length = n) (hn : 0 < n) (h : Ok e (slc n s (flat f l) :: L) w) : l.length = s.len := by
  have := h.slc_len
  rw [flat_len hf] at this
  exact Nat.eq_of_mul_eq_mul_right hn this
theorem ix_flat {e : World} {L : List SP} {w : World} {s : Sl} {i : Int} {g : Nat → Nat → Prop} (hf : ∀ a, (f a).length = n) (hn : 0 < n) (h : Ok e (slc n s (flat f l) :: L) w) (h0 : 0 ≤ i) (h1 : i < l.length)
    (k : ∀ b o a, l[i.toNat]? = some a → s.a = some ⟨b, 0, none⟩ → o = i.toNat * n → (∀ j v, (f a)[j]? = some v → ∀ w', (∃ L', Ok e (slc n s (flat f l) :: L') w') → w'.cell? ⟨b, o + j, none⟩ = some v) → g b o) : ix s i n g := by
  have hl := slc_flat_len hf hn h
  obtain ⟨-, -, hc, hcase⟩ := h.slcE
  rcases hcase with ⟨ha, hcap, hL⟩ | ⟨b, post, ha, hp, hk⟩
  · omega
  · have hlt : i.toNat < l.length := by omega
    refine ⟨b, 0, ha, h0, by omega, k b _ _ (List.getElem?_eq_getElem hlt) ha (by omega) ?_⟩
    rintro j v hv w' ⟨L', h'⟩
    have hj : j < n := by
      have := (List.getElem?_eq_some_iff.1 hv).1
      rw [hf] at this
      exact this
    have := h'.slc_cells ha (i.toNat * n + j) v (by rw [flat_get hf (List.getElem?_eq_getElem hlt) hj]; exact hv)
    rw [Addr.add_lit] at this
    rw [Nat.zero_add] at this
    rw [Nat.zero_add]
    exact this
end
end Go.Proofs.YtenonfkfoedfmaaGreatDoor.B


/- Contracts of the package mtx: what lies where; priorities reckoned. -/
namespace Go.Proofs.YtenonfkfoedfmaaGreatDoor.B
open Go
set_option linter.unusedVariables false

/-- an element of a part of a row -/
theorem ix_sub_flat {α : Type} {f : α → List Value} {n : Nat} {l : List α} {e : World} {L : List SP} {w : World} {s x : Sl} {lo hi : Nat} {i : Int} {g : Nat → Nat → Prop} (hf : ∀ a, (f a).length = n) (hn : 0 < n)
    (h : Ok e (slc n s (flat f l) :: L) w) (hx : SubOf s n lo hi x) (h0 : 0 ≤ i) (h1 : i.toNat + lo < hi) (h2 : hi ≤ l.length)
    (k : ∀ b o a, l[lo + i.toNat]? = some a → (∀ j v, (f a)[j]? = some v → ∀ w', (∃ L', Ok e (slc n s (flat f l) :: L') w') → w'.cell? ⟨b, o + j, none⟩ = some v) → g b o) : ix x i n g := by
  obtain ⟨b, hb, hxa⟩ := hx.at' (by omega)
  have hlt : lo + i.toNat < l.length := by omega
  refine ⟨b, lo * n, hxa, h0, by rw [hx.len]; omega, k b _ _ (List.getElem?_eq_getElem hlt) ?_⟩
  rintro j v hv w' ⟨L', h'⟩
  have hj : j < n := by
    have := (List.getElem?_eq_some_iff.1 hv).1
    rw [hf] at this
    exact this
  have := h'.slc_cells hb ((lo + i.toNat) * n + j) v (by rw [flat_get hf (List.getElem?_eq_getElem hlt) hj]; exact hv)
  rw [Addr.add_lit, Nat.zero_add] at this
  rw [← Nat.add_mul]
  exact this

/-- a cell of an element is laid anew -/
theorem st_flat {α : Type} {f : α → List Value} {n : Nat} {l : List α} {e : World} {L : List SP} {w : World} {s : Sl} {i j : Nat} {a a' : α} {v : Value} {K : World → Prop} {b o : Nat} (hf : ∀ a, (f a).length = n) (h1 : ∀ a, ∀ v ∈ f a, v.oneCell' = true)
    (h : Ok e (slc n s (flat f l) :: L) w) (ha : l[i]? = some a) (hj : j < n) (hv : (f a).set j v = f a') (hs : s.a = some ⟨b, 0, none⟩) (ho : o = i * n + j)
    (k : ∀ w', Ok e (slc n s (flat f (l.set i a')) :: L) w' → K w') : st1 w b o v fun w => K w := by
  subst ho
  obtain ⟨hl, hv1, hcap, ⟨h0, _⟩ | ⟨b', post, hb, hp, hk⟩⟩ := h.slcE
  · rw [h0] at hs; cases hs
  · rw [hb] at hs
    cases hs
    have hil := (List.getElem?_eq_some_iff.1 ha).1
    have hfl : (flat f l).length = l.length * n := flat_len hf
    have hlt : i * n + j < (flat f l).length := by
      have : (i + 1) * n ≤ l.length * n := Nat.mul_le_mul_right _ hil
      rw [Nat.add_mul, Nat.one_mul] at this
      rw [hfl]; omega
    refine st1.mk hk (by rw [List.length_append]; omega) fun w1 h1' => k w1 ?_
    rw [List.set_append_left _ _ hlt, flat_set hf ha hj hv] at h1'
    have hfl2 : (flat f (l.set i a')).length = (flat f l).length := by rw [flat_len hf, flat_len hf, List.length_set]
    exact h1'.slcI hb (by rw [hfl2]; exact hl) (flat_one h1) hcap (by rw [hfl2]; exact hp)

abbrev mtC (x : Mt) : List Value := [.int .i64 x.base, .int .i64 x.pri, .int .i64 x.waits]

abbrev mxC (p : Mx × Sl) : List Value := [.int .i64 p.1.attr, .int .i64 p.1.ceil, .int .i64 p.1.owner, vS p.2]

theorem mtC_len (x : Mt) : (mtC x).length = 3 := rfl

theorem mxC_len (x : Mx × Sl) : (mxC x).length = 4 := rfl

theorem mxC_one (x : Mx × Sl) : ∀ v ∈ mxC x, v.oneCell' = true := by
  intro v hv
  simp only [mxC, List.mem_cons, List.not_mem_nil, or_false] at hv
  rcases hv with rfl | rfl | rfl | rfl <;> rfl

def mx0 : Mx := ⟨0, 0, 0, []⟩

def mz (m : List Mx) (ws : Nat → Sl) : List (Mx × Sl) := (List.range m.length).map fun i => ((m[i]?).getD mx0, ws i)

theorem mz_len {m ws} : (mz m ws).length = m.length := by simp [mz]

theorem mz_get {m : List Mx} {ws : Nat → Sl} {i : Nat} {x : Mx} (h : m[i]? = some x) : (mz m ws)[i]? = some (x, ws i) := by
  have hi := (List.getElem?_eq_some_iff.1 h).1
  unfold mz
  rw [List.getElem?_map, List.getElem?_range hi, Option.map_some, h]
  rfl

theorem mz_set {m : List Mx} {ws : Nat → Sl} {i : Nat} {x' : Mx} {s' : Sl} (hi : i < m.length) : (mz m ws).set i (x', s') = mz (m.set i x') (updN ws i s') := by
  apply List.ext_getElem?
  intro j
  rw [List.getElem?_set, mz_len]
  by_cases e : i = j
  · subst e
    rw [if_pos rfl, if_pos hi, mz_get (x := x') (by simp [hi]), updN_same]
  · rw [if_neg e]
    by_cases hj : j < m.length
    · rw [mz_get (x := m[j]) (List.getElem?_eq_getElem hj), mz_get (x := m[j]) (by rw [List.getElem?_set, if_neg e, List.getElem?_eq_getElem hj]), updN_other (Ne.symm e)]
    · rw [List.getElem?_eq_none (by rw [mz_len]; omega), List.getElem?_eq_none (by rw [mz_len, List.length_set]; omega)]

def wtF (m : List Mx) (ws : Nat → Sl) : Nat → SP := fun i => slc 1 (ws i) (ints ((m[i]?).getD mx0).wait)

/-- mutexes and tasks, in parts -/
abbrev mmL (a : Nat) (M : MM) (s : Sl) (ws : Nat → Sl) : List SP := [pts a (vS s :: flat mtC M.t), slc 4 s (flat mxC (mz M.m ws)), oksH (starN M.m.length (wtF M.m ws))]

structure MmOk (M : MM) : Prop where
  t : M.t.length = 17
  m0 : 1 ≤ M.m.length
  m1 : M.m.length ≤ 9

def mmP (a : Nat) (M : MM) : SP := fun h => ∃ s ws, MmOk M ∧ oksH (mmL a M s ws) h

theorem wtF_eq {m : List Mx} {ws : Nat → Sl} {i : Nat} {x : Mx} (h : m[i]? = some x) : wtF m ws i = slc 1 (ws i) (ints x.wait) := by
  unfold wtF
  rw [h]
  rfl

theorem mmE {e w L a M} (h : Ok e (mmP a M :: L) w) : ∃ s ws, MmOk M ∧ s.len = M.m.length ∧ Ok e (pts a (vS s :: flat mtC M.t) :: slc 4 s (flat mxC (mz M.m ws)) :: oksH (starN M.m.length (wtF M.m ws)) :: L) w := by
  obtain ⟨s, h⟩ := h.exE
  obtain ⟨ws, h⟩ := h.exE
  obtain ⟨h1, h⟩ := h.pureE
  have h := h.unpack
  have hl := slc_flat_len mxC_len (by decide) h.p1
  rw [mz_len] at hl
  exact ⟨s, ws, h1, hl.symm, h⟩

theorem mmI {e w L a M s ws} (h1 : MmOk M) (h : Ok e (pts a (vS s :: flat mtC M.t) :: slc 4 s (flat mxC (mz M.m ws)) :: oksH (starN M.m.length (wtF M.m ws)) :: L) w) : Ok e (mmP a M :: L) w :=
  (Ok.pack (M := mmL a M s ws) h).imp fun k hk => ⟨s, ws, h1, hk⟩

theorem mm_ok {e w L a M} (h : Ok e (mmP a M :: L) w) : MmOk M := (mmE h).choose_spec.choose_spec.1

/-- a task's cells -/
theorem tcell {e w L a s t} {n : Int} {x : Mt} (h : Ok e (pts a (vS s :: flat mtC t) :: L) w) (hx : getO t n = some x) : ∀ j v, (mtC x)[j]? = some v → w.cell? ⟨a, 0 + 1 + n.toNat * 3 + j, none⟩ = some v := by
  intro j v hv
  obtain ⟨-, -, hx⟩ := getO_some hx
  have hj : j < 3 := (List.getElem?_eq_some_iff.1 hv).1
  refine h.cell ?_
  rw [show 0 + 1 + n.toNat * 3 + j = (n.toNat * 3 + j) + 1 by omega, List.getElem?_cons_succ, flat_get mtC_len hx hj]
  exact hv

theorem ixA_t {a : Nat} {t : List Mt} {n : Int} {x : Mt} {f : Nat → Nat → Prop} (ht : t.length = 17) (hx : getO t n = some x) (k : f a (0 + 1 + n.toNat * 3)) : ixA a (0 + 1) 17 n 3 f := by
  obtain ⟨h0, h1, -⟩ := getO_some hx
  exact ⟨h0, by omega, k⟩

theorem st_t {e w L a s t} {n : Int} {x y : Mt} {j : Nat} {v : Value} {K : World → Prop} {o : Nat} (h : Ok e (pts a (vS s :: flat mtC t) :: L) w) (hx : getO t n = some x) (hj : j < 3) (hv : (mtC x).set j v = mtC y) (ho : o = 0 + 1 + n.toNat * 3 + j)
    (k : ∀ w', Ok e (pts a (vS s :: flat mtC (t.set n.toNat y)) :: L) w' → K w') : st1 w a o v fun w => K w := by
  subst ho
  obtain ⟨-, hlt, hx⟩ := getO_some hx
  refine st1.mk h ?_ fun w1 h1 => k w1 ?_
  · rw [List.length_cons, flat_len mtC_len]; omega
  · rw [show 0 + 1 + n.toNat * 3 + j = (n.toNat * 3 + j) + 1 by omega, List.set_cons_succ, flat_set mtC_len hx hj hv] at h1
    exact h1

theorem is_mtx {w n R} (k : R [.bool (decide (1 ≤ n ∧ n ≤ 16))] w) : sh62 n R w := task_ready k

theorem may_mtx {w n R} (k : R [.bool (decide (1 ≤ n ∧ n ≤ 16))] w) : sh63 n R w := task_ready k

theorem in_mtx {e w L a M m R} (h : Ok e (mmP a M :: L) w) (k : R [.bool (M.isIn m)] w) : sh68 (some ⟨a, 0, none⟩) m R w := by
  obtain ⟨s, ws, ho, hl, h⟩ := mmE h
  unfold sh68
  refine jn.bool (M.isIn m) (fun J hJ => cs.mk (fun h1 => ?_) (fun h1 => ?_)) k
  · have h1 := of_decide_eq_true h1
    refine nn.mk (ldS.mk (h.cell rfl) ?_)
    rw [show decide (m < ((s.len : Nat) : Int)) = M.isIn m from decide_eq_decide.2 (by omega)]
    exact hJ
  · have h1 := of_decide_eq_false h1
    rw [show M.isIn m = false from decide_eq_false (by omega)] at hJ
    exact hJ

theorem Pri_mtx {e w L a M n p R} (h : Ok e (mmP a M :: L) w) (hp : M.pri n = some p) (k : R [.int .i64 p] w) : sh35 (some ⟨a, 0, none⟩) n R w := by
  obtain ⟨s, ws, ho, hl, h⟩ := mmE h
  unfold sh35
  unfold MM.pri at hp
  refine call62 (is_mtx ⟨(decide (1 ≤ n ∧ n ≤ 16), ()), rfl, ?_⟩)
  refine cs.mk (fun h1 => ?_) (fun h1 => ?_)
  · rw [if_neg (ndT h1)] at hp
    cases hp
    exact k
  · have h1 : 1 ≤ n ∧ n ≤ 16 := by
      by_cases hc : 1 ≤ n ∧ n ≤ 16
      · exact hc
      · dsimp only at h1; rw [ndM hc] at h1; cases h1
    rw [if_pos h1] at hp
    obtain ⟨x, hx, rfl⟩ := Option.map_eq_some_iff.1 hp
    exact nn.mk (ixA_t ho.t hx (ldI.mk (tcell h hx 1 _ rfl) k))

theorem Base_mtx {e w L a M n p R} (h : Ok e (mmP a M :: L) w) (hp : M.base n = some p) (k : R [.int .i64 p] w) : sh36 (some ⟨a, 0, none⟩) n R w := by
  obtain ⟨s, ws, ho, hl, h⟩ := mmE h
  unfold sh36
  unfold MM.base at hp
  refine call62 (is_mtx ⟨(decide (1 ≤ n ∧ n ≤ 16), ()), rfl, ?_⟩)
  refine cs.mk (fun h1 => ?_) (fun h1 => ?_)
  · rw [if_neg (ndT h1)] at hp
    cases hp
    exact k
  · have h1 : 1 ≤ n ∧ n ≤ 16 := by
      by_cases hc : 1 ≤ n ∧ n ≤ 16
      · exact hc
      · dsimp only at h1; rw [ndM hc] at h1; cases h1
    rw [if_pos h1] at hp
    obtain ⟨x, hx, rfl⟩ := Option.map_eq_some_iff.1 hp
    exact nn.mk (ixA_t ho.t hx (ldI.mk (tcell h hx 0 _ rfl) k))

/-- a mutex's cells -/
theorem ix_mx {e w L s m ws} {i : Int} {x : Mx} {g : Nat → Nat → Prop} (h : Ok e (slc 4 s (flat mxC (mz m ws)) :: L) w) (hx : getO m i = some x)
    (k : ∀ b o, s.a = some ⟨b, 0, none⟩ → o = i.toNat * 4 → (∀ j v, (mxC (x, ws i.toNat))[j]? = some v → ∀ w', (∃ L', Ok e (slc 4 s (flat mxC (mz m ws)) :: L') w') → w'.cell? ⟨b, o + j, none⟩ = some v) → g b o) : ix s i 4 g := by
  obtain ⟨h0, hlt, hx⟩ := getO_some hx
  refine ix_flat mxC_len (by decide) h h0 (by rw [mz_len]; omega) fun b o a ha hs ho hc => ?_
  rw [mz_get hx] at ha
  cases ha
  exact k b o hs ho hc

theorem rkL_some {rk : Int → Option Int} {w : Int} {r : List Int} {p q : Int} (h : MM.rkL rk (w :: r) p = some q) : ∃ x, rk w = some x ∧ MM.rkL rk r (if x < p then x else p) = some q := Option.bind_eq_some_iff.1 h

theorem reckon_mtx {e a M s ws} (ho : MmOk M) (hl : s.len = M.m.length) : ∀ (f : Nat) (n deep p : Int) (L : List SP) (w : World) (R : List Value → World → Prop), M.reckon f n deep = some p → 0 ≤ deep → deep + f ≤ 1000 →
    Ok e (pts a (vS s :: flat mtC M.t) :: slc 4 s (flat mxC (mz M.m ws)) :: oksH (starN M.m.length (wtF M.m ws)) :: L) w →
    (∀ w', Ok e (pts a (vS s :: flat mtC M.t) :: slc 4 s (flat mxC (mz M.m ws)) :: oksH (starN M.m.length (wtF M.m ws)) :: L) w' → R [.int .i64 p] w') → sh123 (some ⟨a, 0, none⟩) n deep R w := by
  intro f
  induction f with
  | zero => intro n deep p L w R h; cases h
  | succ f ih =>
    intro n deep p L w R hm hd hdf h k
    obtain ⟨t, ht, hm⟩ := Option.bind_eq_some_iff.1 hm
    unfold sh123
    refine nn.mk (ixA_t ho.t ht (ldI.mk (tcell h ht 0 _ rfl) (nn.mk (ldS.mk (h.cell rfl) ?_))))
    have := ho.m0
    have := ho.m1
    refine sb_sub h.p1 (by omega) (by omega) (Int.le_refl _) fun s9 hs9 => ?_
    rw [show (1 : Int).toNat = 1 from rfl, Int.toNat_natCast] at hs9
    have hl9 := hs9.len
    refine lp.mk (fun t w1 => ∃ i : Nat, @Eq Int t.2.1 (i : Int) ∧ i ≤ s9.len ∧ MM.rkM (fun w => M.reckon f w (deep + 1)) n deep (M.m.drop (1 + i)) t.1 = some p ∧
      Ok e (pts a (vS s :: flat mtC M.t) :: slc 4 s (flat mxC (mz M.m ws)) :: oksH (starN M.m.length (wtF M.m ws)) :: L) w1) (fun t _ => Int.toNat (Int.sub s9.len t.2.1)) ⟨0, rfl, Nat.zero_le _, hm, h⟩ ?_
    rintro ⟨(q : Int), (j : Int), _⟩ w1 ⟨i, (rfl : j = (i : Int)), hi, hm, h⟩
    have hm : MM.rkM (fun w => M.reckon f w (deep + 1)) n deep (M.m.drop (1 + i)) q = some p := hm
    refine cs.mk (fun hlt => ?_) (fun hge => ?_)
    · have hlt : i < s9.len := by have := of_decide_eq_true hlt; dsimp only at this; omega
      have hil : 1 + i < M.m.length := by omega
      obtain ⟨x, hx⟩ : ∃ x, M.m[1 + i]? = some x := ⟨_, List.getElem?_eq_getElem hil⟩
      rw [List.drop_eq_getElem_cons hil] at hm
      have hxe : M.m[1 + i] = x := by rw [List.getElem?_eq_getElem hil] at hx; exact Option.some.inj hx
      rw [hxe] at hm
      refine ix_sub_flat mxC_len (by decide) h.p1 hs9 (by dsimp only; omega) (by dsimp only; omega) (by rw [mz_len]; omega) fun b o c hc hr => ?_
      rw [Int.toNat_natCast, mz_get hx] at hc
      cases hc
      refine ldI.mk (hr 0 _ rfl _ ⟨_, h.p1⟩) (ldI.mk (hr 1 _ rfl _ ⟨_, h.p1⟩) (ldI.mk (hr 2 _ rfl _ ⟨_, h.p1⟩) (ldS.mk (hr 3 _ rfl _ ⟨_, h.p1⟩) ?_)))
      refine al.mk h fun c w2 h => st1.mk h (by simp) fun w3 h => st1.mk h (by simp) fun w4 h => st1.mk h (by simp) fun w5 h => st1.mk h (by simp) fun w6 h => ?_
      have h : Ok e (pts c [.int .i64 x.attr, .int .i64 x.ceil, .int .i64 x.owner, vS (ws (1 + i))] :: pts a (vS s :: flat mtC M.t) :: slc 4 s (flat mxC (mz M.m ws)) :: oksH (starN M.m.length (wtF M.m ws)) :: L) w6 := h
      have next : ∀ q' w', MM.rkM (fun w => M.reckon f w (deep + 1)) n deep (M.m.drop (1 + i + 1)) q' = some p → Ok e (pts a (vS s :: flat mtC M.t) :: slc 4 s (flat mxC (mz M.m ws)) :: oksH (starN M.m.length (wtF M.m ws)) :: L) w' →
          (∃ i' : Nat, @Eq Int (w64 ((i : Int) + 1)) (i' : Int) ∧ i' ≤ s9.len ∧ MM.rkM (fun w => M.reckon f w (deep + 1)) n deep (M.m.drop (1 + i')) q' = some p ∧ Ok e (pts a (vS s :: flat mtC M.t) :: slc 4 s (flat mxC (mz M.m ws)) :: oksH (starN M.m.length (wtF M.m ws)) :: L) w') ∧
          Int.toNat (Int.sub s9.len (w64 ((i : Int) + 1))) < Int.toNat (Int.sub s9.len (i : Int)) := by
        intro q' w' hm' h'
        rw [w64_in (by omega) (by omega)]
        refine ⟨⟨i + 1, rfl, hlt, by rw [show 1 + (i + 1) = 1 + i + 1 by omega]; exact hm', h'⟩, ?_⟩
        show Int.toNat ((s9.len : Int) - ((i : Int) + 1)) < Int.toNat ((s9.len : Int) - (i : Int))
        omega
      refine ldI.mk (h.cell rfl) ?_
      refine jn.bool (decide (x.owner ≠ n ∨ deep > 16)) (fun J hJ => cs.mk (fun h1 => ?_) (fun h1 => ?_)) ?_
      · have h1 : x.owner ≠ n := by simpa using h1
        rw [decide_eq_true (.inl h1)] at hJ
        exact hJ
      · have h1 : x.owner = n := by simpa using h1
        rw [show decide (deep > 16) = decide (x.owner ≠ n ∨ deep > 16) from decide_eq_decide.2 ⟨.inr, fun h => h.resolve_left (fun h => h h1)⟩]
        exact hJ
      rw [MM.rkM] at hm
      refine cs.mk (fun h1 => ?_) (fun h1 => ?_)
      · have h1 := of_decide_eq_true h1
        rw [if_pos h1] at hm
        exact next _ _ hm h.drop
      · have h1 := of_decide_eq_false h1
        rw [if_neg h1] at hm
        refine ldI.mk (h.cell rfl) (cs.mk (fun h2 => ?_) (fun h2 => ?_))
        · have h2 : x.attr = 3 := by simpa using h2
          rw [if_pos h2] at hm
          exact ldI.mk (h.cell rfl) (next _ _ hm h.drop)
        · have h2 : ¬ x.attr = 3 := by simpa using h2
          rw [if_neg h2] at hm
          refine ldI.mk (h.cell rfl) (cs.mk (fun h3 => ?_) (fun h3 => ?_))
          · have h3 : x.attr = 2 := by simpa using h3
            rw [if_pos h3] at hm
            split at hm
            · next hwl =>
              obtain ⟨q2, hq2, hm⟩ := Option.bind_eq_some_iff.1 hm
              have hwt : ∀ (w' : World), Ok e (oksH (starN M.m.length (wtF M.m ws)) :: L) w' → x.wait.length = (ws (1 + i)).len := by
                intro w' h'
                obtain ⟨H, h2, -⟩ := star_open h' hil
                rw [wtF_eq hx] at h2
                have := h2.slc_len
                rw [ints_len] at this
                omega
              have hwl2 := hwt w6 h.drop.drop.drop
              refine ldS.mk (h.cell rfl) ?_
              refine lp.mk (fun t w1 => ∃ j : Nat, @Eq Int t.2.1 (j : Int) ∧ j ≤ x.wait.length ∧ MM.rkL (fun w => M.reckon f w (deep + 1)) (x.wait.drop j) t.1 = some q2 ∧
                Ok e (pts c [.int .i64 x.attr, .int .i64 x.ceil, .int .i64 x.owner, vS (ws (1 + i))] :: pts a (vS s :: flat mtC M.t) :: slc 4 s (flat mxC (mz M.m ws)) :: oksH (starN M.m.length (wtF M.m ws)) :: L) w1) (fun t _ => Int.toNat (Int.sub x.wait.length t.2.1)) ⟨0, rfl, Nat.zero_le _, hq2, h⟩ ?_
              rintro ⟨(q3 : Int), (jj : Int), _⟩ w7 ⟨j, (rfl : jj = (j : Int)), hj, hq, h⟩
              have hq : MM.rkL (fun w => M.reckon f w (deep + 1)) (x.wait.drop j) q3 = some q2 := hq
              refine cs.mk (fun h4 => ?_) (fun h4 => ?_)
              · have h4 : j < x.wait.length := by have := of_decide_eq_true h4; dsimp only at this; omega
                rw [List.drop_eq_getElem_cons h4] at hq
                obtain ⟨v, hv, hq⟩ := rkL_some hq
                obtain ⟨H, h2, -⟩ := star_open h.p3 hil
                rw [wtF_eq hx] at h2
                refine ix_int h2 (by dsimp only; omega) (by dsimp only; omega) fun b2 o2 z hz hc2 => ?_
                rw [Int.toNat_natCast, List.getElem?_eq_getElem h4] at hz
                cases hz
                refine ldI.mk (hc2 _ ⟨_, h2⟩) ?_
                rw [w64_in (x := deep + 1) (by omega) (by omega)]
                refine call123 (ih _ _ v _ w7 _ hv (by omega) (by omega) h.q3 fun w8 h8 => ⟨(v, ()), rfl, ?_⟩)
                refine ⟨⟨j + 1, ?_, h4, hq, h8.p3⟩, ?_⟩
                · show w64 ((j : Int) + 1) = _
                  rw [w64_in (by omega) (by omega)]; rfl
                · show Int.toNat (Int.sub _ (w64 ((j : Int) + 1))) < Int.toNat (Int.sub _ (j : Int))
                  rw [w64_in (by omega) (by omega)]
                  show Int.toNat ((x.wait.length : Int) - ((j : Int) + 1)) < Int.toNat ((x.wait.length : Int) - (j : Int))
                  omega
              · have h4 : x.wait.length ≤ j := by have := of_decide_eq_false h4; dsimp only at this; omega
                rw [List.drop_eq_nil_of_le h4] at hq
                cases hq
                exact next _ _ hm h.drop
            · cases hm
          · have h3 : ¬ x.attr = 2 := by simpa using h3
            rw [if_neg h3] at hm
            exact next _ _ hm h.drop
    · have hge : s9.len ≤ i := by have := of_decide_eq_false hge; dsimp only at this; omega
      rw [List.drop_eq_nil_of_le (by omega)] at hm
      cases hm
      exact k w1 h

end Go.Proofs.YtenonfkfoedfmaaGreatDoor.B


/- Contracts of the package mtx: all settle; a base priority. -/
namespace Go.Proofs.YtenonfkfoedfmaaGreatDoor.B
open Go
set_option linter.unusedVariables false

theorem mprs_len {M : MM} : ∀ {k n : Nat} {r : List Int}, M.prs n k = some r → r.length = k := by
  intro k
  induction k with
  | zero => intro n r h; cases h; rfl
  | succ k ih =>
    intro n r h
    obtain ⟨p, _, h⟩ := Option.bind_eq_some_iff.1 h
    obtain ⟨r', h', rfl⟩ := Option.map_eq_some_iff.1 h
    rw [List.length_cons, ih h']

theorem setPri_m {M M' : MM} {n p : Int} (h : M.setPri n p = some M') : M'.m = M.m ∧ M'.t.length = M.t.length := by
  obtain ⟨x, _, rfl⟩ := Option.map_eq_some_iff.1 h
  exact ⟨rfl, by simp⟩

theorem setPris_m {ps : List Int} : ∀ {k n : Nat} {M M' : MM}, MM.setPris ps n k M = some M' → M'.m = M.m ∧ M'.t.length = M.t.length := by
  intro k
  induction k with
  | zero => intro n M M' h; cases h; exact ⟨rfl, rfl⟩
  | succ k ih =>
    intro n M M' h
    obtain ⟨p, _, h⟩ := Option.bind_eq_some_iff.1 h
    obtain ⟨M1, h1, h⟩ := Option.bind_eq_some_iff.1 h
    have e1 := setPri_m h1
    have e2 := ih h
    exact ⟨e2.1.trans e1.1, e2.2.trans e1.2⟩

theorem settle_m {M M' : MM} (h : M.settle = some M') : M'.m = M.m ∧ M'.t.length = M.t.length := by
  obtain ⟨r, _, h⟩ := Option.bind_eq_some_iff.1 h
  obtain ⟨_, _, h⟩ := Option.bind_eq_some_iff.1 h
  exact setPris_m h

theorem MmOk.of {M M' : MM} (h : MmOk M) (e : M'.m = M.m ∧ M'.t.length = M.t.length) : MmOk M' := ⟨e.2.trans h.t, by rw [e.1]; exact h.m0, by rw [e.1]; exact h.m1⟩

theorem ints_set (xs : List Int) (i : Nat) (x : Int) : (ints xs).set i (.int .i64 x) = ints (xs.set i x) := by simp [ints, List.map_set]

set_option maxHeartbeats 1000000 in
theorem settle_mtx {e w L a M M' R} (h : Ok e (mmP a M :: L) w) (hm : M.settle = some M') (k : ∀ w', Ok e (mmP a M' :: L) w' → R [] w') : sh64 (some ⟨a, 0, none⟩) R w := by
  obtain ⟨s, ws, ho, hl, h⟩ := mmE h
  obtain ⟨r, hr, hm⟩ := Option.bind_eq_some_iff.1 hm
  obtain ⟨_, ha, hm⟩ := Option.bind_eq_some_iff.1 hm
  have hrl := mprs_len hr
  have hm0 := ho.m0
  have hm1 := ho.m1
  unfold sh64
  refine al.mk h fun b w1 h => ?_
  have e0 : ints (0 :: ([] ++ List.replicate (16 - ([] : List Int).length) 0)) = List.replicate 17 (Value.int .i64 0) := rfl
  have h : Ok e (pts b (ints (0 :: ([] ++ List.replicate (16 - ([] : List Int).length) 0))) :: pts a (vS s :: flat mtC M.t) :: slc 4 s (flat mxC (mz M.m ws)) :: oksH (starN M.m.length (wtF M.m ws)) :: L) w1 := by
    rw [e0]; exact h
  refine lp.mk (fun t w1 => ∃ (d q : List Int), @Eq Int t.1 ((d.length + 1 : Nat) : Int) ∧ d.length ≤ 16 ∧ r = d ++ q ∧ M.prs (d.length + 1) (16 - d.length) = some q ∧
    Ok e (pts b (ints (0 :: (d ++ List.replicate (16 - d.length) 0))) :: pts a (vS s :: flat mtC M.t) :: slc 4 s (flat mxC (mz M.m ws)) :: oksH (starN M.m.length (wtF M.m ws)) :: L) w1) (fun t _ => Int.toNat (Int.sub 17 t.1)) ⟨[], r, rfl, by simp, rfl, hr, h⟩ ?_
  rintro ⟨(t : Int), _⟩ w2 ⟨d, q, (rfl : t = ((d.length + 1 : Nat) : Int)), hd, hrd, hq, h⟩
  refine cs.mk (fun h1 => ?_) (fun h1 => ?_)
  · have h1 : d.length + 1 ≤ 16 := by have := of_decide_eq_true h1; dsimp only at this; omega
    obtain ⟨kk, hkk⟩ : ∃ kk, 16 - d.length = kk + 1 := ⟨15 - d.length, by omega⟩
    rw [hkk] at hq h
    obtain ⟨p, hp, hq⟩ := Option.bind_eq_some_iff.1 hq
    obtain ⟨q', hq', rfl⟩ := Option.map_eq_some_iff.1 hq
    refine call123 (reckon_mtx (L := pts b _ :: L) ho hl 18 _ 0 p w2 _ hp (by omega) (by omega) h.q3 fun w3 h => ⟨(p, ()), rfl, ?_⟩)
    have h := h.p3
    refine ⟨by dsimp only; omega, by dsimp only; omega, ?_⟩
    refine st1.mk h (by simp <;> omega) fun w4 h => ?_
    have e1 : (0 + (((d.length + 1 : Nat) : Int)).toNat * 1) = d.length + 1 := by omega
    have e2 : (ints (0 :: (d ++ List.replicate (kk + 1) 0))).set (0 + (((d.length + 1 : Nat) : Int)).toNat * 1) (.int .i64 p) = ints (0 :: ((d ++ [p]) ++ List.replicate (16 - (d ++ [p]).length) 0)) := by
      rw [e1, ints_set, List.set_cons_succ, List.set_append_right _ _ (Nat.le_refl _), Nat.sub_self, List.replicate_succ, List.set_cons_zero]
      rw [show 16 - (d ++ [p]).length = kk by rw [List.length_append, List.length_singleton]; omega]
      simp
    have h : Ok e (pts b ((ints (0 :: (d ++ List.replicate (kk + 1) 0))).set (0 + (((d.length + 1 : Nat) : Int)).toNat * 1) (.int .i64 p)) :: pts a (vS s :: flat mtC M.t) :: slc 4 s (flat mxC (mz M.m ws)) :: oksH (starN M.m.length (wtF M.m ws)) :: L) w4 := h
    rw [e2] at h
    refine ⟨⟨d ++ [p], q', ?_, by simp; omega, by rw [hrd]; simp, ?_, h⟩, ?_⟩
    · show w64 (((d.length + 1 : Nat) : Int) + 1) = _
      rw [w64_in (by omega) (by omega)]; simp
    · rw [List.length_append, List.length_singleton, show 16 - (d.length + 1) = kk by omega]
      exact hq'
    · show Int.toNat (Int.sub 17 (w64 (((d.length + 1 : Nat) : Int) + 1))) < Int.toNat (Int.sub 17 ((d.length + 1 : Nat) : Int))
      rw [w64_in (by omega) (by omega)]
      show Int.toNat (17 - ((((d.length + 1 : Nat) : Int)) + 1)) < Int.toNat (17 - ((d.length + 1 : Nat) : Int))
      omega
  · have h1 : d.length = 16 := by have := of_decide_eq_false h1; dsimp only at this; omega
    rw [h1] at hq
    cases hq
    rw [List.append_nil] at hrd
    subst hrd
    rw [h1] at h
    have h : Ok e (pts b (ints (0 :: r)) :: pts a (vS s :: flat mtC M.t) :: slc 4 s (flat mxC (mz M.m ws)) :: oksH (starN M.m.length (wtF M.m ws)) :: L) w2 := by simpa using h
    have hps : (0 :: r).length = 17 := by rw [List.length_cons, hrl]
    refine lp.mk (fun t w1 => ∃ m : Nat, @Eq Int t.1 (m : Int) ∧ 1 ≤ m ∧ m ≤ M.m.length ∧ MM.anew (0 :: r) m (M.m.length - m) M = some () ∧
      Ok e (pts b (ints (0 :: r)) :: pts a (vS s :: flat mtC M.t) :: slc 4 s (flat mxC (mz M.m ws)) :: oksH (starN M.m.length (wtF M.m ws)) :: L) w1) (fun t _ => Int.toNat (Int.sub M.m.length t.1)) ⟨1, rfl, by omega, hm0, ha, h⟩ ?_
    rintro ⟨(t : Int), _⟩ w3 ⟨m, (rfl : t = (m : Int)), hm2, hm3, ha, h⟩
    refine nn.mk (ldS.mk (h.p1.cell rfl) (cs.mk (fun h2 => ?_) (fun h2 => ?_)))
    · have h2 : m < M.m.length := by have := of_decide_eq_true h2; dsimp only at this; omega
      obtain ⟨kk, hkk⟩ : ∃ kk, M.m.length - m = kk + 1 := ⟨M.m.length - m - 1, by omega⟩
      rw [hkk] at ha
      obtain ⟨x, hx, ha⟩ := Option.bind_eq_some_iff.1 ha
      split at ha
      · next hwl =>
        obtain ⟨_, ha1, ha⟩ := Option.bind_eq_some_iff.1 ha
        obtain ⟨-, -, hx'⟩ := getO_some hx
        rw [Int.toNat_natCast] at hx'
        refine nn.mk (ldS.mk (h.p1.cell rfl) ?_)
        refine ix_mx h.p2 hx fun b2 o2 hs2 ho2 hc => ?_
        refine ldS.mk (hc 3 _ rfl _ ⟨_, h.p2⟩) ?_
        obtain ⟨H, h3, back⟩ := star_open h.p3 h2
        rw [wtF_eq hx'] at h3
        have hsl : x.wait.length = (ws m).len := by have := h3.slc_len; rw [ints_len] at this; omega
        refine call70 (Clone_int h3 (by show (ws m).len ≤ 2 ^ 31; omega) fun s' w4 hl' h3 => ⟨(s', ()), rfl, ?_⟩)
        have h4 := back (wtF M.m ws) (fun _ _ => rfl) e _ w4 (by rw [wtF_eq hx']; exact h3.p1.p2.p1)
        have h : Ok e (slc 1 s' (ints x.wait) :: pts b (ints (0 :: r)) :: pts a (vS s :: flat mtC M.t) :: slc 4 s (flat mxC (mz M.m ws)) :: oksH (starN M.m.length (wtF M.m ws)) :: L) w4 := (Ok.emb (h4) (by repeat' (first | with_reducible exact Emb.same _ | exact Emb.nil _ | refine Emb.cons (by with_reducible first | exact sl0 | exact .there sl0 | exact .there sl1 | exact .there sl2 | exact .there sl3 | exact .there sl4 | exact .there sl5 | exact .there sl6 | exact .there sl7 | exact .there sl8 | exact .there sl9 | exact .there sl10 | exact .there sl11 | exact .there sl12) ?_ | refine Emb.skip ?_)))
        have hl' : s'.len = x.wait.length := by rw [hsl]; exact hl'
        refine lp.mk (fun t w1 => ∃ j : Nat, @Eq Int t.1 (j : Int) ∧ j ≤ x.wait.length ∧ MM.anew1 (0 :: r) (x.wait.drop j) M = some () ∧
          Ok e (slc 1 s' (ints x.wait) :: pts b (ints (0 :: r)) :: pts a (vS s :: flat mtC M.t) :: slc 4 s (flat mxC (mz M.m ws)) :: oksH (starN M.m.length (wtF M.m ws)) :: L) w1) (fun t _ => Int.toNat (Int.sub x.wait.length t.1)) ⟨0, rfl, Nat.zero_le _, ha1, h⟩ ?_
        rintro ⟨(t : Int), _⟩ w5 ⟨j, (rfl : t = (j : Int)), hj, hj1, h⟩
        refine cs.mk (fun h5 => ?_) (fun h5 => ?_)
        · have h5 : j < x.wait.length := by have := of_decide_eq_true h5; dsimp only at this; omega
          rw [List.drop_eq_getElem_cons h5] at hj1
          obtain ⟨p, hp, hj1⟩ := Option.bind_eq_some_iff.1 hj1
          obtain ⟨y, hy, hj1⟩ := Option.bind_eq_some_iff.1 hj1
          split at hj1
          · next hpy =>
            refine ix_int h (by dsimp only; omega) (by dsimp only; omega) fun b3 o3 z hz hc3 => ?_
            rw [Int.toNat_natCast, List.getElem?_eq_getElem h5] at hz
            cases hz
            refine ldI.mk (hc3 _ ⟨_, h⟩) (dr.mk h fun w6 h => ?_)
            obtain ⟨p0, p1, p2⟩ := getO_some hp
            refine ⟨p0, by omega, ldI.mk (h.p1.cell (by rw [Nat.zero_add, Nat.mul_one]; exact ints_get p2)) ?_⟩
            refine nn.mk (ixA_t ho.t hy (ldI.mk (tcell h.p2 hy 1 _ rfl) ?_))
            refine cs.yes (by simpa using hpy) ?_
            refine ⟨⟨j + 1, ?_, h5, hj1, h⟩, ?_⟩
            · show w64 ((j : Int) + 1) = _
              rw [w64_in (by omega) (by omega)]; rfl
            · show Int.toNat (Int.sub _ (w64 ((j : Int) + 1))) < Int.toNat (Int.sub _ (j : Int))
              rw [w64_in (by omega) (by omega)]
              show Int.toNat ((x.wait.length : Int) - ((j : Int) + 1)) < Int.toNat ((x.wait.length : Int) - (j : Int))
              omega
          · cases hj1
        · refine ⟨⟨m + 1, ?_, by omega, by omega, by rw [show M.m.length - (m + 1) = kk by omega]; exact ha, h.drop⟩, ?_⟩
          · show w64 ((m : Int) + 1) = _
            rw [w64_in (by omega) (by omega)]; rfl
          · show Int.toNat (Int.sub _ (w64 ((m : Int) + 1))) < Int.toNat (Int.sub _ (m : Int))
            rw [w64_in (by omega) (by omega)]
            show Int.toNat ((M.m.length : Int) - ((m : Int) + 1)) < Int.toNat ((M.m.length : Int) - (m : Int))
            omega
      · cases ha
    · refine lp.mk (fun t w1 => ∃ (n : Nat) (N : MM), @Eq Int t.1 (n : Int) ∧ 1 ≤ n ∧ n ≤ 17 ∧ N.m = M.m ∧ N.t.length = 17 ∧ MM.setPris (0 :: r) n (17 - n) N = some M' ∧
        Ok e (pts b (ints (0 :: r)) :: pts a (vS s :: flat mtC N.t) :: slc 4 s (flat mxC (mz M.m ws)) :: oksH (starN M.m.length (wtF M.m ws)) :: L) w1) (fun t _ => Int.toNat (Int.sub 17 t.1)) ⟨1, M, rfl, by omega, by omega, rfl, ho.t, hm, h⟩ ?_
      rintro ⟨(t : Int), _⟩ w4 ⟨n, N, (rfl : t = (n : Int)), hn0, hn1, hNm, hNt, hN, h⟩
      refine cs.mk (fun h3 => ?_) (fun h3 => ?_)
      · have h3 : n ≤ 16 := by have := of_decide_eq_true h3; dsimp only at this; omega
        obtain ⟨kk, hkk⟩ : ∃ kk, 17 - n = kk + 1 := ⟨16 - n, by omega⟩
        rw [hkk] at hN
        obtain ⟨p, hp, hN⟩ := Option.bind_eq_some_iff.1 hN
        obtain ⟨N', hN', hN⟩ := Option.bind_eq_some_iff.1 hN
        have e1 := setPri_m hN'
        obtain ⟨x, hx, rfl⟩ := Option.map_eq_some_iff.1 hN'
        obtain ⟨p0, p1, p2⟩ := getO_some hp
        refine dr.mk h fun w5 h => ⟨by dsimp only; omega, by dsimp only; omega, ldI.mk (h.cell (by rw [Nat.zero_add, Nat.mul_one]; exact ints_get p2)) ?_⟩
        refine nn.mk (ixA_t hNt hx ?_)
        refine st_t (y := { x with pri := p }) h.p1 hx (j := 1) (by decide) rfl rfl fun w6 h => ?_
        refine ⟨⟨n + 1, { N with t := N.t.set (n : Int).toNat { x with pri := p } }, ?_, by omega, by omega, hNm, by simpa using hNt, by rw [show 17 - (n + 1) = kk by omega]; exact hN, h.p1⟩, ?_⟩
        · show w64 ((n : Int) + 1) = _
          rw [w64_in (by omega) (by omega)]; rfl
        · show Int.toNat (Int.sub _ (w64 ((n : Int) + 1))) < Int.toNat (Int.sub _ (n : Int))
          rw [w64_in (by omega) (by omega)]
          show Int.toNat (17 - ((n : Int) + 1)) < Int.toNat (17 - (n : Int))
          omega
      · have h3 : n = 17 := by have := of_decide_eq_false h3; dsimp only at this; omega
        subst h3
        cases hN
        refine k w4 (mmI (s := s) (ws := ws) (ho.of ⟨hNm, hNt.trans ho.t.symm⟩) ?_)
        rw [hNm]
        exact h.drop

theorem SetBase_mtx {e w L a M n p c M' R} (h : Ok e (mmP a M :: L) w) (hm : M.setBase n p = some (c, M')) (k : ∀ w', Ok e (mmP a M' :: L) w' → R [.int .i64 c] w') : sh31 (some ⟨a, 0, none⟩) n p R w := by
  unfold sh31
  unfold MM.setBase at hm
  refine call62 (is_mtx ⟨(decide (1 ≤ n ∧ n ≤ 16), ()), rfl, ?_⟩)
  refine cs.mk (fun h1 => ?_) (fun h1 => ?_)
  · rw [if_pos (ndT h1)] at hm
    cases hm
    exact k w h
  have h1 : 1 ≤ n ∧ n ≤ 16 := by
    by_cases hc : 1 ≤ n ∧ n ≤ 16
    · exact hc
    · dsimp only at h1; rw [ndM hc] at h1; cases h1
  rw [if_neg (fun hc => hc h1)] at hm
  refine call63 (may_mtx ⟨(decide (1 ≤ p ∧ p ≤ 16), ()), rfl, ?_⟩)
  refine cs.mk (fun h2 => ?_) (fun h2 => ?_)
  · rw [if_pos (ndT h2)] at hm
    cases hm
    exact k w h
  have h2 : 1 ≤ p ∧ p ≤ 16 := by
    by_cases hc : 1 ≤ p ∧ p ≤ 16
    · exact hc
    · dsimp only at h2; rw [ndM hc] at h2; cases h2
  rw [if_neg (fun hc => hc h2)] at hm
  obtain ⟨t, ht, hm⟩ := Option.bind_eq_some_iff.1 hm
  obtain ⟨s, ws, ho, hl, h⟩ := mmE h
  have hm0 := ho.m0
  have hm1 := ho.m1
  refine lp.mk (fun x w1 => ∃ i : Nat, @Eq Int x.1 (i : Int) ∧ 1 ≤ i ∧ i ≤ M.m.length ∧ (if M.against n p t.waits (M.m.drop i) i = true then some ((-28 : Int), M) else (M.setB n p).bind fun M => (M.settle).map fun M => ((0 : Int), M)) = some (c, M') ∧
    Ok e (pts a (vS s :: flat mtC M.t) :: slc 4 s (flat mxC (mz M.m ws)) :: oksH (starN M.m.length (wtF M.m ws)) :: L) w1) (fun x _ => Int.toNat (Int.sub M.m.length x.1)) ⟨1, rfl, by omega, hm0, hm, h⟩ ?_
  rintro ⟨(x : Int), _⟩ w1 ⟨i, (rfl : x = (i : Int)), hi0, hi1, hm, h⟩
  refine nn.mk (ldS.mk (h.cell rfl) (cs.mk (fun h3 => ?_) (fun h3 => ?_)))
  · have h3 : i < M.m.length := by have := of_decide_eq_true h3; dsimp only at this; omega
    obtain ⟨x, hx⟩ : ∃ x, M.m[i]? = some x := ⟨_, List.getElem?_eq_getElem h3⟩
    have hxe : M.m[i] = x := by rw [List.getElem?_eq_getElem h3] at hx; exact Option.some.inj hx
    rw [List.drop_eq_getElem_cons h3, hxe, MM.against] at hm
    refine nn.mk (ldS.mk (h.cell rfl) ?_)
    refine ix_mx h.p1 (getO_of (by omega) (by rw [Int.toNat_natCast]; exact hx)) fun b o hsb hob hc => ?_
    refine ldI.mk (hc 0 _ rfl _ ⟨_, h.p1⟩) (ldI.mk (hc 1 _ rfl _ ⟨_, h.p1⟩) (ldI.mk (hc 2 _ rfl _ ⟨_, h.p1⟩) (ldS.mk (hc 3 _ rfl _ ⟨_, h.p1⟩) ?_)))
    refine al.mk h fun c2 w2 h => st1.mk h (by simp) fun w3 h => st1.mk h (by simp) fun w4 h => st1.mk h (by simp) fun w5 h => st1.mk h (by simp) fun w6 h => ?_
    have h : Ok e (pts c2 [.int .i64 x.attr, .int .i64 x.ceil, .int .i64 x.owner, vS (ws (i : Int).toNat)] :: pts a (vS s :: flat mtC M.t) :: slc 4 s (flat mxC (mz M.m ws)) :: oksH (starN M.m.length (wtF M.m ws)) :: L) w6 := h
    refine ldI.mk (h.cell rfl) ?_
    refine jn.bool (decide (x.attr = 3 ∧ x.ceil > p)) (fun J hJ => cs.mk (fun h4 => ?_) (fun h4 => ?_)) ?_
    · have h4 : x.attr = 3 := by simpa using h4
      refine ldI.mk (h.cell rfl) ?_
      rw [show decide (x.ceil > p) = decide (x.attr = 3 ∧ x.ceil > p) from decide_eq_decide.2 ⟨fun h => ⟨h4, h⟩, fun h => h.2⟩]
      exact hJ
    · have h4 : ¬ x.attr = 3 := by simpa using h4
      rw [decide_eq_false (fun hc => h4 hc.1)] at hJ
      exact hJ
    refine jn.bool (decide (x.attr = 3 ∧ x.ceil > p ∧ (x.owner = n ∨ t.waits = (i : Int)))) (fun J hJ => cs.mk (fun h4 => ?_) (fun h4 => ?_)) ?_
    · have h4 := of_decide_eq_true h4
      refine ldI.mk (h.cell rfl) ?_
      refine jn.bool (decide (x.owner = n ∨ t.waits = (i : Int))) (fun J2 hJ2 => cs.mk (fun h5 => ?_) (fun h5 => ?_)) ?_
      · have h5 : x.owner = n := by simpa using h5
        rw [decide_eq_true (.inl h5)] at hJ2
        exact hJ2
      · have h5 : ¬ x.owner = n := by simpa using h5
        refine nn.mk (ixA_t ho.t ht (ldI.mk (tcell h.p1 ht 2 _ rfl) ?_))
        rw [show ((t.waits : Int) == (i : Int)) = decide (x.owner = n ∨ t.waits = (i : Int)) by
          rw [Bool.eq_iff_iff]; simp [h5]]
        exact hJ2
      · rw [show decide (x.owner = n ∨ t.waits = (i : Int)) = decide (x.attr = 3 ∧ x.ceil > p ∧ (x.owner = n ∨ t.waits = (i : Int))) from decide_eq_decide.2 ⟨fun h => ⟨h4.1, h4.2, h⟩, fun h => h.2.2⟩]
        exact hJ
    · have h4 := of_decide_eq_false h4
      rw [decide_eq_false (fun hc => h4 ⟨hc.1, hc.2.1⟩)] at hJ
      exact hJ
    refine cs.mk (fun h4 => ?_) (fun h4 => ?_)
    · have h4 := of_decide_eq_true h4
      rw [if_pos (by rw [if_pos h4])] at hm
      cases hm
      exact k w6 (mmI ho h.drop)
    · have h4 := of_decide_eq_false h4
      rw [if_neg h4] at hm
      refine ⟨⟨i + 1, ?_, by omega, by omega, hm, h.drop⟩, ?_⟩
      · show w64 ((i : Int) + 1) = _
        rw [w64_in (by omega) (by omega)]; rfl
      · show Int.toNat (Int.sub _ (w64 ((i : Int) + 1))) < Int.toNat (Int.sub _ (i : Int))
        rw [w64_in (by omega) (by omega)]
        show Int.toNat ((M.m.length : Int) - ((i : Int) + 1)) < Int.toNat ((M.m.length : Int) - (i : Int))
        omega
  · have h3 : M.m.length ≤ i := by have := of_decide_eq_false h3; dsimp only at this; omega
    rw [List.drop_eq_nil_of_le h3] at hm
    rw [if_neg (by simp [MM.against])] at hm
    obtain ⟨M1, hM1, hm⟩ := Option.bind_eq_some_iff.1 hm
    obtain ⟨M2, hM2, hm⟩ := Option.map_eq_some_iff.1 hm
    cases hm
    obtain ⟨y, hy, rfl⟩ := Option.map_eq_some_iff.1 hM1
    rw [ht] at hy
    cases hy
    refine nn.mk (ixA_t ho.t ht ?_)
    refine st_t (y := { t with base := p }) h ht (j := 0) (by decide) rfl rfl fun w2 h => ?_
    refine call64 (settle_mtx (M := { M with t := M.t.set n.toNat { t with base := p } }) (mmI (ho.of ⟨rfl, by simp⟩) h) hM2 fun w3 h => ⟨(), rfl, k w3 h⟩)

end Go.Proofs.YtenonfkfoedfmaaGreatDoor.B


/- Contracts of the package mtx: made; locked. -/
namespace Go.Proofs.YtenonfkfoedfmaaGreatDoor.B
open Go
set_option linter.unusedVariables false

theorem slT_mutex : SlT Pg 151 4 := .of (by kernel_rfl)

def zTok (P : Program) (t : TypeId) : Option (Array Value) :=
  match P.underlying t with
  | some (.slice el) => (P.info? el).bind fun i => i.zero.map Value.cells
  | _ => none

theorem z_mutex : zTok Pg 151 = some #[.int .i64 0, .int .i64 0, .int .i64 0, .slice none 0 0] := by kernel_rfl

theorem made_first {z : Array Value} {c : Nat} (hz : 0 < z.size) (hc : 0 < c) : ∃ post, (madeCells z (c * z.size)).toList = z.toList ++ post ∧ z.size + post.length = c * z.size := by
  have hlen : (madeCells z (c * z.size)).toList.length = c * z.size := by simp [madeCells]
  have hle : z.size ≤ c * z.size := Nat.le_mul_of_pos_left _ hc
  refine ⟨(madeCells z (c * z.size)).toList.drop z.size, ?_, ?_⟩
  · rw [← List.take_append_drop z.size (madeCells z (c * z.size)).toList]
    congr 1
    · apply List.ext_getElem
      · rw [List.length_take, hlen]; simp; omega
      · intro j h1 h2
        have hj : j < z.size := by simpa using h2
        simp [madeCells, Nat.mod_eq_of_lt hj, hj]
    · rw [List.take_append_drop]
  · rw [List.length_drop, hlen]; omega

theorem ef.make1 {e w L} {sz : Nat} {t : TypeId} {c : Int} {z : List Value} {K : TK [kS] → World → Prop} (T : SlT Pg t sz) (hsz : 0 < sz) (hz : zTok Pg t = some z.toArray) (h1 : ∀ v ∈ z, v.oneCell' = true) (h : Ok e L w) (hc : 1 ≤ c ∧ c ≤ 1000)
    (k : ∀ s w', s.len = 1 → Ok e (slc sz s z :: L) w' → K (s, ()) w') : ef Pg (Instr.makeSlice t (.int .i64 1) (.int .i64 c)) [kS] w K := by
  obtain ⟨el, i, z0, ht, hi, hz0, hs, hby, hzs, -⟩ := T.ex
  have hzz : z0.cells = z.toArray := by
    unfold zTok at hz
    rw [ht] at hz
    simp only [hi, Option.bind_some, hz0, Option.map_some] at hz
    exact Option.some.inj hz
  have hzl : z.length = sz := by rw [← hzs, hzz]; simp
  have hr := run_make (P := Pg) w t el i z0 ht hi hz0 .i64 .i64 1 c (by omega) (by omega) (by
    have : (i.bytes : Int) * c ≤ 1024 * 1000 := Int.mul_le_mul (by omega) (by omega) (by omega) (by omega)
    omega) (by omega)
  refine ⟨(⟨some ⟨w.heap.size, 0, Option.none⟩, 1, c.toNat⟩, ()), _, hr, k _ _ rfl ?_⟩
  obtain ⟨post, hp1, hp2⟩ := made_first (z := z0.cells) (c := c.toNat) (by omega) (by omega)
  have e1 : madeCells z0.cells (c.toNat * i.size) = (z ++ post).toArray := by
    apply Array.ext'
    rw [hs, ← hzs, hp1, hzz]
  rw [e1]
  refine (h.alloc el (z ++ post)).slcI rfl (by simp [hzl]) h1 (by simp only; omega) ?_
  simp only
  rw [hzl, ← hzs, hp2]
  exact Nat.le_refl _

abbrev kdC (k : Int × Int) : List Value := [.int .i64 k.1, .int .i64 k.2]

theorem kdC_len (k : Int × Int) : (kdC k).length = 2 := rfl

theorem right_mtx {e w L R} {x : Int × Int} (h : Ok e L w) (k : ∀ w', Ok e L w' → R [.bool (MM.right x)] w') : sh61 (x.1, x.2, ()) R w := by
  unfold sh61
  refine al.mk h fun b w1 h => ldI.mk (h.cell rfl) ?_
  refine jn.bool (decide (x.1 = 0 ∨ x.1 = 1 ∨ x.1 = 2)) (fun J hJ => cs.mk (fun h1 => ?_) (fun h1 => ?_)) ?_
  · have h1 : x.1 = 0 := by simpa using h1
    rw [decide_eq_true (.inl h1)] at hJ
    exact hJ
  · have h1 : ¬ x.1 = 0 := by simpa using h1
    refine jn.bool (decide (x.1 = 1 ∨ x.1 = 2)) (fun J2 hJ2 => cs.mk (fun h2 => ?_) (fun h2 => ?_)) ?_
    · have h2 : x.1 = 1 := by simpa using h2
      rw [decide_eq_true (.inl h2)] at hJ2
      exact hJ2
    · have h2 : ¬ x.1 = 1 := by simpa using h2
      rw [show ((x.1 : Int) == (2 : Int)) = decide (x.1 = 1 ∨ x.1 = 2) by rw [Bool.eq_iff_iff]; simp [h2]]
      exact hJ2
    · rw [show decide (x.1 = 1 ∨ x.1 = 2) = decide (x.1 = 0 ∨ x.1 = 1 ∨ x.1 = 2) from decide_eq_decide.2 (by omega)]
      exact hJ
  · refine cs.mk (fun h1 => ?_) (fun h1 => ?_)
    · have h1 := of_decide_eq_true h1
      refine ldI.mk (h.cell rfl) ?_
      have := k w1 h.drop
      rw [show MM.right x = ((x.2 : Int) == (0 : Int)) by
        unfold MM.right
        rw [Bool.eq_iff_iff]
        simp only [decide_eq_true_eq, beq_iff_eq]
        omega] at this
      exact this
    · have h1 := of_decide_eq_false h1
      refine cs.mk (fun h2 => ?_) (fun h2 => ?_)
      · have h2 : x.1 = 3 := by simpa using h2
        refine ldI.mk (h.cell rfl) ?_
        refine call63 (may_mtx ⟨(decide (1 ≤ x.2 ∧ x.2 ≤ 16), ()), rfl, ?_⟩)
        have := k w1 h.drop
        rw [show MM.right x = decide (1 ≤ x.2 ∧ x.2 ≤ 16) from decide_eq_decide.2 (by omega)] at this
        exact this
      · have h2 : ¬ x.1 = 3 := by simpa using h2
        have := k w1 h.drop
        rw [show MM.right x = false from decide_eq_false (by omega)] at this
        exact this

theorem starN_nil {e w L} (n : Nat) (h : Ok e L w) : Ok e (oksH (starN n fun _ => slc 1 ⟨none, 0, 0⟩ (ints [])) :: L) w := by
  induction n with
  | zero => exact star_zero h
  | succ n ih => exact star_snoc (F := fun _ => slc 1 ⟨none, 0, 0⟩ (ints [])) (ih.slcNil 1)

/-- mutexes are made; A: where their kinds are read from -/
theorem New_mtx {e w L R} {x : Sl} {l : List (Int × Int)} (h : Ok e (slc 2 x (flat kdC l) :: L) w) (hl : l.length ≤ 8) (hr : ∀ y ∈ l, MM.right y = true)
    (k : ∀ a w', Ok e (mmP a (MM.new l) :: slc 2 x (flat kdC l) :: L) w' → R [.pointer (some ⟨a, 0, none⟩), .int .i64 0] w') : sh30 x R w := by
  unfold sh30
  have hxl : l.length = x.len := slc_flat_len kdC_len (by decide) h
  refine cs.no (by simp; omega) ?_
  rw [w64_in (by omega) (by omega)]
  refine ef.make1 (z := flat mxC [(mx0, ⟨none, 0, 0⟩)]) slT_mutex (by decide) z_mutex (flat_one mxC_one) h (by omega) fun s0 w1 hs0 h => ?_
  refine al.mk h fun a w2 h => ?_
  have e0 : ∀ n, mz (List.replicate n mx0) (fun _ => ⟨none, 0, 0⟩) = List.replicate n (mx0, ⟨none, 0, 0⟩) := fun n => by
    apply List.ext_getElem?
    intro j
    by_cases hj : j < n
    · rw [mz_get (x := mx0) (by simp [hj])]; simp [hj]
    · rw [List.getElem?_eq_none (by rw [mz_len]; simp; omega), List.getElem?_eq_none (by simp; omega)]
  let mk (n : Nat) : List Mx := mx0 :: (l.take n).map fun k => ⟨k.1, k.2, 0, []⟩
  have hmz : ∀ n, mz (mk n) (fun _ => (⟨none, 0, 0⟩ : Sl)) = (mk n).map fun y => (y, (⟨none, 0, 0⟩ : Sl)) := fun n => by
    apply List.ext_getElem?
    intro j
    by_cases hj : j < (mk n).length
    · rw [mz_get (x := (mk n)[j]) (List.getElem?_eq_getElem hj), List.getElem?_map, List.getElem?_eq_getElem hj]; rfl
    · rw [List.getElem?_eq_none (by rw [mz_len]; omega), List.getElem?_eq_none (by simp; omega)]
  have h : Ok e (pts a (vS s0 :: List.replicate 51 (.int .i64 0)) :: slc 4 s0 (flat mxC ((mk 0).map fun y => (y, (⟨none, 0, 0⟩ : Sl)))) :: slc 2 x (flat kdC l) :: L) w2 := h
  refine lp.mk (fun t w1 => ∃ (n : Nat) (s : Sl), @Eq Int t.1 (n : Int) ∧ n ≤ l.length ∧ s.len = n + 1 ∧ Ok e (pts a (vS s :: List.replicate 51 (.int .i64 0)) :: slc 4 s (flat mxC ((mk n).map fun y => (y, (⟨none, 0, 0⟩ : Sl)))) :: slc 2 x (flat kdC l) :: L) w1)
    (fun t _ => Int.toNat (Int.sub l.length t.1)) ⟨0, s0, rfl, by omega, hs0, h⟩ ?_
  rintro ⟨(t : Int), _⟩ w3 ⟨n, s, (rfl : t = (n : Int)), hn, hs, h⟩
  refine cs.mk (fun h1 => ?_) (fun h1 => ?_)
  · have h1 : n < l.length := by have := of_decide_eq_true h1; dsimp only at this; omega
    refine ix_flat kdC_len (by decide) h.p2 (by dsimp only; omega) (by dsimp only; omega) fun b o y hy _ _ hc => ?_
    rw [Int.toNat_natCast] at hy
    have hym := List.mem_of_getElem? hy
    refine ldI.mk (hc 0 _ rfl _ ⟨_, h.p2⟩) (ldI.mk (hc 1 _ rfl _ ⟨_, h.p2⟩) ?_)
    refine al.mk h fun c w4 h => st1.mk h (by simp) fun w5 h => st1.mk h (by simp) fun w6 h => ldI.mk (h.cell rfl) (ldI.mk (h.cell rfl) ?_)
    refine call61 (a0 := (y.1, y.2, ())) (right_mtx (x := y) h fun w7 h => ⟨(MM.right y, ()), rfl, ?_⟩)
    refine cs.no (by dsimp only; rw [hr y hym]; rfl) ?_
    refine dr.mk h fun w8 h => nn.mk (ldS.mk (h.p1.cell rfl) (ldI.mk (h.cell rfl) (ldI.mk (h.cell rfl) ?_)))
    refine al.mk h fun d w9 h => ⟨h.p2.cell rfl, ?_⟩
    have h : Ok e (pts d [.int .i64 y.1, .int .i64 y.2, .int .i64 0, .slice none 0 0] :: slc 4 s (flat mxC ((mk n).map fun y => (y, (⟨none, 0, 0⟩ : Sl)))) :: pts a (vS s :: List.replicate 51 (.int .i64 0)) :: slc 2 x (flat kdC l) :: L) w9 := (h.emb (by repeat' (first | with_reducible exact Emb.same _ | exact Emb.nil _ | refine Emb.cons (by with_reducible first | exact sl0 | exact .there sl0 | exact .there sl1 | exact .there sl2 | exact .there sl3 | exact .there sl4 | exact .there sl5 | exact .there sl6 | exact .there sl7 | exact .there sl8 | exact .there sl9 | exact .there sl10 | exact .there sl11 | exact .there sl12) ?_ | refine Emb.skip ?_)))
    have h : Ok e (pts d (flat mxC [(⟨y.1, y.2, 0, []⟩, ⟨none, 0, 0⟩)]) :: slc 4 s (flat mxC ((mk n).map fun y => (y, (⟨none, 0, 0⟩ : Sl)))) :: pts a (vS s :: List.replicate 51 (.int .i64 0)) :: slc 2 x (flat kdC l) :: L) w9 := h
    refine ef.append1 (n := 1) slT_mutex (by decide) h rfl (flat_one mxC_one) (by omega) fun s' w10 hl' h => ?_
    rw [← flat_append] at h
    refine nn.mk (st1.mk h.p1 (by simp) fun w11 h => ?_)
    refine ⟨⟨n + 1, s', ?_, h1, by omega, ?_⟩, ?_⟩
    · show w64 ((n : Int) + 1) = _
      rw [w64_in (by omega) (by omega)]; rfl
    · have e1 : ((mk n).map fun y => (y, (⟨none, 0, 0⟩ : Sl))) ++ [(⟨y.1, y.2, 0, []⟩, (⟨none, 0, 0⟩ : Sl))] = (mk (n + 1)).map fun y => (y, (⟨none, 0, 0⟩ : Sl)) := by
        show _ = (mx0 :: (l.take (n + 1)).map fun k => (⟨k.1, k.2, 0, []⟩ : Mx)).map _
        rw [List.take_add_one, hy]
        simp [mk]
      rw [e1] at h
      exact h
    · show Int.toNat (Int.sub _ (w64 ((n : Int) + 1))) < Int.toNat (Int.sub _ (n : Int))
      rw [w64_in (by omega) (by omega)]
      show Int.toNat ((l.length : Int) - ((n : Int) + 1)) < Int.toNat ((l.length : Int) - (n : Int))
      omega
  · have h1 : n = l.length := by have := of_decide_eq_false h1; dsimp only at this; omega
    subst h1
    have emk : mk l.length = (MM.new l).m := by
      show mx0 :: (l.take l.length).map _ = _
      rw [List.take_length]; rfl
    rw [← hmz, emk] at h
    have h51 : List.replicate 51 (Value.int .i64 0) = flat mtC (List.replicate 17 ⟨0, 0, 0⟩) := rfl
    rw [h51] at h
    refine lp.mk (fun t w1 => ∃ n : Nat, @Eq Int t.1 (n : Int) ∧ n ≤ 17 ∧ Ok e (pts a (vS s :: flat mtC (List.replicate n MM.mt0 ++ List.replicate (17 - n) ⟨0, 0, 0⟩)) :: slc 4 s (flat mxC (mz (MM.new l).m fun _ => ⟨none, 0, 0⟩)) :: slc 2 x (flat kdC l) :: L) w1)
      (fun t _ => Int.toNat (Int.sub 17 t.1)) ⟨0, rfl, by omega, h⟩ ?_
    rintro ⟨(t : Int), _⟩ w4 ⟨n, (rfl : t = (n : Int)), hn, h⟩
    refine cs.mk (fun h1 => ?_) (fun h1 => ?_)
    · have h1 : n < 17 := by have := of_decide_eq_true h1; dsimp only at this; omega
      obtain ⟨kk, hkk⟩ : ∃ kk, 17 - n = kk + 1 := ⟨16 - n, by omega⟩
      rw [hkk] at h
      have hget : ∀ (z : Mt), getO (List.replicate n MM.mt0 ++ z :: List.replicate kk ⟨0, 0, 0⟩) (n : Int) = some z := fun z => by
        rw [getO_nat, List.getElem?_append_right (by simp)]; simp
      have hset : ∀ (z z' : Mt), (List.replicate n MM.mt0 ++ z :: List.replicate kk ⟨0, 0, 0⟩).set (n : Int).toNat z' = List.replicate n MM.mt0 ++ z' :: List.replicate kk ⟨0, 0, 0⟩ := fun z z' => by
        rw [Int.toNat_natCast, List.set_append_right _ _ (by simp)]; simp
      rw [List.replicate_succ] at h
      refine nn.mk ⟨by dsimp only; omega, by dsimp only; omega, ?_⟩
      refine st_t (y := ⟨16, 0, 0⟩) h (hget _) (j := 0) (by decide) rfl rfl fun w5 h => ?_
      rw [hset] at h
      refine st_t (y := ⟨16, 16, 0⟩) h (hget _) (j := 1) (by decide) rfl rfl fun w6 h => ?_
      rw [hset] at h
      refine st_t (y := ⟨16, 16, 0⟩) h (hget _) (j := 2) (by decide) rfl rfl fun w7 h => ?_
      rw [hset] at h
      refine ⟨⟨n + 1, ?_, h1, ?_⟩, ?_⟩
      · show w64 ((n : Int) + 1) = _
        rw [w64_in (by omega) (by omega)]; rfl
      · rw [show 17 - (n + 1) = kk by omega, List.replicate_succ', List.append_assoc]
        exact h
      · show Int.toNat (Int.sub _ (w64 ((n : Int) + 1))) < Int.toNat (Int.sub _ (n : Int))
        rw [w64_in (by omega) (by omega)]
        show Int.toNat (17 - ((n : Int) + 1)) < Int.toNat (17 - (n : Int))
        omega
    · have h1 : n = 17 := by have := of_decide_eq_false h1; dsimp only at this; omega
      subst h1
      have hnl : (MM.new l).m.length = l.length + 1 := by simp [MM.new]
      have h2 : Ok e (pts a (vS s :: flat mtC (MM.new l).t) :: slc 4 s (flat mxC (mz (MM.new l).m fun _ => ⟨none, 0, 0⟩)) :: slc 2 x (flat kdC l) :: L) w4 := by simpa [MM.new] using h
      refine k a w4 (mmI (s := s) (ws := fun _ => ⟨none, 0, 0⟩) ⟨rfl, by omega, by omega⟩ ?_)
      have e3 : starN (MM.new l).m.length (wtF (MM.new l).m fun _ => ⟨none, 0, 0⟩) = starN (MM.new l).m.length fun _ => slc 1 ⟨none, 0, 0⟩ (ints []) := star_congr fun i hi => by
        obtain ⟨y, hy⟩ : ∃ y, (MM.new l).m[i]? = some y := ⟨_, List.getElem?_eq_getElem hi⟩
        rw [wtF_eq hy]
        have hym := List.mem_of_getElem? hy
        rcases List.mem_cons.1 hym with rfl | hym
        · rfl
        · obtain ⟨z, _, rfl⟩ := List.mem_map.1 hym
          rfl
      rw [e3]
      exact (starN_nil _ h2).q2

end Go.Proofs.YtenonfkfoedfmaaGreatDoor.B

