/- Contracts of the laws' own pool of any sizes: Get, New. -/
import Derived.Test.YtnghegppcogdbaaRef19f
namespace Go.Proofs.Ytnghegppcogdbaa.B
open Go
set_option linter.unusedVariables false

set_option maxHeartbeats 1000000 in
theorem Get_ref19 {e w L b byPri a z q task pri n R} (h : Ok e (rplP b byPri a z q :: L) w) (ho : LPo a z q)
    (k : ∀ w', Ok e (rplP b byPri a z (q.get a z byPri task pri n).2 :: L) w' → R [.int .i64 (q.get a z byPri task pri n).1.1, .bool (q.get a z byPri task pri n).1.2.1, .int .i64 (q.get a z byPri task pri n).1.2.2] w') : sh16 (some ⟨b, 0, none⟩) task pri n R w := by
  unfold sh16
  unfold LP.get at k
  have l1 := okL_len ho.line
  refine call41 (may_ref19 h ho ⟨(decide (1 ≤ n ∧ n ≤ z - 8), ()), rfl, ?_⟩)
  dsimp only
  refine cs.mk (fun h1 => ?_) (fun h1 => ?_)
  · have h1 : ¬ (1 ≤ n ∧ n ≤ z - 8) := by rw [Bool.not_eq_true'] at h1; exact of_decide_eq_false h1
    rw [if_neg h1] at k
    exact k w h
  have h1 : 1 ≤ n ∧ n ≤ z - 8 := by rw [Bool.not_eq_false'] at h1; exact of_decide_eq_true h1
  rw [if_pos h1] at k
  have h0 := h
  obtain ⟨p, s, W, hf, hs, h⟩ := rplE h
  obtain ⟨sq, hsq, h⟩ := refE (Ok.emb (h) (.cons (A := refP p _ _) (by with_reducible first | exact sl0 | exact .there sl0 | exact .there sl1 | exact .there sl2 | exact .there sl3 | exact .there sl4 | exact .there sl5 | exact .there sl6 | exact .there sl7 | exact .there sl8 | exact .there sl9 | exact .there sl10 | exact .there sl11 | exact .there sl12) (.same _)))
  refine nn.mk (ldP.mk (by refine Ok.cellS h (by with_reducible first | exact sl0 | exact .there sl0 | exact .there sl1 | exact .there sl2 | exact .there sl3 | exact .there sl4 | exact .there sl5 | exact .there sl6 | exact .there sl7 | exact .there sl8 | exact .there sl9 | exact .there sl10 | exact .there sl11 | exact .there sl12) ?_; rfl) (nn.mk (ldS.mk (by refine Ok.cellS h (by with_reducible first | exact sl0 | exact .there sl0 | exact .there sl1 | exact .there sl2 | exact .there sl3 | exact .there sl4 | exact .there sl5 | exact .there sl6 | exact .there sl7 | exact .there sl8 | exact .there sl9 | exact .there sl10 | exact .there sl11 | exact .there sl12) ?_; rfl) ?_)))
  clear h hf hs
  have h := h0
  refine jn.mk fun J hJ => ?_
  have tail : (¬ (q.S = [] ∧ (q.find a z n).1.2 = true)) → ∀ w', Ok e (rplP b byPri a z q :: L) w' → J () w' := by
    intro hno w1 h
    rw [if_neg hno] at k
    refine hJ _ _ ?_
    obtain ⟨p, s, W, hf, hs, h⟩ := rplE h
    have hW := hf.1
    refine nn.mk (ldP.mk (by refine Ok.cellS h (by with_reducible first | exact sl0 | exact .there sl0 | exact .there sl1 | exact .there sl2 | exact .there sl3 | exact .there sl4 | exact .there sl5 | exact .there sl6 | exact .there sl7 | exact .there sl8 | exact .there sl9 | exact .there sl10 | exact .there sl11 | exact .there sl12) ?_; rfl) ?_)
    refine call43 (Add_ref4 (Ok.emb (h) (.cons (A := refP p _ _) (by with_reducible first | exact sl0 | exact .there sl0 | exact .there sl1 | exact .there sl2 | exact .there sl3 | exact .there sl4 | exact .there sl5 | exact .there sl6 | exact .there sl7 | exact .there sl8 | exact .there sl9 | exact .there sl10 | exact .there sl11 | exact .there sl12) (.same _))) (by omega) fun w3 h => ⟨((addL byPri q.S task pri).1, ()), rfl, ?_⟩)
    dsimp only
    refine jn.at () (fun w' => Ok e (rplP b byPri a z ⟨(addL byPri q.S task pri).2, q.L, if (addL byPri q.S task pri).1 = 0 then fun i => if i = task then n else q.g i else q.g⟩ :: L) w') (fun J hJ => cs.mk (fun hc => ?_) (fun hc => ?_)) (fun w' h => k w' h)
    · have hc : (addL byPri q.S task pri).1 = 0 := by simpa using hc
      obtain ⟨⟨t1, t2⟩, t3, _⟩ := addL_zero hc
      rw [if_pos hc] at hJ
      refine nn.mk ⟨by omega, by omega, ?_⟩
      refine st1.mk (Ok.emb (h) (.cons (A := pts b _) (by with_reducible first | exact sl0 | exact .there sl0 | exact .there sl1 | exact .there sl2 | exact .there sl3 | exact .there sl4 | exact .there sl5 | exact .there sl6 | exact .there sl7 | exact .there sl8 | exact .there sl9 | exact .there sl10 | exact .there sl11 | exact .there sl12) (.same _))) (by rw [rlC_len hW]; omega) fun w4 h => hJ w4 ?_
      rw [rlC_setW (by omega)] at h
      refine rplI (W := W.set task.toNat n) (q := ⟨(addL byPri q.S task pri).2, q.L, fun i => if i = task then n else q.g i⟩) ⟨by simpa using hW, fun i hi => ?_⟩ (h.emb (by repeat' (first | with_reducible exact Emb.same _ | exact Emb.nil _ | refine Emb.cons (by with_reducible first | exact sl0 | exact .there sl0 | exact .there sl1 | exact .there sl2 | exact .there sl3 | exact .there sl4 | exact .there sl5 | exact .there sl6 | exact .there sl7 | exact .there sl8 | exact .there sl9 | exact .there sl10 | exact .there sl11 | exact .there sl12) ?_ | refine Emb.skip ?_)))
      by_cases hi2 : i = task
      · subst hi2
        rw [List.getElem?_set_self (by omega)]
        simp
      · rcases addL_mem hi with h5 | h5
        · exact absurd h5.2 hi2
        · have := ho.line.2 i h5
          rw [List.getElem?_set_ne (by omega), hf.2 i h5]
          simp [hi2]
    · have hc : (addL byPri q.S task pri).1 ≠ 0 := by simpa using hc
      rw [if_neg hc] at hJ
      refine hJ w3 (rplI (q := ⟨(addL byPri q.S task pri).2, q.L, q.g⟩) (W := W) ⟨hW, fun i hi => ?_⟩ (h.emb (by repeat' (first | with_reducible exact Emb.same _ | exact Emb.nil _ | refine Emb.cons (by with_reducible first | exact sl0 | exact .there sl0 | exact .there sl1 | exact .there sl2 | exact .there sl3 | exact .there sl4 | exact .there sl5 | exact .there sl6 | exact .there sl7 | exact .there sl8 | exact .there sl9 | exact .there sl10 | exact .there sl11 | exact .there sl12) ?_ | refine Emb.skip ?_))))
      rw [addL_other hc] at hi
      exact hf.2 i hi
  refine cs.mk (fun hc => ?_) (fun hc => ?_)
  · have hS : q.S = [] := by
      have := eq_of_beq hc
      exact List.eq_nil_of_length_eq_zero (by omega)
    refine call42 (find_ref19 h ho h1 fun w2 h => ⟨((q.find a z n).1.1, (q.find a z n).1.2, ()), rfl, ?_⟩)
    dsimp only
    refine cs.mk (fun hc2 => ?_) (fun hc2 => ?_)
    · rw [if_pos ⟨hS, hc2⟩] at k
      exact k w2 h
    · refine tail (fun hh => by rw [hc2] at hh; cases hh.2) w2 ?_
      rw [find_no hc2] at h
      exact h
  · refine tail (fun hh => ?_) w h
    rw [hh.1] at hsq
    rw [hsq] at hc
    simp at hc

end Go.Proofs.Ytnghegppcogdbaa.B
