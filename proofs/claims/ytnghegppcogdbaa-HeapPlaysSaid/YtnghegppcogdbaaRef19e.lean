/- Contracts of the laws' own pool of any sizes: Drop, Holds. -/
import Derived.Test.YtnghegppcogdbaaRef19d
namespace Go.Proofs.Ytnghegppcogdbaa.B
open Go
set_option linter.unusedVariables false

theorem Drop_ref19 {e w L b byPri a z q task R} (h : Ok e (rplP b byPri a z q :: L) w) (ho : LPo a z q)
    (k : ∀ r w', r.len = (q.drop a z task).1.1.length → Ok e (slc 2 r (prs (q.drop a z task).1.1) :: rplP b byPri a z (q.drop a z task).2 :: L) w' → R [vS r, .bool (q.drop a z task).1.2] w') : sh21 (some ⟨b, 0, none⟩) task R w := by
  unfold sh21
  unfold LP.drop at k
  have l1 := okL_len ho.line
  obtain ⟨p, s, W, hf, hs, h⟩ := rplE h
  refine nn.mk (ldP.mk (by refine Ok.cellS h (by with_reducible first | exact sl0 | exact .there sl0 | exact .there sl1 | exact .there sl2 | exact .there sl3 | exact .there sl4 | exact .there sl5 | exact .there sl6 | exact .there sl7 | exact .there sl8 | exact .there sl9 | exact .there sl10 | exact .there sl11 | exact .there sl12) ?_; rfl) ?_)
  refine call46 (Remove_ref4 (Ok.emb (h) (.cons (A := refP p _ _) (by with_reducible first | exact sl0 | exact .there sl0 | exact .there sl1 | exact .there sl2 | exact .there sl3 | exact .there sl4 | exact .there sl5 | exact .there sl6 | exact .there sl7 | exact .there sl8 | exact .there sl9 | exact .there sl10 | exact .there sl11 | exact .there sl12) (.same _))) (by omega) fun w1 h => ⟨(decide (0 ≤ atI q.S task), ()), rfl, ?_⟩)
  dsimp only
  by_cases h0 : 0 ≤ atI q.S task
  · rw [if_pos h0] at k
    refine cs.no (by rw [decide_eq_true h0]; rfl) ?_
    have h := rplI (q := ⟨rmL q.S task, q.L, q.g⟩) (p := p) (s := s) (W := W) ⟨hf.1, fun i hi => hf.2 i ((rmL_sub q.S task).map Prod.fst |>.subset hi)⟩ (Ok.emb (h) (.cons (A := pts b _) (by with_reducible first | exact sl0 | exact .there sl0 | exact .there sl1 | exact .there sl2 | exact .there sl3 | exact .there sl4 | exact .there sl5 | exact .there sl6 | exact .there sl7 | exact .there sl8 | exact .there sl9 | exact .there sl10 | exact .there sl11 | exact .there sl12) (.cons (A := refP p _ _) (by with_reducible first | exact sl0 | exact .there sl0 | exact .there sl1 | exact .there sl2 | exact .there sl3 | exact .there sl4 | exact .there sl5 | exact .there sl6 | exact .there sl7 | exact .there sl8 | exact .there sl9 | exact .there sl10 | exact .there sl11 | exact .there sl12) (.cons (A := slc 2 s _) (by with_reducible first | exact sl0 | exact .there sl0 | exact .there sl1 | exact .there sl2 | exact .there sl3 | exact .there sl4 | exact .there sl5 | exact .there sl6 | exact .there sl7 | exact .there sl8 | exact .there sl9 | exact .there sl10 | exact .there sl11 | exact .there sl12) (.same _)))))
    exact call44 (fill_ref19 h (rm_ok ho) fun r w3 hr h => ⟨(r, ()), rfl, k r w3 hr h⟩)
  · rw [if_neg h0] at k
    dsimp only at k
    refine cs.yes (by rw [decide_eq_false h0]; rfl) ?_
    rw [rmL_none (by omega)] at h
    have h := rplI (q := q) (p := p) (s := s) (W := W) hf (Ok.emb (h) (.cons (A := pts b _) (by with_reducible first | exact sl0 | exact .there sl0 | exact .there sl1 | exact .there sl2 | exact .there sl3 | exact .there sl4 | exact .there sl5 | exact .there sl6 | exact .there sl7 | exact .there sl8 | exact .there sl9 | exact .there sl10 | exact .there sl11 | exact .there sl12) (.cons (A := refP p _ _) (by with_reducible first | exact sl0 | exact .there sl0 | exact .there sl1 | exact .there sl2 | exact .there sl3 | exact .there sl4 | exact .there sl5 | exact .there sl6 | exact .there sl7 | exact .there sl8 | exact .there sl9 | exact .there sl10 | exact .there sl11 | exact .there sl12) (.cons (A := slc 2 s _) (by with_reducible first | exact sl0 | exact .there sl0 | exact .there sl1 | exact .there sl2 | exact .there sl3 | exact .there sl4 | exact .there sl5 | exact .there sl6 | exact .there sl7 | exact .there sl8 | exact .there sl9 | exact .there sl10 | exact .there sl11 | exact .there sl12) (.same _)))))
    have h : Ok e (slc 2 ⟨none, 0, 0⟩ (prs []) :: _) w1 := h.slcNil 2
    exact k ⟨none, 0, 0⟩ w1 rfl h

end Go.Proofs.Ytnghegppcogdbaa.B
