/- Contracts of the laws' own pool of any sizes: fill, Get, Drop. -/
import Derived.Test.YtnghegppcogdbaaRef19c
namespace Go.Proofs.Ytnghegppcogdbaa.B
open Go
set_option linter.unusedVariables false

theorem slT_wok19 : SlT Pg 70 2 := .of (by kernel_rfl)

set_option maxHeartbeats 2000000 in
theorem fill_ref19 {e w L b byPri a z q R} (h : Ok e (rplP b byPri a z q :: L) w) (ho : LPo a z q)
    (k : ∀ r w', r.len = (q.fill a z).1.length → Ok e (slc 2 r (prs (q.fill a z).1) :: rplP b byPri a z (q.fill a z).2 :: L) w' → R [vS r] w') : sh44 (some ⟨b, 0, none⟩) R w := by
  unfold sh44
  have hS0 := okL_len ho.line
  have h := h.slcNil 2
  refine lp.mk (fun t w' => ∃ (o S2 L2 : List (Int × Int)), LPo a z ⟨S2, L2, q.g⟩ ∧ q.fill a z = (o ++ (LP.fill a z ⟨S2, L2, q.g⟩).1, (LP.fill a z ⟨S2, L2, q.g⟩).2) ∧ o.length + S2.length = q.S.length ∧
      Ok e (slc 2 t.1 (prs o) :: rplP b byPri a z ⟨S2, L2, q.g⟩ :: L) w')
    (fun t _ => q.S.length - t.1.len) ⟨[], q.S, q.L, ho, rfl, by simp, h⟩ ?_
  clear h
  rintro ⟨so, _⟩ w5 ⟨o, S2, L2, ho2, hfill, hlen, h⟩
  dsimp only at h
  have hso := slc_prs_len h
  have h0 := h
  obtain ⟨p, s, W, hf, hs, h⟩ := rplE (Ok.emb (h) (.cons (A := rplP b _ _ _ _) (by with_reducible first | exact sl0 | exact .there sl0 | exact .there sl1 | exact .there sl2 | exact .there sl3 | exact .there sl4 | exact .there sl5 | exact .there sl6 | exact .there sl7 | exact .there sl8 | exact .there sl9 | exact .there sl10 | exact .there sl11 | exact .there sl12) (.same _)))
  have hW := hf.1
  obtain ⟨sq, hsq, h⟩ := refE (Ok.emb (h) (.cons (A := refP p _ _) (by with_reducible first | exact sl0 | exact .there sl0 | exact .there sl1 | exact .there sl2 | exact .there sl3 | exact .there sl4 | exact .there sl5 | exact .there sl6 | exact .there sl7 | exact .there sl8 | exact .there sl9 | exact .there sl10 | exact .there sl11 | exact .there sl12) (.same _)))
  dsimp only at hf hs hsq h
  refine nn.mk (ldP.mk (by refine Ok.cellS h (by with_reducible first | exact sl0 | exact .there sl0 | exact .there sl1 | exact .there sl2 | exact .there sl3 | exact .there sl4 | exact .there sl5 | exact .there sl6 | exact .there sl7 | exact .there sl8 | exact .there sl9 | exact .there sl10 | exact .there sl11 | exact .there sl12) ?_; rfl) (nn.mk (ldS.mk (by refine Ok.cellS h (by with_reducible first | exact sl0 | exact .there sl0 | exact .there sl1 | exact .there sl2 | exact .there sl3 | exact .there sl4 | exact .there sl5 | exact .there sl6 | exact .there sl7 | exact .there sl8 | exact .there sl9 | exact .there sl10 | exact .there sl11 | exact .there sl12) ?_; rfl) ?_)))
  cases S2 with
  | nil =>
    refine cs.no (decide_eq_false (by rw [hsq]; simp)) ?_
    have e1 : LP.fill a z ⟨[], L2, q.g⟩ = ([], ⟨[], L2, q.g⟩) := rfl
    rw [e1, List.append_nil] at hfill
    rw [hfill] at k
    exact k so w5 hso h0
  | cons x r =>
    have hwx := ho2.want x.1 (List.mem_cons_self ..)
    have hor := okL_tail ho2.line
    have hrl := okL_len ho2.line
    dsimp only at hwx
    simp only [List.length_cons] at hsq hrl hlen
    refine cs.yes (decide_eq_true (by omega)) ?_
    refine nn.mk (ldP.mk (by refine Ok.cellS h (by with_reducible first | exact sl0 | exact .there sl0 | exact .there sl1 | exact .there sl2 | exact .there sl3 | exact .there sl4 | exact .there sl5 | exact .there sl6 | exact .there sl7 | exact .there sl8 | exact .there sl9 | exact .there sl10 | exact .there sl11 | exact .there sl12) ?_; rfl) (nn.mk (ldS.mk (by refine Ok.cellS h (by with_reducible first | exact sl0 | exact .there sl0 | exact .there sl1 | exact .there sl2 | exact .there sl3 | exact .there sl4 | exact .there sl5 | exact .there sl6 | exact .there sl7 | exact .there sl8 | exact .there sl9 | exact .there sl10 | exact .there sl11 | exact .there sl12) ?_; rfl) ?_)))
    refine ix_pr (Ok.emb (h) (.cons (A := slc 2 sq (prs (x :: r))) (by with_reducible first | exact sl0 | exact .there sl0 | exact .there sl1 | exact .there sl2 | exact .there sl3 | exact .there sl4 | exact .there sl5 | exact .there sl6 | exact .there sl7 | exact .there sl8 | exact .there sl9 | exact .there sl10 | exact .there sl11 | exact .there sl12) (.same _))) (Int.le_refl _) (by simp) fun c d y hy _ _ c1 c2 => ldI.mk (c1 _ ⟨_, (Ok.emb (h) (.cons (A := slc 2 sq (prs (x :: r))) (by with_reducible first | exact sl0 | exact .there sl0 | exact .there sl1 | exact .there sl2 | exact .there sl3 | exact .there sl4 | exact .there sl5 | exact .there sl6 | exact .there sl7 | exact .there sl8 | exact .there sl9 | exact .there sl10 | exact .there sl11 | exact .there sl12) (.same _)))⟩) ?_
    have hy : x = y := by simpa using hy
    subst hy
    clear c1 c2
    have hxi : x.1.toNat < W.length := by have := hor.2.2; omega
    have hwi := hf.2 x.1 (List.mem_cons_self ..)
    refine nn.mk ⟨by omega, by omega, ?_⟩
    refine ldI.mk (Ok.cellS h (by with_reducible first | exact sl0 | exact .there sl0 | exact .there sl1 | exact .there sl2 | exact .there sl3 | exact .there sl4 | exact .there sl5 | exact .there sl6 | exact .there sl7 | exact .there sl8 | exact .there sl9 | exact .there sl10 | exact .there sl11 | exact .there sl12) (rlC_w hwi)) ?_
    refine call42 (find_ref19 (Ok.emb (h0) (.cons (A := rplP b _ _ _ _) (by with_reducible first | exact sl0 | exact .there sl0 | exact .there sl1 | exact .there sl2 | exact .there sl3 | exact .there sl4 | exact .there sl5 | exact .there sl6 | exact .there sl7 | exact .there sl8 | exact .there sl9 | exact .there sl10 | exact .there sl11 | exact .there sl12) (.same _))) ho2 hwx fun w7 h => ⟨((findL a (a + z) L2 (q.g x.1)).1.1, (findL a (a + z) L2 (q.g x.1)).1.2, ()), rfl, ?_⟩)
    clear h0
    have ho3 := find_ok hwx.1 ho2
    dsimp only
    refine cs.mk (fun hc => ?_) (fun hc => ?_)
    · have hc : (findL a (a + z) L2 (q.g x.1)).1.2 = false := by simpa using hc
      have e1 : LP.fill a z ⟨x :: r, L2, q.g⟩ = ([], ⟨x :: r, L2, q.g⟩) := by
        unfold LP.fill
        dsimp only
        rw [fillL, if_neg (by rw [hc]; simp)]
      have e2 : (LP.find a z ⟨x :: r, L2, q.g⟩ (q.g x.1)).2 = ⟨x :: r, L2, q.g⟩ := by
        unfold LP.find
        dsimp only
        rw [findL_no hc]
      rw [e2] at h
      rw [e1, List.append_nil] at hfill
      rw [hfill] at k
      exact k so w7 hso (h.emb (by repeat' (first | with_reducible exact Emb.same _ | exact Emb.nil _ | refine Emb.cons (by with_reducible first | exact sl0 | exact .there sl0 | exact .there sl1 | exact .there sl2 | exact .there sl3 | exact .there sl4 | exact .there sl5 | exact .there sl6 | exact .there sl7 | exact .there sl8 | exact .there sl9 | exact .there sl10 | exact .there sl11 | exact .there sl12) ?_ | refine Emb.skip ?_)))
    · have hc : (findL a (a + z) L2 (q.g x.1)).1.2 = true := by simpa using hc
      obtain ⟨nat', hat⟩ : ∃ y, y = (findL a (a + z) L2 (q.g x.1)).1.1 := ⟨_, rfl⟩
      obtain ⟨L3, hL3⟩ : ∃ y, y = (findL a (a + z) L2 (q.g x.1)).2 := ⟨_, rfl⟩
      have e1 : LP.fill a z ⟨x :: r, L2, q.g⟩ = ((x.1, nat') :: (LP.fill a z ⟨r, L3, q.g⟩).1, (LP.fill a z ⟨r, L3, q.g⟩).2) := by
        unfold LP.fill
        dsimp only
        rw [fillL, if_pos hc, ← hat, ← hL3]
      have e2 : (LP.find a z ⟨x :: r, L2, q.g⟩ (q.g x.1)).2 = ⟨x :: r, L3, q.g⟩ := by
        unfold LP.find
        dsimp only
        rw [← hL3]
      rw [e2] at h ho3
      rw [← hat]
      obtain ⟨p, s, W, hf, hs, h⟩ := rplE (Ok.emb (h) (.cons (A := rplP b _ _ _ _) (by with_reducible first | exact sl0 | exact .there sl0 | exact .there sl1 | exact .there sl2 | exact .there sl3 | exact .there sl4 | exact .there sl5 | exact .there sl6 | exact .there sl7 | exact .there sl8 | exact .there sl9 | exact .there sl10 | exact .there sl11 | exact .there sl12) (.same _)))
      refine nn.mk (ldP.mk (by refine Ok.cellS h (by with_reducible first | exact sl0 | exact .there sl0 | exact .there sl1 | exact .there sl2 | exact .there sl3 | exact .there sl4 | exact .there sl5 | exact .there sl6 | exact .there sl7 | exact .there sl8 | exact .there sl9 | exact .there sl10 | exact .there sl11 | exact .there sl12) ?_; rfl) ?_)
      refine call68 (Take_ref4 (Ok.emb (h) (.cons (A := refP p _ _) (by with_reducible first | exact sl0 | exact .there sl0 | exact .there sl1 | exact .there sl2 | exact .there sl3 | exact .there sl4 | exact .there sl5 | exact .there sl6 | exact .there sl7 | exact .there sl8 | exact .there sl9 | exact .there sl10 | exact .there sl11 | exact .there sl12) (.same _))) (by dsimp only; simp only [List.length_cons]; omega) fun w9 h => ⟨((x.1, x.2, ()), true, ()), rfl, ?_⟩)
      dsimp only [List.tail_cons] at h
      refine al.mk h fun c w12 h => ?_
      refine ef.append1 (n := 1) slT_wok19 (by decide) (Ok.emb (h) (.cons (A := pts c _) (by with_reducible first | exact sl0 | exact .there sl0 | exact .there sl1 | exact .there sl2 | exact .there sl3 | exact .there sl4 | exact .there sl5 | exact .there sl6 | exact .there sl7 | exact .there sl8 | exact .there sl9 | exact .there sl10 | exact .there sl11 | exact .there sl12) (.cons (A := slc 2 so _) (by with_reducible first | exact sl0 | exact .there sl0 | exact .there sl1 | exact .there sl2 | exact .there sl3 | exact .there sl4 | exact .there sl5 | exact .there sl6 | exact .there sl7 | exact .there sl8 | exact .there sl9 | exact .there sl10 | exact .there sl11 | exact .there sl12) (.same _)))) rfl (by intro v hv; simp at hv; rcases hv with rfl | rfl <;> rfl) (by omega) fun s2 w13 hl2 h => ?_
      rw [prs_snoc] at h
      have h := rplI (q := ⟨r, L3, q.g⟩) (p := p) (s := s) (W := W) ⟨hf.1, fun i hi => hf.2 i (List.mem_cons_of_mem _ hi)⟩ (Ok.emb (h) (.cons (A := pts b _) (by with_reducible first | exact sl0 | exact .there sl0 | exact .there sl1 | exact .there sl2 | exact .there sl3 | exact .there sl4 | exact .there sl5 | exact .there sl6 | exact .there sl7 | exact .there sl8 | exact .there sl9 | exact .there sl10 | exact .there sl11 | exact .there sl12) (.cons (A := refP p _ _) (by with_reducible first | exact sl0 | exact .there sl0 | exact .there sl1 | exact .there sl2 | exact .there sl3 | exact .there sl4 | exact .there sl5 | exact .there sl6 | exact .there sl7 | exact .there sl8 | exact .there sl9 | exact .there sl10 | exact .there sl11 | exact .there sl12) (.cons (A := slc 2 s _) (by with_reducible first | exact sl0 | exact .there sl0 | exact .there sl1 | exact .there sl2 | exact .there sl3 | exact .there sl4 | exact .there sl5 | exact .there sl6 | exact .there sl7 | exact .there sl8 | exact .there sl9 | exact .there sl10 | exact .there sl11 | exact .there sl12) (.same _)))))
      refine ⟨⟨o ++ [(x.1, nat')], r, L3, ⟨ho3.c, hor.1, ho3.ch, fun i hi => ho3.want i (List.mem_cons_of_mem _ hi)⟩, ?_, by simp; omega, (h.emb (by repeat' (first | with_reducible exact Emb.same _ | exact Emb.nil _ | refine Emb.cons (by with_reducible first | exact sl0 | exact .there sl0 | exact .there sl1 | exact .there sl2 | exact .there sl3 | exact .there sl4 | exact .there sl5 | exact .there sl6 | exact .there sl7 | exact .there sl8 | exact .there sl9 | exact .there sl10 | exact .there sl11 | exact .there sl12) ?_ | refine Emb.skip ?_)))⟩, ?_⟩
      · rw [hfill, e1]
        simp
      · show q.S.length - s2.len < q.S.length - so.len
        omega

end Go.Proofs.Ytnghegppcogdbaa.B
