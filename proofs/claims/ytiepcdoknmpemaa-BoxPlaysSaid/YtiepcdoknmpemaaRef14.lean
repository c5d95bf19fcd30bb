/- Contracts of the laws' own mailbox. -/
import Derived.Test.YtiepcdoknmpemaaMbx4
import Derived.Test.YtiepcdoknmpemaaSame4
namespace Go.Proofs.Ytiepcdoknmpemaa.B
open Go
set_option linter.unusedVariables false

theorem slT_rmsg : SlT Pg 61 2 := .of (by kernel_rfl)

theorem New_ref14 {e w L byPri mp most R} (h : Ok e L w) (k0 : ¬ (1 ≤ most ∧ most ≤ 255) → R [.pointer none, .int .i64 (-17)] w) (k1 : 1 ≤ most ∧ most ≤ 255 → ∀ b p w', Ok e (boxP b p mp most [] :: refP p byPri [] :: L) w' → R [.pointer (some ⟨b, 0, none⟩), .int .i64 0] w') : sh14 byPri mp most R w := by
  unfold sh14
  refine jn.bool (decide (¬ (1 ≤ most ∧ most ≤ 255))) (fun J hJ => cs.mk (fun h1 => ?_) (fun h1 => ?_)) ?_
  · have h1 := of_decide_eq_true h1
    rw [decide_eq_true (by omega)] at hJ
    exact hJ
  · have h1 := of_decide_eq_false h1
    rw [show decide (most > 255) = decide (¬ (1 ≤ most ∧ most ≤ 255)) from decide_eq_decide.2 (by omega)]
    exact hJ
  refine cs.mk (fun h1 => k0 (of_decide_eq_true h1)) (fun h1 => ?_)
  have h1 : 1 ≤ most ∧ most ≤ 255 := Decidable.not_not.1 (of_decide_eq_false h1)
  refine al.mk h fun p w1 h => al.mk h fun b w2 h => k1 h1 b p w2 ?_
  have h := refI (s := ⟨none, 0, 0⟩) (l := []) (h.slcNil 2).p2
  exact boxI (s := ⟨none, 0, 0⟩) (ms := []) (h.p1.slcNil 2).p1

theorem Poll_ref14 {e w L b p mp most ms R} (h : Ok e (boxP b p mp most ms :: L) w) (hb : ms.length ≤ 2 ^ 20) (k : ∀ w', Ok e (boxP b p mp most ms.tail :: L) w' → R [.int .i64 (ms.head?.getD (0, 0)).1, .bool (!ms.isEmpty)] w') : sh17 (some ⟨b, 0, none⟩) R w := by
  unfold sh17
  have h0 := h
  obtain ⟨s, hs, h⟩ := boxE h
  refine nn.mk (ldS.mk (h.cell rfl) ?_)
  cases ms with
  | nil => exact cs.yes (by simp [hs]) (k w h0)
  | cons x r =>
    refine cs.no (by simp at hs ⊢; omega) ?_
    refine nn.mk (ldS.mk (h.cell rfl) ?_)
    refine ix_pr h.p1 (by omega) (by simp) fun c o q hq _ _ c1 c2 => ldI.mk (c1 _ ⟨_, h.p1⟩) ?_
    simp at hq
    subst hq
    refine al.mk h fun d w2 h => nn.mk (ldS.mk (by refine Ok.cellS h (by first | with_reducible exact Sel.here _ | with_reducible exact Sel.there (Sel.here _) | with_reducible exact Sel.there (Sel.there (Sel.here _)) | with_reducible exact Sel.there (Sel.there (Sel.there (Sel.here _))) | with_reducible exact Sel.there (Sel.there (Sel.there (Sel.there (Sel.here _)))) | with_reducible exact Sel.there (Sel.there (Sel.there (Sel.there (Sel.there (Sel.here _))))) | with_reducible exact Sel.there (Sel.there (Sel.there (Sel.there (Sel.there (Sel.there (Sel.here _)))))) | with_reducible exact Sel.there (Sel.there (Sel.there (Sel.there (Sel.there (Sel.there (Sel.there (Sel.here _))))))) | with_reducible exact Sel.there (Sel.there (Sel.there (Sel.there (Sel.there (Sel.there (Sel.there (Sel.there (Sel.here _)))))))) | with_reducible exact Sel.there (Sel.there (Sel.there (Sel.there (Sel.there (Sel.there (Sel.there (Sel.there (Sel.there (Sel.here _))))))))) | with_reducible exact Sel.there (Sel.there (Sel.there (Sel.there (Sel.there (Sel.there (Sel.there (Sel.there (Sel.there (Sel.there (Sel.here _)))))))))) | with_reducible exact Sel.there (Sel.there (Sel.there (Sel.there (Sel.there (Sel.there (Sel.there (Sel.there (Sel.there (Sel.there (Sel.there (Sel.here _)))))))))))) ?_; rfl) ?_)
    refine sb_sub h.p2 (by omega) (by simp at hs; omega) (Int.le_refl _) fun y hy => ?_
    have h := h.slcNew (n := 0) (sz := 2) rfl (by simp)
    refine ef.appendSub slT_rmsg (by decide) (Ok.emb (h) (.cons (A := slc 2 ⟨some ⟨d, 0, none⟩, 0, 0⟩ []) (by first | with_reducible exact Sel.here _ | with_reducible exact Sel.there (Sel.here _) | with_reducible exact Sel.there (Sel.there (Sel.here _)) | with_reducible exact Sel.there (Sel.there (Sel.there (Sel.here _))) | with_reducible exact Sel.there (Sel.there (Sel.there (Sel.there (Sel.here _)))) | with_reducible exact Sel.there (Sel.there (Sel.there (Sel.there (Sel.there (Sel.here _))))) | with_reducible exact Sel.there (Sel.there (Sel.there (Sel.there (Sel.there (Sel.there (Sel.here _)))))) | with_reducible exact Sel.there (Sel.there (Sel.there (Sel.there (Sel.there (Sel.there (Sel.there (Sel.here _))))))) | with_reducible exact Sel.there (Sel.there (Sel.there (Sel.there (Sel.there (Sel.there (Sel.there (Sel.there (Sel.here _)))))))) | with_reducible exact Sel.there (Sel.there (Sel.there (Sel.there (Sel.there (Sel.there (Sel.there (Sel.there (Sel.there (Sel.here _))))))))) | with_reducible exact Sel.there (Sel.there (Sel.there (Sel.there (Sel.there (Sel.there (Sel.there (Sel.there (Sel.there (Sel.there (Sel.here _)))))))))) | with_reducible exact Sel.there (Sel.there (Sel.there (Sel.there (Sel.there (Sel.there (Sel.there (Sel.there (Sel.there (Sel.there (Sel.there (Sel.here _)))))))))))) (.cons (A := slc 2 s (prs (x :: r))) (by first | with_reducible exact Sel.here _ | with_reducible exact Sel.there (Sel.here _) | with_reducible exact Sel.there (Sel.there (Sel.here _)) | with_reducible exact Sel.there (Sel.there (Sel.there (Sel.here _))) | with_reducible exact Sel.there (Sel.there (Sel.there (Sel.there (Sel.here _)))) | with_reducible exact Sel.there (Sel.there (Sel.there (Sel.there (Sel.there (Sel.here _))))) | with_reducible exact Sel.there (Sel.there (Sel.there (Sel.there (Sel.there (Sel.there (Sel.here _)))))) | with_reducible exact Sel.there (Sel.there (Sel.there (Sel.there (Sel.there (Sel.there (Sel.there (Sel.here _))))))) | with_reducible exact Sel.there (Sel.there (Sel.there (Sel.there (Sel.there (Sel.there (Sel.there (Sel.there (Sel.here _)))))))) | with_reducible exact Sel.there (Sel.there (Sel.there (Sel.there (Sel.there (Sel.there (Sel.there (Sel.there (Sel.there (Sel.here _))))))))) | with_reducible exact Sel.there (Sel.there (Sel.there (Sel.there (Sel.there (Sel.there (Sel.there (Sel.there (Sel.there (Sel.there (Sel.here _)))))))))) | with_reducible exact Sel.there (Sel.there (Sel.there (Sel.there (Sel.there (Sel.there (Sel.there (Sel.there (Sel.there (Sel.there (Sel.there (Sel.here _)))))))))))) (.same _)))) hy (by omega) (by simp only; omega) fun r2 w3 hl2 h => ?_
    refine nn.mk (st1.mk (Ok.emb (h) (.cons (A := pts b _) (by first | with_reducible exact Sel.here _ | with_reducible exact Sel.there (Sel.here _) | with_reducible exact Sel.there (Sel.there (Sel.here _)) | with_reducible exact Sel.there (Sel.there (Sel.there (Sel.here _))) | with_reducible exact Sel.there (Sel.there (Sel.there (Sel.there (Sel.here _)))) | with_reducible exact Sel.there (Sel.there (Sel.there (Sel.there (Sel.there (Sel.here _))))) | with_reducible exact Sel.there (Sel.there (Sel.there (Sel.there (Sel.there (Sel.there (Sel.here _)))))) | with_reducible exact Sel.there (Sel.there (Sel.there (Sel.there (Sel.there (Sel.there (Sel.there (Sel.here _))))))) | with_reducible exact Sel.there (Sel.there (Sel.there (Sel.there (Sel.there (Sel.there (Sel.there (Sel.there (Sel.here _)))))))) | with_reducible exact Sel.there (Sel.there (Sel.there (Sel.there (Sel.there (Sel.there (Sel.there (Sel.there (Sel.there (Sel.here _))))))))) | with_reducible exact Sel.there (Sel.there (Sel.there (Sel.there (Sel.there (Sel.there (Sel.there (Sel.there (Sel.there (Sel.there (Sel.here _)))))))))) | with_reducible exact Sel.there (Sel.there (Sel.there (Sel.there (Sel.there (Sel.there (Sel.there (Sel.there (Sel.there (Sel.there (Sel.there (Sel.here _)))))))))))) (.same _))) (by simp) fun w4 h => k w4 ?_)
    have e1 : [] ++ ((prs (x :: r)).take (((s.len : Int)).toNat * 2)).drop ((1 : Int).toNat * 2) = prs (x :: r).tail := by
      rw [Int.toNat_natCast, List.take_of_length_le (by rw [prs_len]; omega)]
      rfl
    rw [e1] at h
    exact (Ok.emb (boxI (s := r2) h) (by repeat' (first | with_reducible exact Emb.same _ | exact Emb.nil _ | refine Emb.cons (by first | with_reducible exact Sel.here _ | with_reducible exact Sel.there (Sel.here _) | with_reducible exact Sel.there (Sel.there (Sel.here _)) | with_reducible exact Sel.there (Sel.there (Sel.there (Sel.here _))) | with_reducible exact Sel.there (Sel.there (Sel.there (Sel.there (Sel.here _)))) | with_reducible exact Sel.there (Sel.there (Sel.there (Sel.there (Sel.there (Sel.here _))))) | with_reducible exact Sel.there (Sel.there (Sel.there (Sel.there (Sel.there (Sel.there (Sel.here _)))))) | with_reducible exact Sel.there (Sel.there (Sel.there (Sel.there (Sel.there (Sel.there (Sel.there (Sel.here _))))))) | with_reducible exact Sel.there (Sel.there (Sel.there (Sel.there (Sel.there (Sel.there (Sel.there (Sel.there (Sel.here _)))))))) | with_reducible exact Sel.there (Sel.there (Sel.there (Sel.there (Sel.there (Sel.there (Sel.there (Sel.there (Sel.there (Sel.here _))))))))) | with_reducible exact Sel.there (Sel.there (Sel.there (Sel.there (Sel.there (Sel.there (Sel.there (Sel.there (Sel.there (Sel.there (Sel.here _)))))))))) | with_reducible exact Sel.there (Sel.there (Sel.there (Sel.there (Sel.there (Sel.there (Sel.there (Sel.there (Sel.there (Sel.there (Sel.there (Sel.here _)))))))))))) ?_ | refine Emb.skip ?_)))

theorem Send_ref14 {e w L b p mp most byPri ms l msg pri R} (h : Ok e (boxP b p mp most ms :: refP p byPri l :: L) w) (hm : ms.length ≤ 2 ^ 20) (hb : l.length ≤ 2 ^ 20)
    (k : ∀ w', Ok e (boxP b p mp most (sendM mp most ms l msg pri).ms :: refP p byPri (sendM mp most ms l msg pri).l :: L) w' → R [.int .i64 (sendM mp most ms l msg pri).who, .int .i64 (sendM mp most ms l msg pri).code] w') : sh15 (some ⟨b, 0, none⟩) msg pri R w := by
  unfold sh15
  unfold sendM at k
  have h0 := h
  obtain ⟨s, hs, h⟩ := boxE h
  refine jn.bool (decide (badMsg mp most msg pri)) (fun J hJ => cs.mk (fun h1 => ?_) (fun h1 => ?_)) ?_
  · have h1 : msg = 0 := by simpa using h1
    rw [decide_eq_true (.inl h1)] at hJ
    exact hJ
  · have h1 : ¬ msg = 0 := by simpa using h1
    refine nn.mk (ldB.mk (h.cell rfl) ?_)
    refine jn.bool (decide (badMsg mp most msg pri)) (fun J2 hJ2 => cs.mk (fun h2 => ?_) (fun h2 => ?_)) hJ
    · subst h2
      refine jn.bool (decide (badMsg true most msg pri)) (fun J3 hJ3 => cs.mk (fun h3 => ?_) (fun h3 => ?_)) hJ2
      · have h3 := of_decide_eq_true h3
        rw [decide_eq_true (.inr ⟨rfl, .inl h3⟩)] at hJ3
        exact hJ3
      · have h3 := of_decide_eq_false h3
        refine nn.mk (ldI.mk (h.cell rfl) ?_)
        have hiff : pri > most ↔ badMsg true most msg pri := ⟨fun h4 => .inr ⟨rfl, .inr h4⟩, fun h4 => h4.elim (fun h5 => absurd h5 h1) fun h5 => h5.2.elim (fun h6 => absurd h6 h3) id⟩
        rw [show decide (pri > most) = decide (badMsg true most msg pri) from decide_eq_decide.2 hiff]
        exact hJ3
    · subst h2
      rw [decide_eq_false (fun h4 : badMsg false most msg pri => h4.elim h1 fun h5 => by cases h5.1)] at hJ2
      exact hJ2
  dsimp only
  refine cs.mk (fun h1 => ?_) (fun h1 => ?_)
  · rw [if_pos (of_decide_eq_true h1)] at k
    exact k w h0
  rw [if_neg (of_decide_eq_false h1)] at k
  refine lp.mk (fun t w' => ∃ n : Nat, t.1 = (n : Int) ∧ n ≤ ms.length ∧ (∀ m, m < n → ∀ q, ms[m]? = some q → q.1 ≠ msg) ∧ w = w')
    (fun t _ => ms.length - t.1.toNat) ⟨0, rfl, Nat.zero_le _, fun m hm => absurd hm (Nat.not_lt_zero _), rfl⟩ ?_
  rintro ⟨i, _⟩ w1 ⟨n, hn, hnl, hno, hw⟩
  dsimp only at hn
  subst hn hw
  refine nn.mk (ldS.mk (h.cell rfl) (cs.mk (fun hlt => ?_) (fun hge => ?_)))
  · have hlt : n < ms.length := by have := of_decide_eq_true hlt; dsimp only at this; omega
    refine nn.mk (ldS.mk (h.cell rfl) ?_)
    refine ix_pr h.p1 (by simp) (by simpa using hlt) fun b1 o q hq ha ho hc1 hc2 => ldI.mk (hc1 _ ⟨_, h.p1⟩) ?_
    have hq : ms[n]? = some q := by simpa using hq
    refine cs.mk (fun he => ?_) (fun hne => ?_)
    · have he : q.1 = msg := by simpa using he
      rw [if_pos (by rw [atI_some hq he hno]; omega)] at k
      exact k w h0
    · have hne : q.1 ≠ msg := by simpa using hne
      refine ⟨⟨n + 1, ?_, hlt, fun m hm r hr => ?_, rfl⟩, ?_⟩
      · show w64 _ = _
        rw [w64_in (by omega) (by omega)]; rfl
      · rcases Nat.lt_or_ge m n with hm' | hm'
        · exact hno m hm' r hr
        · have : m = n := by omega
          subst this
          rw [hq] at hr
          cases hr
          exact hne
      · show _ - (w64 _).toNat < _ - Int.toNat _
        rw [w64_in (by omega) (by omega)]
        omega
  have hge : ms.length ≤ n := by have := of_decide_eq_false hge; dsimp only at this; omega
  rw [if_neg (by rw [atI_none fun p hp => by
    obtain ⟨m, hm, rfl⟩ := List.getElem_of_mem hp
    exact hno m (by omega) _ (List.getElem?_eq_getElem hm)]; omega)] at k
  refine nn.mk (ldP.mk (h.cell rfl) ?_)
  refine call33 (Take_ref4 (Ok.emb (h) (.cons (A := refP p byPri l) (by first | with_reducible exact Sel.here _ | with_reducible exact Sel.there (Sel.here _) | with_reducible exact Sel.there (Sel.there (Sel.here _)) | with_reducible exact Sel.there (Sel.there (Sel.there (Sel.here _))) | with_reducible exact Sel.there (Sel.there (Sel.there (Sel.there (Sel.here _)))) | with_reducible exact Sel.there (Sel.there (Sel.there (Sel.there (Sel.there (Sel.here _))))) | with_reducible exact Sel.there (Sel.there (Sel.there (Sel.there (Sel.there (Sel.there (Sel.here _)))))) | with_reducible exact Sel.there (Sel.there (Sel.there (Sel.there (Sel.there (Sel.there (Sel.there (Sel.here _))))))) | with_reducible exact Sel.there (Sel.there (Sel.there (Sel.there (Sel.there (Sel.there (Sel.there (Sel.there (Sel.here _)))))))) | with_reducible exact Sel.there (Sel.there (Sel.there (Sel.there (Sel.there (Sel.there (Sel.there (Sel.there (Sel.there (Sel.here _))))))))) | with_reducible exact Sel.there (Sel.there (Sel.there (Sel.there (Sel.there (Sel.there (Sel.there (Sel.there (Sel.there (Sel.there (Sel.here _)))))))))) | with_reducible exact Sel.there (Sel.there (Sel.there (Sel.there (Sel.there (Sel.there (Sel.there (Sel.there (Sel.there (Sel.there (Sel.there (Sel.here _)))))))))))) (.same _))) hb fun w3 h => ⟨(((l.head?.getD (0, 0)).1, (l.head?.getD (0, 0)).2, ()), !l.isEmpty, ()), rfl, ?_⟩)
  refine al.mk h fun d w4 h => st1.mk h (by simp) fun w5 h => st1.mk h (by simp) fun w6 h => ?_
  have h := h
  dsimp only
  cases l with
  | cons x r =>
    refine cs.yes rfl (ldI.mk (h.cell rfl) (k w6 ?_))
    exact (Ok.emb (boxI (s := s) (Ok.emb (h) (.cons (A := pts b _) (by first | with_reducible exact Sel.here _ | with_reducible exact Sel.there (Sel.here _) | with_reducible exact Sel.there (Sel.there (Sel.here _)) | with_reducible exact Sel.there (Sel.there (Sel.there (Sel.here _))) | with_reducible exact Sel.there (Sel.there (Sel.there (Sel.there (Sel.here _)))) | with_reducible exact Sel.there (Sel.there (Sel.there (Sel.there (Sel.there (Sel.here _))))) | with_reducible exact Sel.there (Sel.there (Sel.there (Sel.there (Sel.there (Sel.there (Sel.here _)))))) | with_reducible exact Sel.there (Sel.there (Sel.there (Sel.there (Sel.there (Sel.there (Sel.there (Sel.here _))))))) | with_reducible exact Sel.there (Sel.there (Sel.there (Sel.there (Sel.there (Sel.there (Sel.there (Sel.there (Sel.here _)))))))) | with_reducible exact Sel.there (Sel.there (Sel.there (Sel.there (Sel.there (Sel.there (Sel.there (Sel.there (Sel.there (Sel.here _))))))))) | with_reducible exact Sel.there (Sel.there (Sel.there (Sel.there (Sel.there (Sel.there (Sel.there (Sel.there (Sel.there (Sel.there (Sel.here _)))))))))) | with_reducible exact Sel.there (Sel.there (Sel.there (Sel.there (Sel.there (Sel.there (Sel.there (Sel.there (Sel.there (Sel.there (Sel.there (Sel.here _)))))))))))) (.cons (A := slc 2 s _) (by first | with_reducible exact Sel.here _ | with_reducible exact Sel.there (Sel.here _) | with_reducible exact Sel.there (Sel.there (Sel.here _)) | with_reducible exact Sel.there (Sel.there (Sel.there (Sel.here _))) | with_reducible exact Sel.there (Sel.there (Sel.there (Sel.there (Sel.here _)))) | with_reducible exact Sel.there (Sel.there (Sel.there (Sel.there (Sel.there (Sel.here _))))) | with_reducible exact Sel.there (Sel.there (Sel.there (Sel.there (Sel.there (Sel.there (Sel.here _)))))) | with_reducible exact Sel.there (Sel.there (Sel.there (Sel.there (Sel.there (Sel.there (Sel.there (Sel.here _))))))) | with_reducible exact Sel.there (Sel.there (Sel.there (Sel.there (Sel.there (Sel.there (Sel.there (Sel.there (Sel.here _)))))))) | with_reducible exact Sel.there (Sel.there (Sel.there (Sel.there (Sel.there (Sel.there (Sel.there (Sel.there (Sel.there (Sel.here _))))))))) | with_reducible exact Sel.there (Sel.there (Sel.there (Sel.there (Sel.there (Sel.there (Sel.there (Sel.there (Sel.there (Sel.there (Sel.here _)))))))))) | with_reducible exact Sel.there (Sel.there (Sel.there (Sel.there (Sel.there (Sel.there (Sel.there (Sel.there (Sel.there (Sel.there (Sel.there (Sel.here _)))))))))))) (.same _))))) (by repeat' (first | with_reducible exact Emb.same _ | exact Emb.nil _ | refine Emb.cons (by first | with_reducible exact Sel.here _ | with_reducible exact Sel.there (Sel.here _) | with_reducible exact Sel.there (Sel.there (Sel.here _)) | with_reducible exact Sel.there (Sel.there (Sel.there (Sel.here _))) | with_reducible exact Sel.there (Sel.there (Sel.there (Sel.there (Sel.here _)))) | with_reducible exact Sel.there (Sel.there (Sel.there (Sel.there (Sel.there (Sel.here _))))) | with_reducible exact Sel.there (Sel.there (Sel.there (Sel.there (Sel.there (Sel.there (Sel.here _)))))) | with_reducible exact Sel.there (Sel.there (Sel.there (Sel.there (Sel.there (Sel.there (Sel.there (Sel.here _))))))) | with_reducible exact Sel.there (Sel.there (Sel.there (Sel.there (Sel.there (Sel.there (Sel.there (Sel.there (Sel.here _)))))))) | with_reducible exact Sel.there (Sel.there (Sel.there (Sel.there (Sel.there (Sel.there (Sel.there (Sel.there (Sel.there (Sel.here _))))))))) | with_reducible exact Sel.there (Sel.there (Sel.there (Sel.there (Sel.there (Sel.there (Sel.there (Sel.there (Sel.there (Sel.there (Sel.here _)))))))))) | with_reducible exact Sel.there (Sel.there (Sel.there (Sel.there (Sel.there (Sel.there (Sel.there (Sel.there (Sel.there (Sel.there (Sel.there (Sel.here _)))))))))))) ?_ | refine Emb.skip ?_)))
  | nil =>
    refine cs.no rfl (nn.mk (ldS.mk (by refine Ok.cellS h (by first | with_reducible exact Sel.here _ | with_reducible exact Sel.there (Sel.here _) | with_reducible exact Sel.there (Sel.there (Sel.here _)) | with_reducible exact Sel.there (Sel.there (Sel.there (Sel.here _))) | with_reducible exact Sel.there (Sel.there (Sel.there (Sel.there (Sel.here _)))) | with_reducible exact Sel.there (Sel.there (Sel.there (Sel.there (Sel.there (Sel.here _))))) | with_reducible exact Sel.there (Sel.there (Sel.there (Sel.there (Sel.there (Sel.there (Sel.here _)))))) | with_reducible exact Sel.there (Sel.there (Sel.there (Sel.there (Sel.there (Sel.there (Sel.there (Sel.here _))))))) | with_reducible exact Sel.there (Sel.there (Sel.there (Sel.there (Sel.there (Sel.there (Sel.there (Sel.there (Sel.here _)))))))) | with_reducible exact Sel.there (Sel.there (Sel.there (Sel.there (Sel.there (Sel.there (Sel.there (Sel.there (Sel.there (Sel.here _))))))))) | with_reducible exact Sel.there (Sel.there (Sel.there (Sel.there (Sel.there (Sel.there (Sel.there (Sel.there (Sel.there (Sel.there (Sel.here _)))))))))) | with_reducible exact Sel.there (Sel.there (Sel.there (Sel.there (Sel.there (Sel.there (Sel.there (Sel.there (Sel.there (Sel.there (Sel.there (Sel.here _)))))))))))) ?_; rfl) ?_))
    have h : Ok e (pts b [.pointer (some ⟨p, 0, none⟩), .bool mp, .int .i64 most, vS s] :: slc 2 s (prs ms) :: refP p byPri [] :: L) w6 := (h.emb (by repeat' (first | with_reducible exact Emb.same _ | exact Emb.nil _ | refine Emb.cons (by first | with_reducible exact Sel.here _ | with_reducible exact Sel.there (Sel.here _) | with_reducible exact Sel.there (Sel.there (Sel.here _)) | with_reducible exact Sel.there (Sel.there (Sel.there (Sel.here _))) | with_reducible exact Sel.there (Sel.there (Sel.there (Sel.there (Sel.here _)))) | with_reducible exact Sel.there (Sel.there (Sel.there (Sel.there (Sel.there (Sel.here _))))) | with_reducible exact Sel.there (Sel.there (Sel.there (Sel.there (Sel.there (Sel.there (Sel.here _)))))) | with_reducible exact Sel.there (Sel.there (Sel.there (Sel.there (Sel.there (Sel.there (Sel.there (Sel.here _))))))) | with_reducible exact Sel.there (Sel.there (Sel.there (Sel.there (Sel.there (Sel.there (Sel.there (Sel.there (Sel.here _)))))))) | with_reducible exact Sel.there (Sel.there (Sel.there (Sel.there (Sel.there (Sel.there (Sel.there (Sel.there (Sel.there (Sel.here _))))))))) | with_reducible exact Sel.there (Sel.there (Sel.there (Sel.there (Sel.there (Sel.there (Sel.there (Sel.there (Sel.there (Sel.there (Sel.here _)))))))))) | with_reducible exact Sel.there (Sel.there (Sel.there (Sel.there (Sel.there (Sel.there (Sel.there (Sel.there (Sel.there (Sel.there (Sel.there (Sel.here _)))))))))))) ?_ | refine Emb.skip ?_)))
    refine lp.mk (fun t w' => ∃ n : Nat, t.1 = (n : Int) ∧ n ≤ ms.length ∧ (if mp then pp ms pri n else n) = putK mp ms pri ∧ Ok e (pts b [.pointer (some ⟨p, 0, none⟩), .bool mp, .int .i64 most, vS s] :: slc 2 s (prs ms) :: refP p byPri [] :: L) w')
      (fun t _ => t.1.toNat) ⟨ms.length, by rw [← hs], Nat.le_refl _, rfl, h⟩ ?_
    clear h
    rintro ⟨i, _⟩ w7 ⟨n, hn, hnl, hinv, h⟩
    dsimp only at hn
    subst hn
    refine nn.mk (ldB.mk (h.cell rfl) ?_)
    refine jn.bool (mp && decide (0 < n)) (fun J hJ => cs.mk (fun h3 => ?_) (fun h3 => ?_)) ?_
    · rw [h3, Bool.true_and] at hJ
      rw [show decide ((n : Int) > 0) = decide (0 < n) from decide_eq_decide.2 (by omega)]
      exact hJ
    · rw [h3] at hJ
      exact hJ
    refine jn.bool (mp && decide (0 < n) && decide (pri < (ms[n - 1]?.getD (0, 0)).2)) (fun J hJ => cs.mk (fun h3 => ?_) (fun h3 => ?_)) ?_
    · simp only [Bool.and_eq_true, decide_eq_true_eq] at h3
      refine nn.mk (ldS.mk (h.cell rfl) ?_)
      have hw : w64 ((n : Int) - 1) = ((n - 1 : Nat) : Int) := by rw [w64_in (by omega) (by omega)]; omega
      dsimp only
      rw [hw]
      refine ix_pr h.p1 (by omega) (by omega) fun b1 o1 q hq _ _ c1 c2 => ldI.mk (c2 _ ⟨_, h.p1⟩) ?_
      rw [Int.toNat_natCast] at hq
      simpa [h3.1, h3.2, hq] using hJ
    · simp only at h3
      rw [h3, Bool.false_and] at hJ
      exact hJ
    dsimp only
    refine cs.mk (fun h3 => ?_) (fun h3 => ?_)
    · simp only [Bool.and_eq_true, decide_eq_true_eq] at h3
      obtain ⟨m, rfl⟩ : ∃ m, n = m + 1 := ⟨n - 1, by omega⟩
      have hw : w64 (((m + 1 : Nat) : Int) - 1) = (m : Int) := by rw [w64_in (by omega) (by omega)]; omega
      rw [hw]
      refine ⟨⟨m, rfl, by omega, ?_, h⟩, ?_⟩
      · rw [← hinv, if_pos h3.1.1, if_pos h3.1.1]
        have h4 : pri < (ms[m]?.getD (0, 0)).2 := h3.2
        rw [show pp ms pri (m + 1) = if pri < (ms[m]?.getD (0, 0)).2 then pp ms pri m else m + 1 from rfl, if_pos h4]
      · show Int.toNat _ < Int.toNat _
        omega
    · have hnk : n = putK mp ms pri := by
        rw [← hinv]
        cases mp with
        | false => rfl
        | true =>
          rw [if_pos rfl]
          cases n with
          | zero => rfl
          | succ m =>
            simp at h3
            rw [show pp ms pri (m + 1) = if pri < (ms[m]?.getD (0, 0)).2 then pp ms pri m else m + 1 from rfl, if_neg (by omega)]
      refine al.mk h fun d2 w8 h => nn.mk (ldS.mk (by refine Ok.cellS h (by first | with_reducible exact Sel.here _ | with_reducible exact Sel.there (Sel.here _) | with_reducible exact Sel.there (Sel.there (Sel.here _)) | with_reducible exact Sel.there (Sel.there (Sel.there (Sel.here _))) | with_reducible exact Sel.there (Sel.there (Sel.there (Sel.there (Sel.here _)))) | with_reducible exact Sel.there (Sel.there (Sel.there (Sel.there (Sel.there (Sel.here _))))) | with_reducible exact Sel.there (Sel.there (Sel.there (Sel.there (Sel.there (Sel.there (Sel.here _)))))) | with_reducible exact Sel.there (Sel.there (Sel.there (Sel.there (Sel.there (Sel.there (Sel.there (Sel.here _))))))) | with_reducible exact Sel.there (Sel.there (Sel.there (Sel.there (Sel.there (Sel.there (Sel.there (Sel.there (Sel.here _)))))))) | with_reducible exact Sel.there (Sel.there (Sel.there (Sel.there (Sel.there (Sel.there (Sel.there (Sel.there (Sel.there (Sel.here _))))))))) | with_reducible exact Sel.there (Sel.there (Sel.there (Sel.there (Sel.there (Sel.there (Sel.there (Sel.there (Sel.there (Sel.there (Sel.here _)))))))))) | with_reducible exact Sel.there (Sel.there (Sel.there (Sel.there (Sel.there (Sel.there (Sel.there (Sel.there (Sel.there (Sel.there (Sel.there (Sel.here _)))))))))))) ?_; rfl) ?_)
      refine sb_sub (Ok.emb (h) (.cons (A := slc 2 s (prs ms)) (by first | with_reducible exact Sel.here _ | with_reducible exact Sel.there (Sel.here _) | with_reducible exact Sel.there (Sel.there (Sel.here _)) | with_reducible exact Sel.there (Sel.there (Sel.there (Sel.here _))) | with_reducible exact Sel.there (Sel.there (Sel.there (Sel.there (Sel.here _)))) | with_reducible exact Sel.there (Sel.there (Sel.there (Sel.there (Sel.there (Sel.here _))))) | with_reducible exact Sel.there (Sel.there (Sel.there (Sel.there (Sel.there (Sel.there (Sel.here _)))))) | with_reducible exact Sel.there (Sel.there (Sel.there (Sel.there (Sel.there (Sel.there (Sel.there (Sel.here _))))))) | with_reducible exact Sel.there (Sel.there (Sel.there (Sel.there (Sel.there (Sel.there (Sel.there (Sel.there (Sel.here _)))))))) | with_reducible exact Sel.there (Sel.there (Sel.there (Sel.there (Sel.there (Sel.there (Sel.there (Sel.there (Sel.there (Sel.here _))))))))) | with_reducible exact Sel.there (Sel.there (Sel.there (Sel.there (Sel.there (Sel.there (Sel.there (Sel.there (Sel.there (Sel.there (Sel.here _)))))))))) | with_reducible exact Sel.there (Sel.there (Sel.there (Sel.there (Sel.there (Sel.there (Sel.there (Sel.there (Sel.there (Sel.there (Sel.there (Sel.here _)))))))))))) (.same _))) (Int.le_refl _) (by omega) (by omega) fun y hy => ?_
      have h := h.slcNew (n := 0) (sz := 2) rfl (by simp)
      refine ef.appendSub slT_rmsg (by decide) (Ok.emb (h) (.cons (A := slc 2 ⟨some ⟨d2, 0, none⟩, 0, 0⟩ []) (by first | with_reducible exact Sel.here _ | with_reducible exact Sel.there (Sel.here _) | with_reducible exact Sel.there (Sel.there (Sel.here _)) | with_reducible exact Sel.there (Sel.there (Sel.there (Sel.here _))) | with_reducible exact Sel.there (Sel.there (Sel.there (Sel.there (Sel.here _)))) | with_reducible exact Sel.there (Sel.there (Sel.there (Sel.there (Sel.there (Sel.here _))))) | with_reducible exact Sel.there (Sel.there (Sel.there (Sel.there (Sel.there (Sel.there (Sel.here _)))))) | with_reducible exact Sel.there (Sel.there (Sel.there (Sel.there (Sel.there (Sel.there (Sel.there (Sel.here _))))))) | with_reducible exact Sel.there (Sel.there (Sel.there (Sel.there (Sel.there (Sel.there (Sel.there (Sel.there (Sel.here _)))))))) | with_reducible exact Sel.there (Sel.there (Sel.there (Sel.there (Sel.there (Sel.there (Sel.there (Sel.there (Sel.there (Sel.here _))))))))) | with_reducible exact Sel.there (Sel.there (Sel.there (Sel.there (Sel.there (Sel.there (Sel.there (Sel.there (Sel.there (Sel.there (Sel.here _)))))))))) | with_reducible exact Sel.there (Sel.there (Sel.there (Sel.there (Sel.there (Sel.there (Sel.there (Sel.there (Sel.there (Sel.there (Sel.there (Sel.here _)))))))))))) (.cons (A := slc 2 s (prs ms)) (by first | with_reducible exact Sel.here _ | with_reducible exact Sel.there (Sel.here _) | with_reducible exact Sel.there (Sel.there (Sel.here _)) | with_reducible exact Sel.there (Sel.there (Sel.there (Sel.here _))) | with_reducible exact Sel.there (Sel.there (Sel.there (Sel.there (Sel.here _)))) | with_reducible exact Sel.there (Sel.there (Sel.there (Sel.there (Sel.there (Sel.here _))))) | with_reducible exact Sel.there (Sel.there (Sel.there (Sel.there (Sel.there (Sel.there (Sel.here _)))))) | with_reducible exact Sel.there (Sel.there (Sel.there (Sel.there (Sel.there (Sel.there (Sel.there (Sel.here _))))))) | with_reducible exact Sel.there (Sel.there (Sel.there (Sel.there (Sel.there (Sel.there (Sel.there (Sel.there (Sel.here _)))))))) | with_reducible exact Sel.there (Sel.there (Sel.there (Sel.there (Sel.there (Sel.there (Sel.there (Sel.there (Sel.there (Sel.here _))))))))) | with_reducible exact Sel.there (Sel.there (Sel.there (Sel.there (Sel.there (Sel.there (Sel.there (Sel.there (Sel.there (Sel.there (Sel.here _)))))))))) | with_reducible exact Sel.there (Sel.there (Sel.there (Sel.there (Sel.there (Sel.there (Sel.there (Sel.there (Sel.there (Sel.there (Sel.there (Sel.here _)))))))))))) (.same _)))) hy (by omega) (by simp only; omega) fun r2 w9 hl2 h => ?_
      refine al.mk h fun d3 w10 h => ?_
      refine ef.append1 (n := 1) slT_rmsg (by decide) (Ok.emb (h) (.cons (A := pts d3 _) (by first | with_reducible exact Sel.here _ | with_reducible exact Sel.there (Sel.here _) | with_reducible exact Sel.there (Sel.there (Sel.here _)) | with_reducible exact Sel.there (Sel.there (Sel.there (Sel.here _))) | with_reducible exact Sel.there (Sel.there (Sel.there (Sel.there (Sel.here _)))) | with_reducible exact Sel.there (Sel.there (Sel.there (Sel.there (Sel.there (Sel.here _))))) | with_reducible exact Sel.there (Sel.there (Sel.there (Sel.there (Sel.there (Sel.there (Sel.here _)))))) | with_reducible exact Sel.there (Sel.there (Sel.there (Sel.there (Sel.there (Sel.there (Sel.there (Sel.here _))))))) | with_reducible exact Sel.there (Sel.there (Sel.there (Sel.there (Sel.there (Sel.there (Sel.there (Sel.there (Sel.here _)))))))) | with_reducible exact Sel.there (Sel.there (Sel.there (Sel.there (Sel.there (Sel.there (Sel.there (Sel.there (Sel.there (Sel.here _))))))))) | with_reducible exact Sel.there (Sel.there (Sel.there (Sel.there (Sel.there (Sel.there (Sel.there (Sel.there (Sel.there (Sel.there (Sel.here _)))))))))) | with_reducible exact Sel.there (Sel.there (Sel.there (Sel.there (Sel.there (Sel.there (Sel.there (Sel.there (Sel.there (Sel.there (Sel.there (Sel.here _)))))))))))) (.cons (A := slc 2 r2 _) (by first | with_reducible exact Sel.here _ | with_reducible exact Sel.there (Sel.here _) | with_reducible exact Sel.there (Sel.there (Sel.here _)) | with_reducible exact Sel.there (Sel.there (Sel.there (Sel.here _))) | with_reducible exact Sel.there (Sel.there (Sel.there (Sel.there (Sel.here _)))) | with_reducible exact Sel.there (Sel.there (Sel.there (Sel.there (Sel.there (Sel.here _))))) | with_reducible exact Sel.there (Sel.there (Sel.there (Sel.there (Sel.there (Sel.there (Sel.here _)))))) | with_reducible exact Sel.there (Sel.there (Sel.there (Sel.there (Sel.there (Sel.there (Sel.there (Sel.here _))))))) | with_reducible exact Sel.there (Sel.there (Sel.there (Sel.there (Sel.there (Sel.there (Sel.there (Sel.there (Sel.here _)))))))) | with_reducible exact Sel.there (Sel.there (Sel.there (Sel.there (Sel.there (Sel.there (Sel.there (Sel.there (Sel.there (Sel.here _))))))))) | with_reducible exact Sel.there (Sel.there (Sel.there (Sel.there (Sel.there (Sel.there (Sel.there (Sel.there (Sel.there (Sel.there (Sel.here _)))))))))) | with_reducible exact Sel.there (Sel.there (Sel.there (Sel.there (Sel.there (Sel.there (Sel.there (Sel.there (Sel.there (Sel.there (Sel.there (Sel.here _)))))))))))) (.same _)))) rfl (one_item (msg, pri)) (by dsimp only at hl2 ⊢; omega) fun r3 w11 hl3 h => ?_
      rw [put_form] at h
      refine nn.mk (ldS.mk (by refine Ok.cellS h (by first | with_reducible exact Sel.here _ | with_reducible exact Sel.there (Sel.here _) | with_reducible exact Sel.there (Sel.there (Sel.here _)) | with_reducible exact Sel.there (Sel.there (Sel.there (Sel.here _))) | with_reducible exact Sel.there (Sel.there (Sel.there (Sel.there (Sel.here _)))) | with_reducible exact Sel.there (Sel.there (Sel.there (Sel.there (Sel.there (Sel.here _))))) | with_reducible exact Sel.there (Sel.there (Sel.there (Sel.there (Sel.there (Sel.there (Sel.here _)))))) | with_reducible exact Sel.there (Sel.there (Sel.there (Sel.there (Sel.there (Sel.there (Sel.there (Sel.here _))))))) | with_reducible exact Sel.there (Sel.there (Sel.there (Sel.there (Sel.there (Sel.there (Sel.there (Sel.there (Sel.here _)))))))) | with_reducible exact Sel.there (Sel.there (Sel.there (Sel.there (Sel.there (Sel.there (Sel.there (Sel.there (Sel.there (Sel.here _))))))))) | with_reducible exact Sel.there (Sel.there (Sel.there (Sel.there (Sel.there (Sel.there (Sel.there (Sel.there (Sel.there (Sel.there (Sel.here _)))))))))) | with_reducible exact Sel.there (Sel.there (Sel.there (Sel.there (Sel.there (Sel.there (Sel.there (Sel.there (Sel.there (Sel.there (Sel.there (Sel.here _)))))))))))) ?_; rfl) ?_)
      refine sb_sub (Ok.emb (h) (.cons (A := slc 2 s (prs ms)) (by first | with_reducible exact Sel.here _ | with_reducible exact Sel.there (Sel.here _) | with_reducible exact Sel.there (Sel.there (Sel.here _)) | with_reducible exact Sel.there (Sel.there (Sel.there (Sel.here _))) | with_reducible exact Sel.there (Sel.there (Sel.there (Sel.there (Sel.here _)))) | with_reducible exact Sel.there (Sel.there (Sel.there (Sel.there (Sel.there (Sel.here _))))) | with_reducible exact Sel.there (Sel.there (Sel.there (Sel.there (Sel.there (Sel.there (Sel.here _)))))) | with_reducible exact Sel.there (Sel.there (Sel.there (Sel.there (Sel.there (Sel.there (Sel.there (Sel.here _))))))) | with_reducible exact Sel.there (Sel.there (Sel.there (Sel.there (Sel.there (Sel.there (Sel.there (Sel.there (Sel.here _)))))))) | with_reducible exact Sel.there (Sel.there (Sel.there (Sel.there (Sel.there (Sel.there (Sel.there (Sel.there (Sel.there (Sel.here _))))))))) | with_reducible exact Sel.there (Sel.there (Sel.there (Sel.there (Sel.there (Sel.there (Sel.there (Sel.there (Sel.there (Sel.there (Sel.here _)))))))))) | with_reducible exact Sel.there (Sel.there (Sel.there (Sel.there (Sel.there (Sel.there (Sel.there (Sel.there (Sel.there (Sel.there (Sel.there (Sel.here _)))))))))))) (.same _))) (by omega) (by omega) (Int.le_refl _) fun z hz => ?_
      refine ef.appendSub slT_rmsg (by decide) (Ok.emb (h) (.cons (A := slc 2 r3 _) (by first | with_reducible exact Sel.here _ | with_reducible exact Sel.there (Sel.here _) | with_reducible exact Sel.there (Sel.there (Sel.here _)) | with_reducible exact Sel.there (Sel.there (Sel.there (Sel.here _))) | with_reducible exact Sel.there (Sel.there (Sel.there (Sel.there (Sel.here _)))) | with_reducible exact Sel.there (Sel.there (Sel.there (Sel.there (Sel.there (Sel.here _))))) | with_reducible exact Sel.there (Sel.there (Sel.there (Sel.there (Sel.there (Sel.there (Sel.here _)))))) | with_reducible exact Sel.there (Sel.there (Sel.there (Sel.there (Sel.there (Sel.there (Sel.there (Sel.here _))))))) | with_reducible exact Sel.there (Sel.there (Sel.there (Sel.there (Sel.there (Sel.there (Sel.there (Sel.there (Sel.here _)))))))) | with_reducible exact Sel.there (Sel.there (Sel.there (Sel.there (Sel.there (Sel.there (Sel.there (Sel.there (Sel.there (Sel.here _))))))))) | with_reducible exact Sel.there (Sel.there (Sel.there (Sel.there (Sel.there (Sel.there (Sel.there (Sel.there (Sel.there (Sel.there (Sel.here _)))))))))) | with_reducible exact Sel.there (Sel.there (Sel.there (Sel.there (Sel.there (Sel.there (Sel.there (Sel.there (Sel.there (Sel.there (Sel.there (Sel.here _)))))))))))) (.cons (A := slc 2 s (prs ms)) (by first | with_reducible exact Sel.here _ | with_reducible exact Sel.there (Sel.here _) | with_reducible exact Sel.there (Sel.there (Sel.here _)) | with_reducible exact Sel.there (Sel.there (Sel.there (Sel.here _))) | with_reducible exact Sel.there (Sel.there (Sel.there (Sel.there (Sel.here _)))) | with_reducible exact Sel.there (Sel.there (Sel.there (Sel.there (Sel.there (Sel.here _))))) | with_reducible exact Sel.there (Sel.there (Sel.there (Sel.there (Sel.there (Sel.there (Sel.here _)))))) | with_reducible exact Sel.there (Sel.there (Sel.there (Sel.there (Sel.there (Sel.there (Sel.there (Sel.here _))))))) | with_reducible exact Sel.there (Sel.there (Sel.there (Sel.there (Sel.there (Sel.there (Sel.there (Sel.there (Sel.here _)))))))) | with_reducible exact Sel.there (Sel.there (Sel.there (Sel.there (Sel.there (Sel.there (Sel.there (Sel.there (Sel.there (Sel.here _))))))))) | with_reducible exact Sel.there (Sel.there (Sel.there (Sel.there (Sel.there (Sel.there (Sel.there (Sel.there (Sel.there (Sel.there (Sel.here _)))))))))) | with_reducible exact Sel.there (Sel.there (Sel.there (Sel.there (Sel.there (Sel.there (Sel.there (Sel.there (Sel.there (Sel.there (Sel.there (Sel.here _)))))))))))) (.same _)))) hz (by omega) (by dsimp only at hl2 hl3 ⊢; omega) fun r4 w12 hl4 h => ?_
      refine nn.mk (st1.mk (Ok.emb (h) (.cons (A := pts b _) (by first | with_reducible exact Sel.here _ | with_reducible exact Sel.there (Sel.here _) | with_reducible exact Sel.there (Sel.there (Sel.here _)) | with_reducible exact Sel.there (Sel.there (Sel.there (Sel.here _))) | with_reducible exact Sel.there (Sel.there (Sel.there (Sel.there (Sel.here _)))) | with_reducible exact Sel.there (Sel.there (Sel.there (Sel.there (Sel.there (Sel.here _))))) | with_reducible exact Sel.there (Sel.there (Sel.there (Sel.there (Sel.there (Sel.there (Sel.here _)))))) | with_reducible exact Sel.there (Sel.there (Sel.there (Sel.there (Sel.there (Sel.there (Sel.there (Sel.here _))))))) | with_reducible exact Sel.there (Sel.there (Sel.there (Sel.there (Sel.there (Sel.there (Sel.there (Sel.there (Sel.here _)))))))) | with_reducible exact Sel.there (Sel.there (Sel.there (Sel.there (Sel.there (Sel.there (Sel.there (Sel.there (Sel.there (Sel.here _))))))))) | with_reducible exact Sel.there (Sel.there (Sel.there (Sel.there (Sel.there (Sel.there (Sel.there (Sel.there (Sel.there (Sel.there (Sel.here _)))))))))) | with_reducible exact Sel.there (Sel.there (Sel.there (Sel.there (Sel.there (Sel.there (Sel.there (Sel.there (Sel.there (Sel.there (Sel.there (Sel.here _)))))))))))) (.same _))) (by simp) fun w13 h => k w13 ?_)
      have e1 : ((prs ms).take (((s.len : Int)).toNat * 2)).drop (((n : Int)).toNat * 2) = prs (ms.drop n) := by
        rw [Int.toNat_natCast, Int.toNat_natCast, List.take_of_length_le (by rw [prs_len]; omega), prs_drop]
      rw [e1, ← prs_append, hnk] at h
      have h : Ok e (boxP b p mp most (putL mp ms (msg, pri)) :: refP p byPri [] :: L) w13 := (Ok.emb (boxI (s := r4) (ms := putL mp ms (msg, pri)) h) (by repeat' (first | with_reducible exact Emb.same _ | exact Emb.nil _ | refine Emb.cons (by first | with_reducible exact Sel.here _ | with_reducible exact Sel.there (Sel.here _) | with_reducible exact Sel.there (Sel.there (Sel.here _)) | with_reducible exact Sel.there (Sel.there (Sel.there (Sel.here _))) | with_reducible exact Sel.there (Sel.there (Sel.there (Sel.there (Sel.here _)))) | with_reducible exact Sel.there (Sel.there (Sel.there (Sel.there (Sel.there (Sel.here _))))) | with_reducible exact Sel.there (Sel.there (Sel.there (Sel.there (Sel.there (Sel.there (Sel.here _)))))) | with_reducible exact Sel.there (Sel.there (Sel.there (Sel.there (Sel.there (Sel.there (Sel.there (Sel.here _))))))) | with_reducible exact Sel.there (Sel.there (Sel.there (Sel.there (Sel.there (Sel.there (Sel.there (Sel.there (Sel.here _)))))))) | with_reducible exact Sel.there (Sel.there (Sel.there (Sel.there (Sel.there (Sel.there (Sel.there (Sel.there (Sel.there (Sel.here _))))))))) | with_reducible exact Sel.there (Sel.there (Sel.there (Sel.there (Sel.there (Sel.there (Sel.there (Sel.there (Sel.there (Sel.there (Sel.here _)))))))))) | with_reducible exact Sel.there (Sel.there (Sel.there (Sel.there (Sel.there (Sel.there (Sel.there (Sel.there (Sel.there (Sel.there (Sel.there (Sel.here _)))))))))))) ?_ | refine Emb.skip ?_)))
      exact h

theorem Recv_ref14 {e w L b p mp most byPri ms l task pri R} (h : Ok e (boxP b p mp most ms :: refP p byPri l :: L) w) (hm : ms.length ≤ 2 ^ 20) (hb : l.length ≤ 2 ^ 20)
    (k : ∀ w', Ok e (boxP b p mp most (recvM byPri ms l task pri).ms :: refP p byPri (recvM byPri ms l task pri).l :: L) w' → R [.int .i64 (recvM byPri ms l task pri).msg, .bool (recvM byPri ms l task pri).ok, .int .i64 (recvM byPri ms l task pri).code] w') : sh16 (some ⟨b, 0, none⟩) task pri R w := by
  unfold sh16
  refine call17 (Poll_ref14 h hm fun w1 h => ⟨((ms.head?.getD (0, 0)).1, !ms.isEmpty, ()), rfl, ?_⟩)
  dsimp only
  cases ms with
  | cons x r => exact cs.yes rfl (k w1 h)
  | nil =>
    refine cs.no rfl ?_
    obtain ⟨s, hs, h⟩ := boxE h
    refine nn.mk (ldP.mk (h.cell rfl) ?_)
    refine call34 (Add_ref4 h.p2 hb fun w2 h => ⟨((addL byPri l task pri).1, ()), rfl, ?_⟩)
    exact k w2 (boxI (s := s) h.q2)

end Go.Proofs.Ytiepcdoknmpemaa.B
