/- The laws' comparisons of the two queues. -/
import Derived.Test.YtnghegppcogdbaaRef4
namespace Go.Proofs.Ytnghegppcogdbaa.B
open Go
set_option linter.unusedVariables false

theorem Row_4 {e w L s t l R} (h : Ok e (slc 2 s (prs l) :: slc 2 t (prs l) :: L) w) (hb : l.length ≤ 2 ^ 31) (k : ∀ w', Ok e (slc 2 s (prs l) :: slc 2 t (prs l) :: L) w' → R [.bool true] w') : sh56 s t R w := by
  unfold sh56
  have hs := slc_prs_len h
  have ht := slc_prs_len h.p1
  refine cs.no (by simp; omega) ?_
  refine lp.mk (fun t1 w1 => ∃ n : Nat, t1.1 = (n : Int) ∧ n ≤ l.length ∧ Ok e (slc 2 s (prs l) :: slc 2 t (prs l) :: L) w1) (fun t1 _ => l.length - t1.1.toNat) ⟨0, rfl, Nat.zero_le _, h⟩ ?_
  rintro ⟨i, _⟩ w1 ⟨n, hn, hnl, h⟩
  dsimp only at hn
  subst hn
  refine cs.mk (fun hlt => ?_) (fun hge => k w1 h)
  have hlt : n < l.length := by have := of_decide_eq_true hlt; dsimp only at this; omega
  refine dr.mk h fun w2 h => ?_
  refine jn.bool false (fun J hJ => ?_) ?_
  · refine ix_pr h (by simp) (by simpa using hlt) fun b o p hp ha ho hc1 hc2 => ldI.mk (hc1 _ ⟨_, h⟩) ?_
    refine ix_pr h.p1 (by simp) (by simpa using hlt) fun b' o' p' hp' ha' ho' hc1' hc2' => ldI.mk (hc1' _ ⟨_, h.p1⟩) ?_
    rw [hp] at hp'
    cases hp'
    refine cs.no (by simp) ?_
    refine ix_pr h (by simp) (by simpa using hlt) fun b o p2 hp2 ha ho hc1 hc2 => ldI.mk (hc2 _ ⟨_, h⟩) ?_
    refine ix_pr h.p1 (by simp) (by simpa using hlt) fun b' o' p' hp' ha' ho' hc1' hc2' => ldI.mk (hc2' _ ⟨_, h.p1⟩) ?_
    rw [hp] at hp' hp2
    cases hp'
    cases hp2
    simpa using hJ
  refine cs.no rfl ?_
  refine ⟨⟨n + 1, ?_, hlt, h⟩, ?_⟩
  · show w64 _ = _
    rw [w64_in (by omega) (by omega)]; rfl
  · show _ - (w64 _).toNat < _ - Int.toNat _
    rw [w64_in (by omega) (by omega)]
    omega

theorem Same_4 {e w L p q byPri l R} (h : Ok e (lineP p [.bool byPri] l :: refP q byPri l :: L) w) (hb : l.length ≤ 2 ^ 20) (k : ∀ w', Ok e (lineP p [.bool byPri] l :: refP q byPri l :: L) w' → R [.bool true] w') : sh28 (some ⟨p, 0, none⟩) (some ⟨q, 0, none⟩) R w := by
  unfold sh28
  refine dr.mk h fun w1 h => ?_
  refine jn.at (false, ()) (fun w' => Ok e (lineP p [.bool byPri] l :: refP q byPri l :: L) w') (fun J hJ => ?_) (fun w2 h => ?_)
  · obtain ⟨s, hs, h⟩ := refE h.p1
    refine nn.mk (nn.mk (ldS.mk (h.cell rfl) ?_))
    refine call57 (Row_order h.p2 (by omega) fun r w2 hr h => ⟨(r, ()), rfl, h.p2.cell rfl, ?_⟩)
    refine call56 (Row_4 h.p3.p1 (by omega) fun w3 h => ⟨(true, ()), rfl, ?_⟩)
    refine cs.no rfl (nn.mk (nn.mk (ldS.mk (h.p3.cell rfl) ?_)))
    refine call14 (Len_order h.p2 ⟨((l.length : Int), ()), rfl, h.p3.cell rfl, ?_⟩)
    dsimp only
    rw [show ((l.length : Int) != ((s.len : Int) : Int)) = false by simp; omega]
    exact hJ _ (Ok.p1 (refI (s := s) h.drop.p2))
  refine cs.no rfl (nn.mk ?_)
  refine call58 (First_order h fun w3 h => ⟨(((l.head?.getD (0, 0)).1, (l.head?.getD (0, 0)).2, ()), !l.isEmpty, ()), rfl, ?_⟩)
  refine al.mk h fun b w4 h => st1.mk h (by simp) fun w5 h => st1.mk h (by simp) fun w6 h => dr.mk h fun w7 h => ?_
  have h : Ok e (pts b [.int .i64 (l.head?.getD (0, 0)).1, .int .i64 (l.head?.getD (0, 0)).2] :: lineP p [.bool byPri] l :: refP q byPri l :: L) w7 := h
  dsimp only
  refine jn.bool false (fun J hJ => ?_) ?_
  · obtain ⟨s, hs, h⟩ := refE h.p2
    refine nn.mk (ldS.mk (h.cell rfl) ?_)
    cases l with
    | nil =>
      refine cs.no (by simp [hs]) (cs.no rfl (cs.yes rfl (ldI.mk (h.p2.cell rfl) (cs.no rfl (ldI.mk (h.p2.cell rfl) hJ)))))
    | cons x r =>
      have hpos : 0 < s.len := by simp at hs; omega
      refine cs.no (by simp; omega) (cs.yes rfl (ldI.mk (h.p2.cell rfl) (nn.mk (ldS.mk (h.cell rfl) ?_))))
      refine ix_pr h.p1 (by omega) (by simp) fun b1 o1 p1 hp1 ha1 ho1 hc1 hc2 => ldI.mk (hc1 _ ⟨_, h.p1⟩) ?_
      simp at hp1
      subst hp1
      refine cs.no (by simp) (ldI.mk (h.p2.cell rfl) (nn.mk (ldS.mk (h.cell rfl) ?_)))
      refine ix_pr h.p1 (by omega) (by simp) fun b1 o1 p1 hp1 ha1 ho1 hc1 hc2 => ldI.mk (hc2 _ ⟨_, h.p1⟩) ?_
      simp at hp1
      subst hp1
      exact cs.no (by simp) (cs.no rfl hJ)
  refine cs.no rfl ?_
  have h := h.drop
  refine lp.mk (fun t w' => (0 : Int) ≤ id (α := Int) t.1 ∧ id (α := Int) t.1 ≤ 18 ∧ Ok e (lineP p [.bool byPri] l :: refP q byPri l :: L) w') (fun t _ => 18 - t.1.toNat) ⟨Int.le_refl _, by decide, h⟩ ?_
  rintro ⟨(i : Int), _⟩ w8 ⟨hi0, hi1, h⟩
  simp only [id] at hi0 hi1
  refine cs.mk (fun hlt => ?_) (fun hge => k w8 h)
  have hlt : i ≤ 17 := by simpa using hlt
  dsimp only
  refine call50 (At_ref4 h.p1 (by omega) ⟨(atI l i, ()), rfl, ?_⟩)
  refine nn.mk ?_
  refine call59 (Pri_order h (by omega) fun w9 h => ⟨(priL l i, decide (0 ≤ atI l i), ()), rfl, ?_⟩)
  refine nn.mk ?_
  refine call60 (Has_order h (by omega) fun w10 h => ⟨(decide (0 ≤ atI l i), ()), rfl, ?_⟩)
  dsimp only
  refine jn.bool false (fun J hJ => ?_) ?_
  · refine cs.no (by simp) ?_
    simpa using hJ
  refine jn.bool false (fun J hJ => ?_) ?_
  · refine cs.no rfl ?_
    refine jn.bool false (fun J2 hJ2 => cs.mk (fun hg => ?_) (fun _ => hJ2)) hJ
    have hg := of_decide_eq_true hg
    obtain ⟨hlt2, pr, hp, hp1⟩ := atI_lt (by omega : 0 ≤ atI l i)
    obtain ⟨s, hs, h⟩ := refE h.p1
    refine nn.mk (ldS.mk (h.cell rfl) ?_)
    refine ix_pr h.p1 (by omega) (by omega) fun b1 o1 p1 hp1 ha1 ho1 hc1 hc2 => ldI.mk (hc2 _ ⟨_, h.p1⟩) ?_
    rw [hp] at hp1
    cases hp1
    rw [show priL l i = pr.2 by rw [priL, if_neg (by omega), hp]; rfl]
    simpa using hJ2
  refine jn.bool false (fun J hJ => ?_) ?_
  · refine cs.no rfl ?_
    refine jn.bool false (fun J2 hJ2 => cs.mk (fun hg => ?_) (fun _ => hJ2)) hJ
    have hg := of_decide_eq_true hg
    rw [show priL l i = 0 by rw [priL, if_pos hg]]
    exact hJ2
  refine cs.no rfl ?_
  have hw : w64 (i + 1) = i + 1 := w64_in (by omega) (by omega)
  rw [hw]
  refine ⟨⟨?_, ?_, h⟩, ?_⟩
  · show 0 ≤ i + 1; omega
  · show i + 1 ≤ 18; omega
  · show 18 - Int.toNat _ < 18 - Int.toNat _; omega

end Go.Proofs.Ytnghegppcogdbaa.B
