/- A law of layer 19: the two pools answer alike. -/
import Derived.Test.YtnghegppcogdbaaLaws19
import Derived.Test.YtnghegppcogdbaaRef19h
import Derived.Test.YtnghegppcogdbaaSame4
namespace Go.Proofs.Ytnghegppcogdbaa.B
open Go
set_option linter.unusedVariables false

theorem woken_19 {e w L s t o R} (h : Ok e (slc 2 s (prs o) :: slc 2 t (prs o) :: L) w) (hb : o.length ≤ 2 ^ 20) (k : ∀ w', Ok e (slc 2 s (prs o) :: slc 2 t (prs o) :: L) w' → R [.bool true] w') : sh19 s t R w := by
  unfold sh19
  have hs := slc_prs_len h
  have ht := slc_prs_len h.p1
  refine cs.no (by rw [hs, ht]; simp) ?_
  refine lp.mk (fun t1 w' => ∃ n : Nat, t1.1 = (n : Int) ∧ n ≤ o.length ∧ Ok e (slc 2 s (prs o) :: slc 2 t (prs o) :: L) w') (fun t1 _ => o.length - t1.1.toNat) ⟨0, rfl, Nat.zero_le _, h⟩ ?_
  clear h
  rintro ⟨i, _⟩ w1 ⟨n, hn, hn1, h⟩
  dsimp only at hn
  subst hn
  refine cs.mk (fun hlt => ?_) (fun hge => k w1 h)
  have hlt : n < o.length := by have := of_decide_eq_true hlt; dsimp only at this; omega
  have hw : w64 ((n : Int) + 1) = ((n + 1 : Nat) : Int) := by rw [w64_in (by omega) (by omega)]; rfl
  obtain ⟨p, hp⟩ : ∃ p, o[n]? = some p := ⟨_, List.getElem?_eq_getElem hlt⟩
  refine dr.mk h fun w2 h => ?_
  dsimp only
  refine jn.bool (false) (fun J hJ => ?_) ?_
  · refine ix_wok h hp fun c d c1 c2 => ldI.mk (c1 _ ⟨_, h⟩) ?_
    refine ix_wok h.p1 hp fun c' d' c3 c4 => ldI.mk (c3 _ ⟨_, h.p1⟩) ?_
    refine cs.no (by simp) ?_
    refine ix_wok h hp fun c d c1 c2 => ldI.mk (c2 _ ⟨_, h⟩) ?_
    refine ix_wok h.p1 hp fun c' d' c3 c4 => ldI.mk (c4 _ ⟨_, h.p1⟩) ?_
    rw [bne_self_eq_false]
    exact hJ
  refine cs.no rfl ?_
  rw [hw]
  refine ⟨⟨n + 1, rfl, hlt, h⟩, ?_⟩
  show o.length - Int.toNat ((n + 1 : Nat) : Int) < o.length - Int.toNat (n : Int)
  omega

end Go.Proofs.Ytnghegppcogdbaa.B
