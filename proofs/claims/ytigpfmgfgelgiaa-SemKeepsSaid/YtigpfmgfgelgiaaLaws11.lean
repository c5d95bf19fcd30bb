/- Laws of layer 11. -/
import Derived.Test.YtigpfmgfgelgiaaSem11
import Derived.Test.YtigpfmgfgelgiaaRow
namespace Go.Proofs.Ytigpfmgfgelgiaa.B
open Go
set_option linter.unusedVariables false

/-- what a law ends with -/
abbrev LawEnd (e : World) : List Value → World → Prop := fun vs w' => vs = [.bool true] ∧ Ok e [old e] w'

theorem known_11 {e w L R} (h : Ok e L w) (k : ∀ w', Ok e L w' → R [.bool true] w') : sh7 R w := by
  unfold sh7
  refine call8 (New_sem h (fun h0 => absurd (by decide) h0) fun _ s p w1 h => ⟨(some ⟨s, 0, none⟩, (0 : Int), ()), rfl, ?_⟩)
  refine jn.bool false (fun J hJ => cs.no rfl hJ) ?_
  refine jn.bool false (fun J hJ => cs.no rfl (nn.mk (ldP.mk (h.cell rfl) hJ))) ?_
  refine cs.no rfl ?_
  refine call12 (Wait_sem h (by decide) (by decide) fun w2 h => ⟨(true, (0 : Int), ()), rfl, ?_⟩)
  have h : Ok e (pts s (semC p 0 1) :: lineP p [.bool false] [] :: L) w2 := h
  refine call12 (Wait_sem h (by decide) (by decide) fun w3 h => ⟨(false, (0 : Int), ()), rfl, ?_⟩)
  have h : Ok e (pts s (semC p 0 1) :: lineP p [.bool false] [(2, 5)] :: L) w3 := h
  refine call9 (Signal_sem h (by decide) (by decide) fun w4 h => ⟨((2 : Int), (0 : Int), ()), rfl, ?_⟩)
  have h : Ok e (pts s (semC p 0 1) :: lineP p [.bool false] [] :: L) w4 := h
  refine call9 (Signal_sem h (by decide) (by decide) fun w5 h => ⟨((0 : Int), (0 : Int), ()), rfl, ?_⟩)
  have h : Ok e (pts s (semC p 1 1) :: lineP p [.bool false] [] :: L) w5 := h
  refine call9 (Signal_sem h (by decide) (by decide) fun w6 h => ⟨((0 : Int), (-43 : Int), ()), rfl, ?_⟩)
  have h : Ok e (pts s (semC p 1 1) :: lineP p [.bool false] [] :: L) w6 := h
  refine call8 (New_sem h (fun h0 => ⟨(none, (-17 : Int), ()), rfl, ?_⟩) fun h0 => absurd h0 (by decide))
  dsimp only
  refine jn.bool true (fun J hJ => cs.yes rfl hJ) ?_
  refine jn.bool true (fun J hJ => cs.yes rfl hJ) ?_
  refine jn.bool true (fun J hJ => cs.yes rfl hJ) ?_
  refine jn.bool true (fun J hJ => cs.yes rfl hJ) ?_
  refine jn.bool true (fun J hJ => cs.yes rfl (nn.mk (ldI.mk (h.cell rfl) hJ))) ?_
  refine jn.bool true (fun J hJ => cs.yes rfl (nn.mk (ldI.mk (h.cell rfl) hJ))) ?_
  refine jn.bool true (fun J hJ => cs.yes rfl hJ) ?_
  refine jn.bool true (fun J hJ => cs.yes rfl (nn.mk (ldP.mk (h.cell rfl) (nn.mk ?_)))) ?_
  · refine call10 (Len_order h.p1 ⟨((0 : Int), ()), rfl, hJ⟩)
  exact k w6 h.drop.drop

theorem SemBounds_walk {e : World} {a0 a1 : Int} (_ : (Lit.int .i64 a0).wf = true) (_ : (Lit.int .i64 a1).wf = true) : sh5 a0 a1 (LawEnd e) e := by
  unfold sh5
  refine call7 (known_11 (Ok.start e) fun w1 h => ⟨(true, ()), enc_b rfl, ?_⟩)
  refine cs.no rfl ?_
  refine jn.bool (decide (a1 < 1 ∨ a1 > 300)) (fun J hJ => cs.mk (fun h1 => ?_) (fun h1 => ?_)) ?_
  · have h1 := of_decide_eq_true h1
    rw [decide_eq_true (.inl h1)] at hJ
    exact hJ
  · have h1 := of_decide_eq_false h1
    simpa [h1] using hJ
  refine jn.bool (decide (a1 < 1 ∨ a1 > 300 ∨ a0 < 0)) (fun J hJ => cs.mk (fun h1 => ?_) (fun h1 => ?_)) ?_
  · have h1 := of_decide_eq_true h1
    rw [decide_eq_true (by omega)] at hJ
    exact hJ
  · have h1 := of_decide_eq_false h1
    rw [show decide (a0 < 0) = decide (a1 < 1 ∨ a1 > 300 ∨ a0 < 0) from decide_eq_decide.2 (by omega)]
    exact hJ
  refine jn.bool (decide (a1 < 1 ∨ a1 > 300 ∨ a0 < 0 ∨ a0 > a1)) (fun J hJ => cs.mk (fun h1 => ?_) (fun h1 => ?_)) ?_
  · have h1 := of_decide_eq_true h1
    rw [decide_eq_true (by omega)] at hJ
    exact hJ
  · have h1 := of_decide_eq_false h1
    rw [show decide (a0 > a1) = decide (a1 < 1 ∨ a1 > 300 ∨ a0 < 0 ∨ a0 > a1) from decide_eq_decide.2 (by omega)]
    exact hJ
  refine cs.mk (fun h1 => ⟨rfl, h⟩) (fun h1 => ?_)
  have h1 := of_decide_eq_false h1
  have hok : ∀ c, a0 ≤ c → c ≤ a1 → semOk c a1 := fun c _ _ => by unfold semOk; omega
  refine call8 (New_sem h (fun h0 => absurd (hok a0 (Int.le_refl _) (by omega)) h0) fun _ s p w2 h => ⟨(some ⟨s, 0, none⟩, (0 : Int), ()), rfl, ?_⟩)
  refine cs.no rfl ?_
  refine lp.mk (fun t w' => ∃ c : Int, t.1 = c ∧ a0 ≤ c ∧ c ≤ a1 ∧ Ok e [pts s (semC p c a1), lineP p [.bool true] [], old e] w') (fun t _ => Int.toNat (Int.sub a1 t.1)) ⟨a0, rfl, Int.le_refl _, by omega, h⟩ ?_
  clear h
  rintro ⟨(i : Int), _⟩ w3 ⟨c, hi, hc0, hc1, h⟩
  dsimp only at hi
  subst hi
  refine cs.mk (fun hlt => ?_) (fun hge => ?_)
  · have hlt : i < a1 := of_decide_eq_true hlt
    have hs : sigM i a1 [] = ⟨0, 0, i + 1, []⟩ := by simp only [sigM]; rw [if_neg (by omega)]
    refine call9 (Signal_sem h (by decide) (hok i hc0 hc1) fun w4 h => ⟨((0 : Int), (0 : Int), ()), by rw [hs]; rfl, ?_⟩)
    rw [hs] at h
    dsimp only
    refine jn.bool false (fun J hJ => cs.no rfl hJ) ?_
    refine cs.no rfl ?_
    have hw : w64 (i + 1) = i + 1 := w64_in (by omega) (by omega)
    rw [hw]
    refine ⟨⟨i + 1, rfl, by omega, by omega, h⟩, ?_⟩
    show (a1 - (i + 1)).toNat < (a1 - i).toNat
    omega
  · have hge : i = a1 := by have : ¬ i < a1 := of_decide_eq_false hge
                            omega
    subst hge
    have hs : sigM i i [] = ⟨0, -43, i, []⟩ := by simp only [sigM]; rw [if_pos (by omega)]
    refine call9 (Signal_sem h (by decide) (hok i hc0 hc1) fun w4 h => ⟨((0 : Int), (-43 : Int), ()), by rw [hs]; rfl, ?_⟩)
    rw [hs] at h
    refine lp.mk (fun t w' => ∃ n : Int, t.1 = n ∧ 0 ≤ n ∧ n ≤ i ∧ Ok e [pts s (semC p (i - n) i), lineP p [.bool true] [], old e] w') (fun t _ => Int.toNat (Int.sub i t.1)) ⟨0, rfl, Int.le_refl _, by omega, by rw [Int.sub_zero]; exact h⟩ ?_
    clear h
    rintro ⟨(n : Int), _⟩ w5 ⟨n', hn, hn0, hn1, h⟩
    dsimp only at hn
    subst hn
    refine call13 (Poll_sem h (by unfold semOk; omega) fun w6 h => ⟨(decide (0 < i - n), ()), rfl, ?_⟩)
    dsimp only
    refine cs.mk (fun hp => ?_) (fun hp => ?_)
    · have hp := of_decide_eq_true hp
      have hw : w64 (n + 1) = n + 1 := w64_in (by omega) (by omega)
      rw [hw]
      rw [if_neg (by omega)] at h
      refine cs.no (by simp; omega) ?_
      refine ⟨⟨n + 1, rfl, by omega, by omega, by rw [show i - (n + 1) = i - n - 1 by omega]; exact h⟩, ?_⟩
      show (i - (n + 1)).toNat < (i - n).toNat
      omega
    · have hp := of_decide_eq_false hp
      have hn2 : n = i := by omega
      subst hn2
      rw [Int.sub_self] at h
      refine jn.bool true (fun J hJ => cs.yes rfl ?_) ?_
      · simpa using hJ
      refine jn.bool true (fun J hJ => cs.yes rfl (nn.mk (ldI.mk (h.cell rfl) hJ))) ?_
      exact ⟨rfl, h.drop.drop⟩

end Go.Proofs.Ytigpfmgfgelgiaa.B
