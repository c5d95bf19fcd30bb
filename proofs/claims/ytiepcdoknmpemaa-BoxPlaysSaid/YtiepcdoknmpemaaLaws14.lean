/- Laws of layer 14. -/
import Derived.Test.YtiepcdoknmpemaaMbx3
import Derived.Test.YtiepcdoknmpemaaRow
namespace Go.Proofs.Ytiepcdoknmpemaa.B
open Go
set_option linter.unusedVariables false

/-- what a law ends with -/
abbrev LawEnd (e : World) : List Value → World → Prop := fun vs w' => vs = [.bool true] ∧ Ok e [old e] w'

theorem known_14 {e w L R} (h : Ok e L w) (k : ∀ w', Ok e L w' → R [.bool true] w') : sh7 R w := by
  unfold sh7
  refine call8 (New_mbx h (fun h0 => absurd (by decide) h0) fun _ b p w1 h => ⟨(some ⟨b, 0, none⟩, (0 : Int), ()), rfl, ?_⟩)
  refine jn.bool false (fun J hJ => cs.no rfl hJ) ?_
  refine jn.bool false (fun J hJ => cs.no rfl (nn.mk ?_)) ?_
  · obtain ⟨s, hs, h⟩ := boxE h
    exact ldP.mk (h.cell rfl) hJ
  refine cs.no rfl ?_
  refine call9 (Send_mbx h (by decide) (by decide) fun w2 h => ⟨((0 : Int), (0 : Int), ()), rfl, ?_⟩)
  have h : Ok e (boxP b p true 9 [(11, 5)] :: lineP p [.bool false] [] :: L) w2 := h
  refine call9 (Send_mbx h (by decide) (by decide) fun w3 h => ⟨((0 : Int), (0 : Int), ()), rfl, ?_⟩)
  have h : Ok e (boxP b p true 9 [(12, 1), (11, 5)] :: lineP p [.bool false] [] :: L) w3 := h
  refine call12 (Recv_mbx h (by decide) (by decide) fun w4 h => ⟨((12 : Int), true, (0 : Int), ()), rfl, ?_⟩)
  have h : Ok e (boxP b p true 9 [(11, 5)] :: lineP p [.bool false] [] :: L) w4 := h
  refine call9 (Send_mbx h (by decide) (by decide) fun w5 h => ⟨((0 : Int), (-41 : Int), ()), rfl, ?_⟩)
  have h : Ok e (boxP b p true 9 [(11, 5)] :: lineP p [.bool false] [] :: L) w5 := h
  refine call10 (Poll_mbx h (by decide) fun w6 h => ⟨((11 : Int), true, ()), rfl, ?_⟩)
  have h : Ok e (boxP b p true 9 [] :: lineP p [.bool false] [] :: L) w6 := h
  refine call12 (Recv_mbx h (by decide) (by decide) fun w7 h => ⟨((0 : Int), false, (0 : Int), ()), rfl, ?_⟩)
  have h : Ok e (boxP b p true 9 [] :: lineP p [.bool false] [(2, 5)] :: L) w7 := h
  refine call9 (Send_mbx h (by decide) (by decide) fun w8 h => ⟨((2 : Int), (0 : Int), ()), rfl, ?_⟩)
  have h : Ok e (boxP b p true 9 [] :: lineP p [.bool false] [] :: L) w8 := h
  dsimp only
  refine jn.bool true (fun J hJ => cs.yes rfl hJ) ?_
  refine jn.bool true (fun J hJ => cs.yes rfl hJ) ?_
  refine jn.bool true (fun J hJ => cs.yes rfl hJ) ?_
  refine jn.bool true (fun J hJ => cs.yes rfl hJ) ?_
  refine jn.bool true (fun J hJ => cs.yes rfl hJ) ?_
  refine jn.bool true (fun J hJ => cs.yes rfl hJ) ?_
  refine jn.bool true (fun J hJ => cs.yes rfl hJ) ?_
  refine jn.mk fun J hJ => cs.yes rfl ?_
  refine call11 (Messages_mbx h (by decide) fun s w9 hs h => ⟨(s, ()), rfl, hJ _ _ ?_⟩)
  dsimp only
  rw [hs]
  exact k w9 h.drop.drop.drop

theorem BoxRefuses_walk {e : World} {a0 a1 a2 : Int} (_ : (Lit.int .i64 a0).wf = true) (_ : (Lit.int .i64 a1).wf = true) (w2 : (Lit.int .u8 a2).wf = true) : sh4 a0 a1 a2 (LawEnd e) e := by
  unfold sh4
  have h2 := wf_u8 w2
  refine call7 (known_14 (Ok.start e) fun w1 h => ⟨(true, ()), enc_b rfl, ?_⟩)
  refine cs.no rfl ?_
  refine cs.mk (fun _ => ⟨rfl, h⟩) (fun hz => ?_)
  have hz : ¬ a2 = 0 := by simpa using hz
  rw [w64_in (x := a2) (by omega) (by omega)]
  refine call8 (New_mbx h (fun h0 => absurd (by omega) h0) fun _ b p w1 h => ⟨(some ⟨b, 0, none⟩, (0 : Int), ()), rfl, ?_⟩)
  have hs1 : sendM true a2 [] [] 7 1 = ⟨0, 0, [(7, 1)], []⟩ := by
    unfold sendM
    rw [if_neg (by unfold badMsg; omega)]
    rfl
  refine call9 (Send_mbx h (by decide) (by decide) fun w2 h => ⟨((0 : Int), (0 : Int), ()), by rw [hs1]; rfl, ?_⟩)
  rw [hs1] at h
  have hbad : badMsg true a2 a0 a1 ↔ (a0 = 0 ∨ a1 < 1 ∨ a1 > a2) := ⟨fun h3 => h3.elim (fun h4 => .inl h4) (fun h4 => .inr h4.2), fun h3 => h3.elim (fun h4 => .inl h4) (fun h4 => .inr ⟨rfl, h4⟩)⟩
  have hat : 0 ≤ atI [((7 : Int), (1 : Int))] a0 ↔ a0 = 7 := by
    constructor
    · intro h0
      obtain ⟨_, q, hq, hq1⟩ := atI_lt h0
      have := List.mem_of_getElem? hq
      simp at this
      rw [this] at hq1
      exact hq1.symm
    · intro h0
      subst h0
      decide
  refine call9 (Send_mbx h (by simp) (by decide) fun w3 h => ⟨((sendM true a2 [(7, 1)] [] a0 a1).who, (sendM true a2 [(7, 1)] [] a0 a1).code, ()), rfl, ?_⟩)
  have hmsl : (sendM true a2 [(7, 1)] [] a0 a1).ms.length ≤ 2 := by
    unfold sendM
    split
    · simp
    · split
      · simp
      · rw [putL_len]; simp
  refine call11 (Messages_mbx h (Nat.le_trans hmsl (by decide)) fun r w4 hr h => ⟨(r, ()), rfl, ?_⟩)
  dsimp only
  have hend : Ok e [old e] w4 := h.drop.drop.drop
  refine jn.bool (decide (a0 = 0 ∨ a1 < 1)) (fun J hJ => cs.mk (fun h1 => ?_) (fun h1 => ?_)) ?_
  · have h1 := eq_of_beq h1
    rw [decide_eq_true (.inl h1)] at hJ
    exact hJ
  · have h1 : ¬ a0 = 0 := by simpa using h1
    rw [show decide (a1 < 1) = decide (a0 = 0 ∨ a1 < 1) from decide_eq_decide.2 (by omega)]
    exact hJ
  refine jn.bool (decide (a0 = 0 ∨ a1 < 1 ∨ a1 > a2)) (fun J hJ => cs.mk (fun h1 => ?_) (fun h1 => ?_)) ?_
  · have h1 := of_decide_eq_true h1
    rw [decide_eq_true (by omega)] at hJ
    exact hJ
  · have h1 := of_decide_eq_false h1
    rw [show decide (a1 > a2) = decide (a0 = 0 ∨ a1 < 1 ∨ a1 > a2) from decide_eq_decide.2 (by omega)]
    exact hJ
  dsimp only
  refine cs.mk (fun h1 => ?_) (fun h1 => ?_)
  · have h1 := hbad.2 (of_decide_eq_true h1)
    have he : sendM true a2 [(7, 1)] [] a0 a1 = ⟨0, -17, [(7, 1)], []⟩ := by unfold sendM; rw [if_pos h1]
    rw [he] at hr ⊢
    have hr : r.len = 1 := hr
    refine jn.bool true (fun J hJ => cs.yes rfl hJ) ?_
    refine jn.bool true (fun J hJ => cs.yes rfl (by simpa [hr] using hJ)) ?_
    exact ⟨rfl, hend⟩
  have h1 : ¬ badMsg true a2 a0 a1 := fun h3 => of_decide_eq_false h1 (hbad.1 h3)
  refine cs.mk (fun h7 => ?_) (fun h7 => ?_)
  · have h7 := eq_of_beq h7
    have he : sendM true a2 [(7, 1)] [] a0 a1 = ⟨0, -41, [(7, 1)], []⟩ := by unfold sendM; rw [if_neg h1, if_pos (hat.2 h7)]
    rw [he] at hr ⊢
    have hr : r.len = 1 := hr
    refine jn.bool true (fun J hJ => cs.yes rfl hJ) ?_
    refine jn.bool true (fun J hJ => cs.yes rfl (by simpa [hr] using hJ)) ?_
    exact ⟨rfl, hend⟩
  · have h7 : ¬ a0 = 7 := by simpa using h7
    have hk : putL true [((7 : Int), (1 : Int))] (a0, a1) = [(7, 1), (a0, a1)] := by
      have hb1 : ¬ a1 < 1 := fun h3 => h1 (hbad.2 (.inr (.inl h3)))
      have : putK true [((7 : Int), (1 : Int))] a1 = 1 := by
        show (if a1 < 1 then pp _ a1 0 else 0 + 1) = 1
        rw [if_neg hb1]
      simp [putL, this]
    have he : sendM true a2 [(7, 1)] [] a0 a1 = ⟨0, 0, [(7, 1), (a0, a1)], []⟩ := by unfold sendM; rw [if_neg h1, if_neg (fun h3 => h7 (hat.1 h3))]; simp only [hk]
    rw [he] at hr h ⊢
    have hr : r.len = 2 := hr
    refine jn.bool true (fun J hJ => cs.yes rfl hJ) ?_
    refine jn.bool true (fun J hJ => cs.yes rfl (by simpa [hr] using hJ)) ?_
    refine jn.bool true (fun J hJ => cs.yes rfl ?_) ?_
    · refine ix_int h (by decide) (by omega) fun c o x hx hc => ldI.mk (hc _ ⟨_, h⟩) ?_
      simp at hx
      subst hx
      exact hJ
    refine jn.bool true (fun J hJ => cs.yes rfl ?_) ?_
    · refine ix_int h (by decide) (by omega) fun c o x hx hc => ldI.mk (hc _ ⟨_, h⟩) ?_
      simp at hx
      subst hx
      simpa using hJ
    exact ⟨rfl, hend⟩

end Go.Proofs.Ytiepcdoknmpemaa.B
