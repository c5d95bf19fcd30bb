/- The laws of layer 23 over the contracts. -/
import Derived.Test.YtbpdkchglmpnkaaCtx2
import Derived.Test.YtbpdkchglmpnkaaLaw
namespace Go.Proofs.Ytbpdkchglmpnkaa.B
open Go
set_option linter.unusedVariables false

/-- what a law ends with -/
abbrev LawEnd (e : World) : List Value → World → Prop := fun vs w' => vs = [.bool true] ∧ Ok e [old e] w'

theorem May_ref23 {e w L p m kd idle R} (h : Ok e (placeP p m :: L) w) (k : R [.int .i64 (m.may kd idle)] w) : sh24 (some ⟨p, 0, none⟩) kd idle R w := by
  unfold sh24
  refine call20 (In_ref23 h ⟨(m.inn, ()), rfl, ?_⟩)
  dsimp only
  have h0 := h
  obtain ⟨s, hs, h⟩ := placeE h
  refine jn.bool (!m.inn && !idle) (fun J hJ => cs.mk (fun h1 => ?_) (fun h1 => ?_)) ?_
  · simpa [show m.inn = false by simpa using h1] using hJ
  · simpa [show m.inn = true by simpa using h1] using hJ
  dsimp only
  refine jn.bool (m.ok kd idle) (fun J hJ => ?_) ?_
  · rw [PlaceM.ok] at hJ
    refine cs.mk (fun n0 => ?_) (fun n0 => ?_)
    · rw [if_pos (by simpa using n0)] at hJ; exact hJ
    rw [if_neg (by simpa using n0)] at hJ
    refine jn.bool (m.ok4 kd idle) (fun J1 hJ1 => ?_) hJ
    rw [PlaceM.ok4] at hJ1
    refine cs.mk (fun n1 => ?_) (fun n1 => ?_)
    · rw [if_pos (by simpa using n1)] at hJ1; exact hJ1
    rw [if_neg (by simpa using n1)] at hJ1
    refine jn.bool (m.ok1 kd idle) (fun J2 hJ2 => ?_) hJ1
    rw [PlaceM.ok1] at hJ2
    refine cs.mk (fun n2 => ?_) (fun n2 => ?_)
    · rw [if_pos (by simpa using n2)] at hJ2
      refine jn.bool ((!m.inn && !idle) && !m.locked) (fun J3 hJ3 => cs.mk (fun h1 => ?_) (fun h1 => ?_)) hJ2
      · repeat (first | refine nn.mk ?_ | refine ldI.mk (by first | exact h.cell rfl | exact h.p1.cell rfl | exact h.p2.cell rfl | exact h.p3.cell rfl | exact h.p4.cell rfl) ?_ | refine ldB.mk (by first | exact h.cell rfl | exact h.p1.cell rfl | exact h.p2.cell rfl | exact h.p3.cell rfl | exact h.p4.cell rfl) ?_ | refine ldP.mk (by first | exact h.cell rfl | exact h.p1.cell rfl | exact h.p2.cell rfl | exact h.p3.cell rfl | exact h.p4.cell rfl) ?_ | refine ldS.mk (by first | exact h.cell rfl | exact h.p1.cell rfl | exact h.p2.cell rfl | exact h.p3.cell rfl | exact h.p4.cell rfl) ?_ | refine ldM.mk (by first | exact h.cell rfl | exact h.p1.cell rfl | exact h.p2.cell rfl | exact h.p3.cell rfl | exact h.p4.cell rfl) ?_)
        simpa [h1] using hJ3
      · simpa [h1] using hJ3
    rw [if_neg (by simpa using n2)] at hJ2
    refine jn.bool (m.ok2 kd idle) (fun J3 hJ3 => ?_) hJ2
    rw [PlaceM.ok2] at hJ3
    refine cs.mk (fun n3 => ?_) (fun n3 => ?_)
    · rw [if_pos (by simpa using n3)] at hJ3
      refine jn.bool ((!m.inn && !idle) && !m.locked) (fun J4 hJ4 => cs.mk (fun h1 => ?_) (fun h1 => ?_)) ?_
      · repeat (first | refine nn.mk ?_ | refine ldI.mk (by first | exact h.cell rfl | exact h.p1.cell rfl | exact h.p2.cell rfl | exact h.p3.cell rfl | exact h.p4.cell rfl) ?_ | refine ldB.mk (by first | exact h.cell rfl | exact h.p1.cell rfl | exact h.p2.cell rfl | exact h.p3.cell rfl | exact h.p4.cell rfl) ?_ | refine ldP.mk (by first | exact h.cell rfl | exact h.p1.cell rfl | exact h.p2.cell rfl | exact h.p3.cell rfl | exact h.p4.cell rfl) ?_ | refine ldS.mk (by first | exact h.cell rfl | exact h.p1.cell rfl | exact h.p2.cell rfl | exact h.p3.cell rfl | exact h.p4.cell rfl) ?_ | refine ldM.mk (by first | exact h.cell rfl | exact h.p1.cell rfl | exact h.p2.cell rfl | exact h.p3.cell rfl | exact h.p4.cell rfl) ?_)
        simpa [h1] using hJ4
      · simpa [h1] using hJ4
      dsimp only
      refine jn.bool (((!m.inn && !idle) && !m.locked) && !m.disabled) (fun J4 hJ4 => cs.mk (fun h1 => ?_) (fun h1 => ?_)) hJ3
      · repeat (first | refine nn.mk ?_ | refine ldI.mk (by first | exact h.cell rfl | exact h.p1.cell rfl | exact h.p2.cell rfl | exact h.p3.cell rfl | exact h.p4.cell rfl) ?_ | refine ldB.mk (by first | exact h.cell rfl | exact h.p1.cell rfl | exact h.p2.cell rfl | exact h.p3.cell rfl | exact h.p4.cell rfl) ?_ | refine ldP.mk (by first | exact h.cell rfl | exact h.p1.cell rfl | exact h.p2.cell rfl | exact h.p3.cell rfl | exact h.p4.cell rfl) ?_ | refine ldS.mk (by first | exact h.cell rfl | exact h.p1.cell rfl | exact h.p2.cell rfl | exact h.p3.cell rfl | exact h.p4.cell rfl) ?_ | refine ldM.mk (by first | exact h.cell rfl | exact h.p1.cell rfl | exact h.p2.cell rfl | exact h.p3.cell rfl | exact h.p4.cell rfl) ?_)
        simpa [h1] using hJ4
      · simpa [h1] using hJ4
    rw [if_neg (by simpa using n3)] at hJ3
    refine jn.bool (m.ok3 kd) (fun J4 hJ4 => ?_) hJ3
    rw [PlaceM.ok3] at hJ4
    refine cs.mk (fun n4 => ?_) (fun n4 => ?_)
    · rw [if_pos (by simpa using n4)] at hJ4
      refine call20 (In_ref23 h0 ⟨(m.inn, ()), rfl, ?_⟩)
      dsimp only
      refine jn.bool (m.inn && !m.locked) (fun J5 hJ5 => cs.mk (fun h1 => ?_) (fun h1 => ?_)) hJ4
      · repeat (first | refine nn.mk ?_ | refine ldI.mk (by first | exact h.cell rfl | exact h.p1.cell rfl | exact h.p2.cell rfl | exact h.p3.cell rfl | exact h.p4.cell rfl) ?_ | refine ldB.mk (by first | exact h.cell rfl | exact h.p1.cell rfl | exact h.p2.cell rfl | exact h.p3.cell rfl | exact h.p4.cell rfl) ?_ | refine ldP.mk (by first | exact h.cell rfl | exact h.p1.cell rfl | exact h.p2.cell rfl | exact h.p3.cell rfl | exact h.p4.cell rfl) ?_ | refine ldS.mk (by first | exact h.cell rfl | exact h.p1.cell rfl | exact h.p2.cell rfl | exact h.p3.cell rfl | exact h.p4.cell rfl) ?_ | refine ldM.mk (by first | exact h.cell rfl | exact h.p1.cell rfl | exact h.p2.cell rfl | exact h.p3.cell rfl | exact h.p4.cell rfl) ?_)
        simpa [h1] using hJ5
      · simpa [h1] using hJ5
    · rw [if_neg (by simpa using n4)] at hJ4; exact hJ4
  dsimp only
  unfold PlaceM.may at k
  refine cs.mk (fun h1 => ?_) (fun h1 => ?_)
  · rw [h1] at k; exact k
  · rw [h1] at k; exact k

theorem known_23 {e w L R} (h : Ok e L w) (k : ∀ w', Ok e L w' → R [.bool true] w') : sh7 R w := by
  unfold sh7
  refine call8 (New_ctx h fun p w1 h => ⟨(some ⟨p, 0, none⟩, ()), rfl, ?_⟩)
  dsimp only
  refine cs.no rfl ?_
  refine call16 (May_ctx h ⟨((0 : Int), ()), enc_i (by decide), ?_⟩)
  dsimp only
  refine call9 (Enter_ctx h (by decide) fun w2 h => ⟨((0 : Int), ()), enc_i (by decide), ?_⟩)
  dsimp only
  have h : Ok e (placeP p ⟨[3], false, false⟩ :: L) w2 := h
  refine call9 (Enter_ctx h (by decide) fun w3 h => ⟨((-25 : Int), ()), enc_i (by decide), ?_⟩)
  dsimp only
  have h : Ok e (placeP p ⟨[3], false, false⟩ :: L) w3 := h
  refine call16 (May_ctx h ⟨((-25 : Int), ()), enc_i (by decide), ?_⟩)
  dsimp only
  refine call16 (May_ctx h ⟨((0 : Int), ()), enc_i (by decide), ?_⟩)
  dsimp only
  refine nn.mk ?_
  refine call10 (In_ctx h ⟨(true, ()), enc_b (by decide), ?_⟩)
  dsimp only
  refine call12 (Exit_ctx h (by decide) fun w4 h => ⟨((0 : Int), ()), enc_i (by decide), ?_⟩)
  dsimp only
  have h : Ok e (placeP p ⟨[], false, false⟩ :: L) w4 := h
  refine call12 (Exit_ctx h (by decide) fun w5 h => ⟨((-25 : Int), ()), enc_i (by decide), ?_⟩)
  dsimp only
  have h : Ok e (placeP p ⟨[], false, false⟩ :: L) w5 := h
  refine jn.mk fun J hJ => cs.yes (by decide) (hJ _ _ ?_)
  refine jn.mk fun J hJ => cs.yes (by decide) (hJ _ _ ?_)
  refine jn.mk fun J hJ => cs.yes (by decide) (hJ _ _ ?_)
  refine jn.mk fun J hJ => cs.yes (by decide) (hJ _ _ ?_)
  refine jn.mk fun J hJ => cs.yes (by decide) ?_
  refine nn.mk ?_
  refine call11 (Dispatch_ctx h ⟨(true, ()), enc_b (by decide), ?_⟩)
  dsimp only
  refine hJ _ _ ?_
  dsimp only
  refine jn.mk fun J hJ => cs.yes (by decide) ?_
  refine nn.mk ?_
  refine call14 (Levels_ctx h (by decide) fun s w6 hs h => ⟨(s, ()), rfl, ?_⟩)
  dsimp only
  refine hJ _ _ ?_
  dsimp only
  rw [hs]
  exact k w6 h.drop.drop

end Go.Proofs.Ytbpdkchglmpnkaa.B
