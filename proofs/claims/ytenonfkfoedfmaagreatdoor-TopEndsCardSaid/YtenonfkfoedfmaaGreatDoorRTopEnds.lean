/-
  The card of TopEnds: the walk of the text EndW, under the row of this law, tied. Printed by a program of ours.
-/
import Derived.Test.YtenonfkfoedfmaaGreatDoorJTopA7
import Derived.Test.YtenonfkfoedfmaaGreatDoorJTopAG1
import Derived.Test.YtenonfkfoedfmaaGreatDoorJTopAG2
import Derived.Test.YtenonfkfoedfmaaGreatDoorJTopAG3
import Derived.Test.YtenonfkfoedfmaaGreatDoorJTopAG6
import Derived.Test.YtenonfkfoedfmaaGreatDoorRows
import Derived.Test.YtenonfkfoedfmaaGreatDoorCards
import Derived.Test.YtenonfkfoedfmaaGreatDoorTie
import Derived.WalkKit
import Derived.ProofKit
import Derived.OpenShut
import Derived.ChangeOld
import Derived.Below
import Derived.LaidMore
import Derived.LaidLaws
import Derived.Stop.Joined
import Derived.SevenTiedAt
namespace Go.Proofs.YtenonfkfoedfmaaGreatDoor.topEnds
open Go.ChangeShapes Go.WideShapes Go.ChangeAt Go.RowKit
set_option linter.unusedVariables false
theorem own : ownKnob Tryz.prog.godebug = none := by kernel_rfl
theorem laidOut : laidOutB Tryz.prog = true := by kernel_rfl
set_option maxRecDepth 100000 in
theorem lifted (os : Os) (started : os.Started) (H : Type) (enc : TypeId × Value → H) :
    ReturnsInHanded {} Tryz.checked os 10 .any (fun w args => (Rows.topEndsSpec.pre enc Tryz.prog Tryz.f10 [] false w args ∧ laidMetH Tryz.prog B.laidL w) ∧ sizedMet enc Tryz.prog Tryz.f10 (OpenSpec.ofChange Rows.topEndsSpec) false w args)
      (Rows.topEndsSpec.post enc Tryz.prog Tryz.f10 false true false false) := by
  refine returnsInHanded_of_change_and (C := Tryz.checked) (X := fun w _ => laidMetH Tryz.prog B.laidL w) (fun _ _ _ hh h => h.of_heap hh) own started (by kernel_rfl) Tryz.func10
    (ChangeSpec.witness_shaped (enc := enc) (C := Tryz.checked) (os := os) (X := fun w _ => laidMetH Tryz.prog B.laidL w) false (World.doorLaid Tryz.prog 400 os) #[.int .u8 0] 8 rfl (World.shaped_of_RefB (by kernel_rfl) (by kernel_rfl)) (by kernel_rfl) (by kernel_rfl) (by kernel_rfl) (B.door_met os _)) ?_
  intro W base args ds gs before hval0 hW _ _ hL _
  have hval : ∀ (j : Nat) t v, Tryz.f10.params[j]? = some t → args[j]? = some v → Value.okWide Tryz.prog W .any base t v := hval0
  have hW' := hW
  obtain ⟨p, q, hA0, hV, rfl, hfz, hnd⟩ := hW
  have hA : DataW.TrodAll enc Tryz.prog W 0 (fun _ => true) true Tryz.f10.params.toList args.toList ds p := hA0
  rw [Tryz.params10] at hA hval
  obtain ⟨v0, vs0, d0, ds0, p0, q0, hargs, rfl, rfl, h0, r0⟩ := trodAll_cons hA
  obtain ⟨rfl, rfl, rfl⟩ := trodAll_nil r0
  obtain rfl : args = #[v0] := by cases args; simp_all
  obtain ⟨rfl, rfl⟩ := trodVars_none hV
  obtain ⟨a0, rfl, rfl, rfl, w0⟩ := open_int Tryz.underlying5 (hval 0 5 v0 rfl rfl) h0
  clear hA0 hval0
  refine Calls.mono (B.law_calls Tryz.func10 (B.tie10 ..) (B.TopEnds_walk (B.of_laid hL) w0)) fun e W' ⟨he, bel⟩ => ?_
  subst he
  exact ⟨_, rfl, _, _, _, [], _, [], hW', trodAll_mk1 (shut_bool Tryz.underlying4 _), (trodAll_cons_mk (shut_int Tryz.underlying5 w0) trodAll_mk0), rfl, bel.frame _, fun h => by cases h⟩
theorem cf0 : (Rows.topEndsRow.wf (OpenSpec.ofChange Rows.topEndsSpec)) = true := by kernel_rfl
theorem cf3 : (Tryz.f10.params.all (Tryz.prog.readableRec ·)) = true := by kernel_rfl
theorem cf4 : (namedTie Tryz.prog Rows.topEndsRow.named Rows.topEndsSpec.vars) = true := by kernel_rfl
theorem cf9 : ((Rows.topEndsRow.inPlace == Tryz.prog.inPlace 10)) = true := by kernel_rfl
theorem cf10 : ((Rows.topEndsRow.unfollowed == Tryz.prog.unfollowed 10)) = true := by kernel_rfl
theorem cf11 : ((Rows.topEndsRow.recurses == Tryz.prog.recurses 10)) = true := by kernel_rfl
theorem cf12 : ((Rows.topEndsRow.named == Tryz.prog.varsNamed 10)) = true := by kernel_rfl
theorem cf13 : ((Rows.topEndsRow.maps == (Tryz.f10.params.toList ++ Rows.topEndsSpec.plain.varTypes Tryz.prog).any (Tryz.prog.mapsRec ·))) = true := by kernel_rfl
theorem cf14 : ((Rows.topEndsRow.ifaces == (Tryz.f10.params.toList ++ Rows.topEndsSpec.plain.varTypes Tryz.prog).any (Tryz.prog.ifacesRec ·))) = true := by kernel_rfl
theorem cf15 : ((Rows.topEndsRow.mapsOut == Tryz.prog.mapsAmong Tryz.f10.resultTypes.toList)) = true := by kernel_rfl
theorem cf16 : ((Rows.topEndsRow.loops == (Tryz.f10.params.toList ++ Rows.topEndsSpec.plain.varTypes Tryz.prog).any (Tryz.prog.loopsFrom ·))) = true := by kernel_rfl
theorem cf17 : ((Rows.topEndsRow.wideKeys == (Tryz.f10.params.toList ++ Rows.topEndsSpec.plain.varTypes Tryz.prog ++ Tryz.f10.resultTypes.toList).any (Tryz.prog.wideKeysFrom ·))) = true := by kernel_rfl
theorem cf18 : (Rows.topEndsSpec.vars.all (Tryz.prog.varReadable ·)) = true := by kernel_rfl
theorem cf19 : (Tryz.f10.resultTypes.all (fun t => Tryz.prog.readableRec t && decide (t < Tryz.prog.types.size))) = true := by kernel_rfl
theorem cf20 : ((Rows.topEndsRow.ifacesOut == Tryz.f10.resultTypes.toList.any (Tryz.prog.ifacesRec ·))) = true := by kernel_rfl
theorem cf21 : ((Rows.topEndsRow.loopsOut == Tryz.f10.resultTypes.toList.any (Tryz.prog.loopsFrom ·))) = true := by kernel_rfl
theorem cf28 : ((Rows.topEndsRow.kinds == (if Rows.topEndsRow.domain.isEmpty then [] else Tryz.f10.params.toList.map fun t => match Tryz.prog.underlying t with | some (.int k) => some k | _ => none))) = true := by kernel_rfl
theorem cf29 : ((Rows.topEndsRow.pinned == Rows.topEndsRow.pinnedBy)) = true := by kernel_rfl
theorem cf30 : ((Rows.topEndsRow.veiled == (Tryz.f10.params.toList ++ Rows.topEndsSpec.plain.varTypes Tryz.prog ++ Tryz.f10.resultTypes.toList).any (Tryz.prog.veiledRec ·))) = true := by kernel_rfl
theorem cf31 : (Rows.topEndsRow.veiledFits Tryz.prog Tryz.f10.params.toList (Tryz.f10.params.toList ++ Rows.topEndsSpec.plain.varTypes Tryz.prog ++ Tryz.f10.resultTypes.toList)) = true := by kernel_rfl
set_option maxRecDepth 100000 in
theorem closed : joinedFacts Tryz.prog 10 Tryz.f10 Rows.topEndsSpec Rows.topEndsRow = true := by
  unfold joinedFacts
  exact (B.and_i (B.and_i (B.and_i (B.and_i (B.and_i (B.and_i (B.and_i (B.and_i (B.and_i (B.and_i (B.and_i (B.and_i (B.and_i (B.and_i (B.and_i (B.and_i (B.and_i (B.and_i (B.and_i (B.and_i (B.and_i (B.and_i (B.and_i (B.and_i (B.and_i (B.and_i (B.and_i (B.and_i (B.and_i (B.and_i (B.and_i cf0 B.pf1) B.pf2) cf3) cf4) B.pf5) B.pf6) B.pf7) B.pf8) cf9) cf10) cf11) cf12) cf13) cf14) cf15) cf16) cf17) cf18) cf19) cf20) cf21) B.pf22) B.pf23) B.pf24) B.pf25) B.pf26) B.pf27) cf28) cf29) cf30) cf31)
theorem over : Rows.TopEndsSaid :=
  OpenClaim.holds_of_wide 10 Tryz.f10 rfl rfl rfl rfl rfl rfl rfl ⟨rfl, rfl, rfl, rfl, rfl⟩ rfl rfl rfl rfl rfl (by kernel_rfl) Tryz.func10 closed
    (of_decide_eq_true (by kernel_rfl)) (by unfold Func.isWrapper; first | (rw [if_pos (by decide +kernel)]; kernel_rfl) | (rw [if_neg (by decide +kernel)]; exact ⟨rfl, rfl⟩))
    (fun os started H enc _ => lifted os started H enc)
theorem proved : Rows.TopEndsCardSaid :=
  Claim7.holds_tied_plain_at .later [] [.data] true (true, "6a5e9d01b7f518266fc1d1a0b1cf3fc3fb93151b57bc83cb977cc041b6c103d4") false
    over (fun _ h => by cases h) (by kernel_rfl) (fun _ h => by cases h) topEnds_row_tie rfl ⟨rfl, rfl⟩ (by kernel_rfl) rfl
    (fun f fn hf hfn => by
      obtain rfl : f = 10 := Option.some.inj ((show Tryz.prog.funcNamed "detent/detenttop.TopEnds" = some 10 by kernel_rfl).symm.trans hf) |>.symm
      obtain rfl : fn = Tryz.f10 := (Option.some.inj (Tryz.func10.symm.trans hfn)).symm
      exact ⟨by kernel_rfl, fun j t ht => by
        rw [Tryz.params10] at ht
        have hm : t ∈ [5] := by simpa using Array.mem_of_getElem? ht
        have hall : ([5].all fun u => !Tryz.prog.wantsStandIn u) = true := by kernel_rfl
        exact (show Tryz.prog.wantsStandIn t = false by simpa using List.all_eq_true.1 hall t hm)⟩)
    (by kernel_rfl)
#print axioms proved
end Go.Proofs.YtenonfkfoedfmaaGreatDoor.topEnds
