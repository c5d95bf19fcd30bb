/-
  The card of TopMutexes: the walk of the text MxsW, under the row of this law, tied. Printed by a program of ours.
-/
import Derived.Test.YtenonfkfoedfmaaGreatDoorJTopA7
import Derived.Test.YtenonfkfoedfmaaGreatDoorJTopAG1
import Derived.Test.YtenonfkfoedfmaaGreatDoorJTopAG2
import Derived.Test.YtenonfkfoedfmaaGreatDoorJTopAG3
import Derived.Test.YtenonfkfoedfmaaGreatDoorJTopAG10
import Derived.Test.YtenonfkfoedfmaaGreatDoorRows
import Derived.Test.YtenonfkfoedfmaaGreatDoorCards
import Derived.Test.YtenonfkfoedfmaaGreatDoorTie
import Derived.WalkKit
import Derived.ProofKit
import Derived.OpenShut
import Derived.ChangeOld
import Derived.Below
import Derived.LaidMore
import Derived.LaidLaws
import Derived.Stop.Joined
import Derived.SevenTiedAt
namespace Go.Proofs.YtenonfkfoedfmaaGreatDoor.topMutexes
open Go.ChangeShapes Go.WideShapes Go.ChangeAt Go.RowKit
set_option linter.unusedVariables false
theorem own : ownKnob Tryz.prog.godebug = none := by kernel_rfl
theorem laidOut : laidOutB Tryz.prog = true := by kernel_rfl
set_option maxRecDepth 100000 in
theorem lifted (os : Os) (started : os.Started) (H : Type) (enc : TypeId × Value → H) :
    ReturnsInHanded {} Tryz.checked os 11 .any (fun w args => (Rows.topMutexesSpec.pre enc Tryz.prog Tryz.f11 [] false w args ∧ laidMetH Tryz.prog B.laidL w) ∧ sizedMet enc Tryz.prog Tryz.f11 (OpenSpec.ofChange Rows.topMutexesSpec) false w args)
      (Rows.topMutexesSpec.post enc Tryz.prog Tryz.f11 false true false false) := by
  refine returnsInHanded_of_change_and (C := Tryz.checked) (X := fun w _ => laidMetH Tryz.prog B.laidL w) (fun _ _ _ hh h => h.of_heap hh) own started (by kernel_rfl) Tryz.func11
    (ChangeSpec.witness_shaped (enc := enc) (C := Tryz.checked) (os := os) (X := fun w _ => laidMetH Tryz.prog B.laidL w) false (World.doorLaid Tryz.prog 400 os) #[.int .u8 0, .int .u8 0, .agg #[.int .u8 0, .int .u8 0, .int .u8 0]] 8 rfl (World.shaped_of_RefB (by kernel_rfl) (by kernel_rfl)) (by kernel_rfl) (by kernel_rfl) (by kernel_rfl) (B.door_met os _)) ?_
  intro W base args ds gs before hval0 hW _ _ hL _
  have hval : ∀ (j : Nat) t v, Tryz.f11.params[j]? = some t → args[j]? = some v → Value.okWide Tryz.prog W .any base t v := hval0
  have hW' := hW
  obtain ⟨p, q, hA0, hV, rfl, hfz, hnd⟩ := hW
  have hA : DataW.TrodAll enc Tryz.prog W 0 (fun _ => true) true Tryz.f11.params.toList args.toList ds p := hA0
  rw [Tryz.params11] at hA hval
  obtain ⟨v0, vs0, d0, ds0, p0, q0, hargs, rfl, rfl, h0, r0⟩ := trodAll_cons hA
  obtain ⟨v1, vs1, d1, ds1, p1, q1, rfl, rfl, rfl, h1, r1⟩ := trodAll_cons r0
  obtain ⟨v2, vs2, d2, ds2, p2, q2, rfl, rfl, rfl, h2, r2⟩ := trodAll_cons r1
  obtain ⟨rfl, rfl, rfl⟩ := trodAll_nil r2
  obtain rfl : args = #[v0, v1, v2] := by cases args; simp_all
  obtain ⟨rfl, rfl⟩ := trodVars_none hV
  obtain ⟨a0, rfl, rfl, rfl, w0⟩ := open_int Tryz.underlying5 (hval 0 5 v0 rfl rfl) h0
  obtain ⟨a1, rfl, rfl, rfl, w1⟩ := open_int Tryz.underlying5 (hval 1 5 v1 rfl rfl) h1
  have k2 := h2
  have lt2 : ∀ x ∈ p2, x.block < W.heap.size := by obtain ⟨m, hm⟩ := k2; exact DataW.trod_lt m _ _ _ hm
  obtain ⟨b2_0, b2_1, b2_2, rfl, w2_0, w2_1, w2_2⟩ := B.open_arr3 (k := .u8) (by kernel_rfl) (hval 2 77 v2 rfl rfl) h2
  clear hA0 hval0
  refine Calls.mono (B.law_calls Tryz.func11 (B.tie11 (a2 := (b2_0, b2_1, b2_2, ())) ..) (B.TopMutexes_walk (B.of_laid hL) w0 w1 w2_0 w2_1 w2_2)) fun e W' ⟨he, bel⟩ => ?_
  subst he
  exact ⟨_, rfl, _, _, _, [], _, [], hW', trodAll_mk1 (shut_bool Tryz.underlying4 _), (trodAll_cons_mk (shut_int Tryz.underlying5 w0) (trodAll_cons_mk (shut_int Tryz.underlying5 w1) (trodAll_cons_mk (Below.trod laidOut (by kernel_rfl) (of_decide_eq_true (by kernel_rfl)) k2 bel lt2) trodAll_mk0))), rfl, bel.frame _, fun h => by cases h⟩
theorem cf0 : (Rows.topMutexesRow.wf (OpenSpec.ofChange Rows.topMutexesSpec)) = true := by kernel_rfl
theorem cf3 : (Tryz.f11.params.all (Tryz.prog.readableRec ·)) = true := by kernel_rfl
theorem cf4 : (namedTie Tryz.prog Rows.topMutexesRow.named Rows.topMutexesSpec.vars) = true := by kernel_rfl
theorem cf9 : ((Rows.topMutexesRow.inPlace == Tryz.prog.inPlace 11)) = true := by kernel_rfl
theorem cf10 : ((Rows.topMutexesRow.unfollowed == Tryz.prog.unfollowed 11)) = true := by kernel_rfl
theorem cf11 : ((Rows.topMutexesRow.recurses == Tryz.prog.recurses 11)) = true := by kernel_rfl
theorem cf12 : ((Rows.topMutexesRow.named == Tryz.prog.varsNamed 11)) = true := by kernel_rfl
theorem cf13 : ((Rows.topMutexesRow.maps == (Tryz.f11.params.toList ++ Rows.topMutexesSpec.plain.varTypes Tryz.prog).any (Tryz.prog.mapsRec ·))) = true := by kernel_rfl
theorem cf14 : ((Rows.topMutexesRow.ifaces == (Tryz.f11.params.toList ++ Rows.topMutexesSpec.plain.varTypes Tryz.prog).any (Tryz.prog.ifacesRec ·))) = true := by kernel_rfl
theorem cf15 : ((Rows.topMutexesRow.mapsOut == Tryz.prog.mapsAmong Tryz.f11.resultTypes.toList)) = true := by kernel_rfl
theorem cf16 : ((Rows.topMutexesRow.loops == (Tryz.f11.params.toList ++ Rows.topMutexesSpec.plain.varTypes Tryz.prog).any (Tryz.prog.loopsFrom ·))) = true := by kernel_rfl
theorem cf17 : ((Rows.topMutexesRow.wideKeys == (Tryz.f11.params.toList ++ Rows.topMutexesSpec.plain.varTypes Tryz.prog ++ Tryz.f11.resultTypes.toList).any (Tryz.prog.wideKeysFrom ·))) = true := by kernel_rfl
theorem cf18 : (Rows.topMutexesSpec.vars.all (Tryz.prog.varReadable ·)) = true := by kernel_rfl
theorem cf19 : (Tryz.f11.resultTypes.all (fun t => Tryz.prog.readableRec t && decide (t < Tryz.prog.types.size))) = true := by kernel_rfl
theorem cf20 : ((Rows.topMutexesRow.ifacesOut == Tryz.f11.resultTypes.toList.any (Tryz.prog.ifacesRec ·))) = true := by kernel_rfl
theorem cf21 : ((Rows.topMutexesRow.loopsOut == Tryz.f11.resultTypes.toList.any (Tryz.prog.loopsFrom ·))) = true := by kernel_rfl
theorem cf28 : ((Rows.topMutexesRow.kinds == (if Rows.topMutexesRow.domain.isEmpty then [] else Tryz.f11.params.toList.map fun t => match Tryz.prog.underlying t with | some (.int k) => some k | _ => none))) = true := by kernel_rfl
theorem cf29 : ((Rows.topMutexesRow.pinned == Rows.topMutexesRow.pinnedBy)) = true := by kernel_rfl
theorem cf30 : ((Rows.topMutexesRow.veiled == (Tryz.f11.params.toList ++ Rows.topMutexesSpec.plain.varTypes Tryz.prog ++ Tryz.f11.resultTypes.toList).any (Tryz.prog.veiledRec ·))) = true := by kernel_rfl
theorem cf31 : (Rows.topMutexesRow.veiledFits Tryz.prog Tryz.f11.params.toList (Tryz.f11.params.toList ++ Rows.topMutexesSpec.plain.varTypes Tryz.prog ++ Tryz.f11.resultTypes.toList)) = true := by kernel_rfl
set_option maxRecDepth 100000 in
theorem closed : joinedFacts Tryz.prog 11 Tryz.f11 Rows.topMutexesSpec Rows.topMutexesRow = true := by
  unfold joinedFacts
  exact (B.and_i (B.and_i (B.and_i (B.and_i (B.and_i (B.and_i (B.and_i (B.and_i (B.and_i (B.and_i (B.and_i (B.and_i (B.and_i (B.and_i (B.and_i (B.and_i (B.and_i (B.and_i (B.and_i (B.and_i (B.and_i (B.and_i (B.and_i (B.and_i (B.and_i (B.and_i (B.and_i (B.and_i (B.and_i (B.and_i (B.and_i cf0 B.pf1) B.pf2) cf3) cf4) B.pf5) B.pf6) B.pf7) B.pf8) cf9) cf10) cf11) cf12) cf13) cf14) cf15) cf16) cf17) cf18) cf19) cf20) cf21) B.pf22) B.pf23) B.pf24) B.pf25) B.pf26) B.pf27) cf28) cf29) cf30) cf31)
theorem over : Rows.TopMutexesSaid :=
  OpenClaim.holds_of_wide 11 Tryz.f11 rfl rfl rfl rfl rfl rfl rfl ⟨rfl, rfl, rfl, rfl, rfl⟩ rfl rfl rfl rfl rfl (by kernel_rfl) Tryz.func11 closed
    (of_decide_eq_true (by kernel_rfl)) (by unfold Func.isWrapper; first | (rw [if_pos (by decide +kernel)]; kernel_rfl) | (rw [if_neg (by decide +kernel)]; exact ⟨rfl, rfl⟩))
    (fun os started H enc _ => lifted os started H enc)
theorem proved : Rows.TopMutexesCardSaid :=
  Claim7.holds_tied_plain_at .later [] [.data] true (true, "6a5e9d01b7f518266fc1d1a0b1cf3fc3fb93151b57bc83cb977cc041b6c103d4") false
    over (fun _ h => by cases h) (by kernel_rfl) (fun _ h => by cases h) topMutexes_row_tie rfl ⟨rfl, rfl⟩ (by kernel_rfl) rfl
    (fun f fn hf hfn => by
      obtain rfl : f = 11 := Option.some.inj ((show Tryz.prog.funcNamed "detent/detenttop.TopMutexes" = some 11 by kernel_rfl).symm.trans hf) |>.symm
      obtain rfl : fn = Tryz.f11 := (Option.some.inj (Tryz.func11.symm.trans hfn)).symm
      exact ⟨by kernel_rfl, fun j t ht => by
        rw [Tryz.params11] at ht
        have hm : t ∈ [5, 5, 77] := by simpa using Array.mem_of_getElem? ht
        have hall : ([5, 5, 77].all fun u => !Tryz.prog.wantsStandIn u) = true := by kernel_rfl
        exact (show Tryz.prog.wantsStandIn t = false by simpa using List.all_eq_true.1 hall t hm)⟩)
    (by kernel_rfl)
#print axioms proved
end Go.Proofs.YtenonfkfoedfmaaGreatDoor.topMutexes
