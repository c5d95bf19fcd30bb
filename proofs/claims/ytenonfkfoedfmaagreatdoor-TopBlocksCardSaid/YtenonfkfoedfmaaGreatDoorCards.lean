/-
  DERIVED. GIVEN WITH THE SEED: THE CARDS: each row of YtenonfkfoedfmaaGreatDoorRows.lean that lists a variable, with what it lists TIED to the program's text (the seventh form; the later family's looks); each row that meets fmt, with fmt's text TOLD by the authors' own Lean function (tested against real Go, not proved from fmt's source: count such statements apart). THE CARD IS WHAT COUNTS. Prove the row's statement (the work); the ties are given (YtenonfkfoedfmaaGreatDoorTie.lean); close each card by the builder's one call (the guide's Derived/Test/ToyasCard.lean, 'card_holds'). Laid BY PROGRAM, IN A SANDBOX (cutbox-door.mjs). By AI agents, Wed Nov 11 2026. No macro, syntax, notation, axiom, sorry.
-/
import Derived.Test.YtenonfkfoedfmaaGreatDoorRows
import GoSem.ClaimSeven
namespace Go.Proofs.YtenonfkfoedfmaaGreatDoor
namespace Rows

/-- THE TIED CARD OF 'detenttop.TopData'. -/
def topDataCard : Claim7 := { stood := { row := topDataRow, standIns := [], harness := (true, "6a5e9d01b7f518266fc1d1a0b1cf3fc3fb93151b57bc83cb977cc041b6c103d4"), looks := false }, kinds := [], alts := [], laidByText := true, laidKinds := [.data], laidTests := true, laidLooks := .later }
def TopDataCardSaid : Prop := Claim7.holds Tryz.pinned (.plain (OpenSpec.ofChange topDataSpec)) topDataCard

/-- THE TIED CARD OF 'detenttop.TopInverts'. -/
def topInvertsCard : Claim7 := { stood := { row := topInvertsRow, standIns := [], harness := (true, "6a5e9d01b7f518266fc1d1a0b1cf3fc3fb93151b57bc83cb977cc041b6c103d4"), looks := false }, kinds := [], alts := [], laidByText := true, laidKinds := [.data], laidTests := true, laidLooks := .later }
def TopInvertsCardSaid : Prop := Claim7.holds Tryz.pinned (.plain (OpenSpec.ofChange topInvertsSpec)) topInvertsCard

/-- THE TIED CARD OF 'detenttop.TopDelays'. -/
def topDelaysCard : Claim7 := { stood := { row := topDelaysRow, standIns := [], harness := (true, "6a5e9d01b7f518266fc1d1a0b1cf3fc3fb93151b57bc83cb977cc041b6c103d4"), looks := false }, kinds := [], alts := [], laidByText := true, laidKinds := [.data], laidTests := true, laidLooks := .later }
def TopDelaysCardSaid : Prop := Claim7.holds Tryz.pinned (.plain (OpenSpec.ofChange topDelaysSpec)) topDelaysCard

/-- THE TIED CARD OF 'detenttop.TopKills'. -/
def topKillsCard : Claim7 := { stood := { row := topKillsRow, standIns := [], harness := (true, "6a5e9d01b7f518266fc1d1a0b1cf3fc3fb93151b57bc83cb977cc041b6c103d4"), looks := false }, kinds := [], alts := [], laidByText := true, laidKinds := [.data], laidTests := true, laidLooks := .later }
def TopKillsCardSaid : Prop := Claim7.holds Tryz.pinned (.plain (OpenSpec.ofChange topKillsSpec)) topKillsCard

/-- THE TIED CARD OF 'detenttop.TopClocks'. -/
def topClocksCard : Claim7 := { stood := { row := topClocksRow, standIns := [], harness := (true, "6a5e9d01b7f518266fc1d1a0b1cf3fc3fb93151b57bc83cb977cc041b6c103d4"), looks := false }, kinds := [], alts := [], laidByText := true, laidKinds := [.data], laidTests := true, laidLooks := .later }
def TopClocksCardSaid : Prop := Claim7.holds Tryz.pinned (.plain (OpenSpec.ofChange topClocksSpec)) topClocksCard

/-- THE TIED CARD OF 'detenttop.TopTimes'. -/
def topTimesCard : Claim7 := { stood := { row := topTimesRow, standIns := [], harness := (true, "6a5e9d01b7f518266fc1d1a0b1cf3fc3fb93151b57bc83cb977cc041b6c103d4"), looks := false }, kinds := [], alts := [], laidByText := true, laidKinds := [.data], laidTests := true, laidLooks := .later }
def TopTimesCardSaid : Prop := Claim7.holds Tryz.pinned (.plain (OpenSpec.ofChange topTimesSpec)) topTimesCard

/-- THE TIED CARD OF 'detenttop.TopInherits'. -/
def topInheritsCard : Claim7 := { stood := { row := topInheritsRow, standIns := [], harness := (true, "6a5e9d01b7f518266fc1d1a0b1cf3fc3fb93151b57bc83cb977cc041b6c103d4"), looks := false }, kinds := [], alts := [], laidByText := true, laidKinds := [.data], laidTests := true, laidLooks := .later }
def TopInheritsCardSaid : Prop := Claim7.holds Tryz.pinned (.plain (OpenSpec.ofChange topInheritsSpec)) topInheritsCard

/-- THE TIED CARD OF 'detenttop.TopEnds'. -/
def topEndsCard : Claim7 := { stood := { row := topEndsRow, standIns := [], harness := (true, "6a5e9d01b7f518266fc1d1a0b1cf3fc3fb93151b57bc83cb977cc041b6c103d4"), looks := false }, kinds := [], alts := [], laidByText := true, laidKinds := [.data], laidTests := true, laidLooks := .later }
def TopEndsCardSaid : Prop := Claim7.holds Tryz.pinned (.plain (OpenSpec.ofChange topEndsSpec)) topEndsCard

/-- THE TIED CARD OF 'detenttop.TopMutexes'. -/
def topMutexesCard : Claim7 := { stood := { row := topMutexesRow, standIns := [], harness := (true, "6a5e9d01b7f518266fc1d1a0b1cf3fc3fb93151b57bc83cb977cc041b6c103d4"), looks := false }, kinds := [], alts := [], laidByText := true, laidKinds := [.data], laidTests := true, laidLooks := .later }
def TopMutexesCardSaid : Prop := Claim7.holds Tryz.pinned (.plain (OpenSpec.ofChange topMutexesSpec)) topMutexesCard

/-- THE TIED CARD OF 'detenttop.TopBlocks'. -/
def topBlocksCard : Claim7 := { stood := { row := topBlocksRow, standIns := [], harness := (true, "6a5e9d01b7f518266fc1d1a0b1cf3fc3fb93151b57bc83cb977cc041b6c103d4"), looks := false }, kinds := [], alts := [], laidByText := true, laidKinds := [.data], laidTests := true, laidLooks := .later }
def TopBlocksCardSaid : Prop := Claim7.holds Tryz.pinned (.plain (OpenSpec.ofChange topBlocksSpec)) topBlocksCard

/-- THE TIED CARD OF 'detenttop.TopInterrupts'. -/
def topInterruptsCard : Claim7 := { stood := { row := topInterruptsRow, standIns := [], harness := (true, "6a5e9d01b7f518266fc1d1a0b1cf3fc3fb93151b57bc83cb977cc041b6c103d4"), looks := false }, kinds := [], alts := [], laidByText := true, laidKinds := [.data], laidTests := true, laidLooks := .later }
def TopInterruptsCardSaid : Prop := Claim7.holds Tryz.pinned (.plain (OpenSpec.ofChange topInterruptsSpec)) topInterruptsCard

/-- THE TIED CARD OF 'detenttop.TopSelf'. -/
def topSelfCard : Claim7 := { stood := { row := topSelfRow, standIns := [], harness := (true, "6a5e9d01b7f518266fc1d1a0b1cf3fc3fb93151b57bc83cb977cc041b6c103d4"), looks := false }, kinds := [], alts := [], laidByText := true, laidKinds := [.data], laidTests := true, laidLooks := .later }
def TopSelfCardSaid : Prop := Claim7.holds Tryz.pinned (.plain (OpenSpec.ofChange topSelfSpec)) topSelfCard

/-- THE TIED CARD OF 'detenttop.TopNobody'. -/
def topNobodyCard : Claim7 := { stood := { row := topNobodyRow, standIns := [], harness := (true, "6a5e9d01b7f518266fc1d1a0b1cf3fc3fb93151b57bc83cb977cc041b6c103d4"), looks := false }, kinds := [], alts := [], laidByText := true, laidKinds := [.data], laidTests := true, laidLooks := .later }
def TopNobodyCardSaid : Prop := Claim7.holds Tryz.pinned (.plain (OpenSpec.ofChange topNobodySpec)) topNobodyCard

/-- THE TIED CARD OF 'detenttop.TopQueues'. -/
def topQueuesCard : Claim7 := { stood := { row := topQueuesRow, standIns := [], harness := (true, "6a5e9d01b7f518266fc1d1a0b1cf3fc3fb93151b57bc83cb977cc041b6c103d4"), looks := false }, kinds := [], alts := [], laidByText := true, laidKinds := [.data], laidTests := true, laidLooks := .later }
def TopQueuesCardSaid : Prop := Claim7.holds Tryz.pinned (.plain (OpenSpec.ofChange topQueuesSpec)) topQueuesCard

/-- THE SECOND FORM's CARD OF 'detenttop.TopData'. -/
def topDataUptoCard : Claim7 := { stood := { row := topDataUptoRow, standIns := [], harness := (true, "6a5e9d01b7f518266fc1d1a0b1cf3fc3fb93151b57bc83cb977cc041b6c103d4"), looks := false }, kinds := [], alts := [], laidByText := true, laidKinds := [.data], laidTests := true, laidLooks := .later }
def TopDataUptoCardSaid : Prop := Claim7.holds Tryz.pinned (.plain (OpenSpec.upto topDataSpec)) topDataUptoCard

/-- THE SECOND FORM's CARD OF 'detenttop.TopInverts'. -/
def topInvertsUptoCard : Claim7 := { stood := { row := topInvertsUptoRow, standIns := [], harness := (true, "6a5e9d01b7f518266fc1d1a0b1cf3fc3fb93151b57bc83cb977cc041b6c103d4"), looks := false }, kinds := [], alts := [], laidByText := true, laidKinds := [.data], laidTests := true, laidLooks := .later }
def TopInvertsUptoCardSaid : Prop := Claim7.holds Tryz.pinned (.plain (OpenSpec.upto topInvertsSpec)) topInvertsUptoCard

/-- THE SECOND FORM's CARD OF 'detenttop.TopDelays'. -/
def topDelaysUptoCard : Claim7 := { stood := { row := topDelaysUptoRow, standIns := [], harness := (true, "6a5e9d01b7f518266fc1d1a0b1cf3fc3fb93151b57bc83cb977cc041b6c103d4"), looks := false }, kinds := [], alts := [], laidByText := true, laidKinds := [.data], laidTests := true, laidLooks := .later }
def TopDelaysUptoCardSaid : Prop := Claim7.holds Tryz.pinned (.plain (OpenSpec.upto topDelaysSpec)) topDelaysUptoCard

/-- THE SECOND FORM's CARD OF 'detenttop.TopKills'. -/
def topKillsUptoCard : Claim7 := { stood := { row := topKillsUptoRow, standIns := [], harness := (true, "6a5e9d01b7f518266fc1d1a0b1cf3fc3fb93151b57bc83cb977cc041b6c103d4"), looks := false }, kinds := [], alts := [], laidByText := true, laidKinds := [.data], laidTests := true, laidLooks := .later }
def TopKillsUptoCardSaid : Prop := Claim7.holds Tryz.pinned (.plain (OpenSpec.upto topKillsSpec)) topKillsUptoCard

/-- THE SECOND FORM's CARD OF 'detenttop.TopClocks'. -/
def topClocksUptoCard : Claim7 := { stood := { row := topClocksUptoRow, standIns := [], harness := (true, "6a5e9d01b7f518266fc1d1a0b1cf3fc3fb93151b57bc83cb977cc041b6c103d4"), looks := false }, kinds := [], alts := [], laidByText := true, laidKinds := [.data], laidTests := true, laidLooks := .later }
def TopClocksUptoCardSaid : Prop := Claim7.holds Tryz.pinned (.plain (OpenSpec.upto topClocksSpec)) topClocksUptoCard

/-- THE SECOND FORM's CARD OF 'detenttop.TopTimes'. -/
def topTimesUptoCard : Claim7 := { stood := { row := topTimesUptoRow, standIns := [], harness := (true, "6a5e9d01b7f518266fc1d1a0b1cf3fc3fb93151b57bc83cb977cc041b6c103d4"), looks := false }, kinds := [], alts := [], laidByText := true, laidKinds := [.data], laidTests := true, laidLooks := .later }
def TopTimesUptoCardSaid : Prop := Claim7.holds Tryz.pinned (.plain (OpenSpec.upto topTimesSpec)) topTimesUptoCard

/-- THE SECOND FORM's CARD OF 'detenttop.TopInherits'. -/
def topInheritsUptoCard : Claim7 := { stood := { row := topInheritsUptoRow, standIns := [], harness := (true, "6a5e9d01b7f518266fc1d1a0b1cf3fc3fb93151b57bc83cb977cc041b6c103d4"), looks := false }, kinds := [], alts := [], laidByText := true, laidKinds := [.data], laidTests := true, laidLooks := .later }
def TopInheritsUptoCardSaid : Prop := Claim7.holds Tryz.pinned (.plain (OpenSpec.upto topInheritsSpec)) topInheritsUptoCard

/-- THE SECOND FORM's CARD OF 'detenttop.TopEnds'. -/
def topEndsUptoCard : Claim7 := { stood := { row := topEndsUptoRow, standIns := [], harness := (true, "6a5e9d01b7f518266fc1d1a0b1cf3fc3fb93151b57bc83cb977cc041b6c103d4"), looks := false }, kinds := [], alts := [], laidByText := true, laidKinds := [.data], laidTests := true, laidLooks := .later }
def TopEndsUptoCardSaid : Prop := Claim7.holds Tryz.pinned (.plain (OpenSpec.upto topEndsSpec)) topEndsUptoCard

/-- THE SECOND FORM's CARD OF 'detenttop.TopMutexes'. -/
def topMutexesUptoCard : Claim7 := { stood := { row := topMutexesUptoRow, standIns := [], harness := (true, "6a5e9d01b7f518266fc1d1a0b1cf3fc3fb93151b57bc83cb977cc041b6c103d4"), looks := false }, kinds := [], alts := [], laidByText := true, laidKinds := [.data], laidTests := true, laidLooks := .later }
def TopMutexesUptoCardSaid : Prop := Claim7.holds Tryz.pinned (.plain (OpenSpec.upto topMutexesSpec)) topMutexesUptoCard

/-- THE SECOND FORM's CARD OF 'detenttop.TopBlocks'. -/
def topBlocksUptoCard : Claim7 := { stood := { row := topBlocksUptoRow, standIns := [], harness := (true, "6a5e9d01b7f518266fc1d1a0b1cf3fc3fb93151b57bc83cb977cc041b6c103d4"), looks := false }, kinds := [], alts := [], laidByText := true, laidKinds := [.data], laidTests := true, laidLooks := .later }
def TopBlocksUptoCardSaid : Prop := Claim7.holds Tryz.pinned (.plain (OpenSpec.upto topBlocksSpec)) topBlocksUptoCard

/-- THE SECOND FORM's CARD OF 'detenttop.TopInterrupts'. -/
def topInterruptsUptoCard : Claim7 := { stood := { row := topInterruptsUptoRow, standIns := [], harness := (true, "6a5e9d01b7f518266fc1d1a0b1cf3fc3fb93151b57bc83cb977cc041b6c103d4"), looks := false }, kinds := [], alts := [], laidByText := true, laidKinds := [.data], laidTests := true, laidLooks := .later }
def TopInterruptsUptoCardSaid : Prop := Claim7.holds Tryz.pinned (.plain (OpenSpec.upto topInterruptsSpec)) topInterruptsUptoCard

/-- THE SECOND FORM's CARD OF 'detenttop.TopSelf'. -/
def topSelfUptoCard : Claim7 := { stood := { row := topSelfUptoRow, standIns := [], harness := (true, "6a5e9d01b7f518266fc1d1a0b1cf3fc3fb93151b57bc83cb977cc041b6c103d4"), looks := false }, kinds := [], alts := [], laidByText := true, laidKinds := [.data], laidTests := true, laidLooks := .later }
def TopSelfUptoCardSaid : Prop := Claim7.holds Tryz.pinned (.plain (OpenSpec.upto topSelfSpec)) topSelfUptoCard

/-- THE SECOND FORM's CARD OF 'detenttop.TopNobody'. -/
def topNobodyUptoCard : Claim7 := { stood := { row := topNobodyUptoRow, standIns := [], harness := (true, "6a5e9d01b7f518266fc1d1a0b1cf3fc3fb93151b57bc83cb977cc041b6c103d4"), looks := false }, kinds := [], alts := [], laidByText := true, laidKinds := [.data], laidTests := true, laidLooks := .later }
def TopNobodyUptoCardSaid : Prop := Claim7.holds Tryz.pinned (.plain (OpenSpec.upto topNobodySpec)) topNobodyUptoCard

/-- THE SECOND FORM's CARD OF 'detenttop.TopQueues'. -/
def topQueuesUptoCard : Claim7 := { stood := { row := topQueuesUptoRow, standIns := [], harness := (true, "6a5e9d01b7f518266fc1d1a0b1cf3fc3fb93151b57bc83cb977cc041b6c103d4"), looks := false }, kinds := [], alts := [], laidByText := true, laidKinds := [.data], laidTests := true, laidLooks := .later }
def TopQueuesUptoCardSaid : Prop := Claim7.holds Tryz.pinned (.plain (OpenSpec.upto topQueuesSpec)) topQueuesUptoCard
end Rows
end Go.Proofs.YtenonfkfoedfmaaGreatDoor
