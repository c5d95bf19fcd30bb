/-
  No cell of these rows narrows 'for every input' (looked for: loops, veiled, ifaces, maps, wideKeys, modest, calm, conditions, laid).
  DERIVED. THE GIVEN ROWS OF THIS SEAT. 6 by the template 'for every input the law returns true; each argument reads behind the call as it read before'; 0 by the template 'total and deterministic' (their statements: YtadnjjnnkhofdaaTotals.lean).
  GIVEN WITH THE SEED: the statements are not yours to turn. If you find one false, say at which input.
  Laid BY PROGRAM, IN A SANDBOX (cutbox-rows.mjs): the forced cells as the released guide's own fill.sh prints them over the translation 7def8b2a0bd90a67… (all of the seat's roots in one cut). By AI agents, Wed Nov 11 2026. No macro, syntax, notation, axiom, sorry.
-/
import Derived.Test.YtadnjjnnkhofdaaChecked
import GoSem.Claim
import GoSem.ClaimJoined
import GoSem.ClaimMapViews
import Derived.JoinedTies
import Derived.KernelRfl
namespace Go.Proofs.Ytadnjjnnkhofdaa
/- THE CELL 'sum', in the pinned program and in every row, IS THE sha256 OF THE DUMP (.gsa) THAT YtadnjjnnkhofdaaProg.lean LOADS. Nothing in Lean hashes anything: it is a label: what it is worth is what the hold of that sum in a sandbox is worth. -/
noncomputable def Try.pinned : Pinned := { name := "ytadnjjnnkhofdaa", sum := "7def8b2a0bd90a6715a2cc56451cf3272eb7d22c8ca7eed8bbdb602562414056", checked := Try.checked }
namespace Rows
def none {H : Type} : Left H := { results := [], args := [] }

/-- 'detentlaw13.DataDrops': WHATEVER THE INPUT: true; the input reads as it did. -/
def dataDropsSpec : ChangeSpec := { name := "dataDrops", fn := fun _ => fun
  | [d1, d2, d3] => { results := [.lit (.bool true)], args := [d1, d2, d3] }
  | _ => none }
def dataDropsRow : OpenClaim := { program := "ytadnjjnnkhofdaa", sum := "7def8b2a0bd90a6715a2cc56451cf3272eb7d22c8ca7eed8bbdb602562414056", func := "detent/detentlaw13.DataDrops", spec := "dataDrops", inPlace := ["slices.overlaps[detent/order.Item]"], unfollowed := true, recurses := true, apart := false }
def DataDropsSaid : Prop := dataDropsRow.holds Try.pinned (OpenSpec.ofChange dataDropsSpec)

/-- ITS FALSE NEIGHBOUR: 'it returns false'. Refute it at one input. -/
def dataDropsWrong : ChangeSpec := { name := "dataDrops", fn := fun _ => fun
  | [d1, d2, d3] => { results := [.lit (.bool false)], args := [d1, d2, d3] }
  | _ => none }
def DataDropsWrongFalsely : Prop := dataDropsRow.holds Try.pinned (OpenSpec.ofChange dataDropsWrong)

/-- 'detentlaw13.DataFull': WHATEVER THE INPUT: true; the input reads as it did. -/
def dataFullSpec : ChangeSpec := { name := "dataFull", fn := fun _ => fun
  | [d] => { results := [.lit (.bool true)], args := [d] }
  | _ => none }
def dataFullRow : OpenClaim := { program := "ytadnjjnnkhofdaa", sum := "7def8b2a0bd90a6715a2cc56451cf3272eb7d22c8ca7eed8bbdb602562414056", func := "detent/detentlaw13.DataFull", spec := "dataFull", inPlace := ["slices.overlaps[detent/order.Item]"], unfollowed := true, recurses := true, apart := false }
def DataFullSaid : Prop := dataFullRow.holds Try.pinned (OpenSpec.ofChange dataFullSpec)

/-- ITS FALSE NEIGHBOUR: 'it returns false'. Refute it at one input. -/
def dataFullWrong : ChangeSpec := { name := "dataFull", fn := fun _ => fun
  | [d] => { results := [.lit (.bool false)], args := [d] }
  | _ => none }
def DataFullWrongFalsely : Prop := dataFullRow.holds Try.pinned (OpenSpec.ofChange dataFullWrong)

/-- 'detentlaw13.DataOrder': WHATEVER THE INPUT: true; the input reads as it did. -/
def dataOrderSpec : ChangeSpec := { name := "dataOrder", fn := fun _ => fun
  | [d1, d2, d3] => { results := [.lit (.bool true)], args := [d1, d2, d3] }
  | _ => none }
def dataOrderRow : OpenClaim := { program := "ytadnjjnnkhofdaa", sum := "7def8b2a0bd90a6715a2cc56451cf3272eb7d22c8ca7eed8bbdb602562414056", func := "detent/detentlaw13.DataOrder", spec := "dataOrder", inPlace := ["slices.overlaps[detent/order.Item]"], unfollowed := true, recurses := true, apart := false }
def DataOrderSaid : Prop := dataOrderRow.holds Try.pinned (OpenSpec.ofChange dataOrderSpec)

/-- ITS FALSE NEIGHBOUR: 'it returns false'. Refute it at one input. -/
def dataOrderWrong : ChangeSpec := { name := "dataOrder", fn := fun _ => fun
  | [d1, d2, d3] => { results := [.lit (.bool false)], args := [d1, d2, d3] }
  | _ => none }
def DataOrderWrongFalsely : Prop := dataOrderRow.holds Try.pinned (OpenSpec.ofChange dataOrderWrong)

/-- 'detentlaw13.DataHands': WHATEVER THE INPUT: true; the input reads as it did. -/
def dataHandsSpec : ChangeSpec := { name := "dataHands", fn := fun _ => fun
  | [d1, d2] => { results := [.lit (.bool true)], args := [d1, d2] }
  | _ => none }
def dataHandsRow : OpenClaim := { program := "ytadnjjnnkhofdaa", sum := "7def8b2a0bd90a6715a2cc56451cf3272eb7d22c8ca7eed8bbdb602562414056", func := "detent/detentlaw13.DataHands", spec := "dataHands", inPlace := ["slices.overlaps[detent/order.Item]"], unfollowed := true, recurses := true, apart := false }
def DataHandsSaid : Prop := dataHandsRow.holds Try.pinned (OpenSpec.ofChange dataHandsSpec)

/-- ITS FALSE NEIGHBOUR: 'it returns false'. Refute it at one input. -/
def dataHandsWrong : ChangeSpec := { name := "dataHands", fn := fun _ => fun
  | [d1, d2] => { results := [.lit (.bool false)], args := [d1, d2] }
  | _ => none }
def DataHandsWrongFalsely : Prop := dataHandsRow.holds Try.pinned (OpenSpec.ofChange dataHandsWrong)

/-- 'detentlaw13.DataForces': WHATEVER THE INPUT: true; the input reads as it did. -/
def dataForcesSpec : ChangeSpec := { name := "dataForces", fn := fun _ => fun
  | [d1, d2] => { results := [.lit (.bool true)], args := [d1, d2] }
  | _ => none }
def dataForcesRow : OpenClaim := { program := "ytadnjjnnkhofdaa", sum := "7def8b2a0bd90a6715a2cc56451cf3272eb7d22c8ca7eed8bbdb602562414056", func := "detent/detentlaw13.DataForces", spec := "dataForces", inPlace := ["slices.overlaps[detent/order.Item]"], unfollowed := true, recurses := true, apart := false }
def DataForcesSaid : Prop := dataForcesRow.holds Try.pinned (OpenSpec.ofChange dataForcesSpec)

/-- ITS FALSE NEIGHBOUR: 'it returns false'. Refute it at one input. -/
def dataForcesWrong : ChangeSpec := { name := "dataForces", fn := fun _ => fun
  | [d1, d2] => { results := [.lit (.bool false)], args := [d1, d2] }
  | _ => none }
def DataForcesWrongFalsely : Prop := dataForcesRow.holds Try.pinned (OpenSpec.ofChange dataForcesWrong)

/-- 'detentlaw13.DataPlays': WHATEVER THE INPUT: true; the input reads as it did. -/
def dataPlaysSpec : ChangeSpec := { name := "dataPlays", fn := fun _ => fun
  | [d1, d2, d3] => { results := [.lit (.bool true)], args := [d1, d2, d3] }
  | _ => none }
def dataPlaysRow : OpenClaim := { program := "ytadnjjnnkhofdaa", sum := "7def8b2a0bd90a6715a2cc56451cf3272eb7d22c8ca7eed8bbdb602562414056", func := "detent/detentlaw13.DataPlays", spec := "dataPlays", inPlace := ["slices.overlaps[detent/order.Item]", "maps.clone"], unfollowed := true, recurses := true, apart := false }
def DataPlaysSaid : Prop := dataPlaysRow.holds Try.pinned (OpenSpec.ofChange dataPlaysSpec)

/-- ITS FALSE NEIGHBOUR: 'it returns false'. Refute it at one input. -/
def dataPlaysWrong : ChangeSpec := { name := "dataPlays", fn := fun _ => fun
  | [d1, d2, d3] => { results := [.lit (.bool false)], args := [d1, d2, d3] }
  | _ => none }
def DataPlaysWrongFalsely : Prop := dataPlaysRow.holds Try.pinned (OpenSpec.ofChange dataPlaysWrong)

/- THE SECOND FORM. 'bulk': how many values and letters a reading holds, each counted each time it is reached (what is shared counts as often as it is met; a slice's spare places count too). A statement '..UptoSaid' is the law's where the arguments, and the package variables that the reading takes, are together of bulk at most 1048576: NARROWER than '..Said'. Prove '..Said' where nothing that the law and all that it calls make is longer than what came in: it says more and counts as full. Else prove '..UptoSaid'. A law counts once. -/
mutual
def uptoBulk {H : Type} : DataW H → Nat
  | .lit (.string bytes) => bytes.length + 1
  | .lit _ => 1
  | .nil => 1
  | .ptr d => uptoBulk d + 1
  | .slice elems spare => uptoBulkAll elems + uptoBulkAll spare + 1
  | .agg parts => uptoBulkAll parts + 1
  | .iface _ d => uptoBulk d + 1
  | .map entries => uptoBulkEntries entries + 1
  | .held _ => 1
def uptoBulkAll {H : Type} : List (DataW H) → Nat
  | [] => 0
  | d :: r => uptoBulk d + uptoBulkAll r
def uptoBulkEntries {H : Type} : List (Lit × DataW H) → Nat
  | [] => 0
  | x :: r => uptoBulkEntry x + uptoBulkEntries r
def uptoBulkEntry {H : Type} : Lit × DataW H → Nat
  | (.string bytes, d) => bytes.length + uptoBulk d + 1
  | (_, d) => uptoBulk d + 1
 end
def uptoSmall : (H : Type) → List (DataW H) → Bool := fun _ ds => decide (uptoBulkAll ds ≤ 1048576)
def OpenSpec.upto (s : _root_.Go.ChangeSpec) : _root_.Go.OpenSpec := { _root_.Go.OpenSpec.ofChange s with cond := some uptoSmall }

/-- 'detentlaw13.DataDrops', WHERE WHAT IT READS IS OF BULK AT MOST 1048576: true; the input reads as it did. -/
def dataDropsUptoRow : OpenClaim := { program := "ytadnjjnnkhofdaa", sum := "7def8b2a0bd90a6715a2cc56451cf3272eb7d22c8ca7eed8bbdb602562414056", func := "detent/detentlaw13.DataDrops", spec := "dataDrops", inPlace := ["slices.overlaps[detent/order.Item]"], unfollowed := true, recurses := true, apart := false, narrowed := true }
def DataDropsUptoSaid : Prop := dataDropsUptoRow.holds Try.pinned (OpenSpec.upto dataDropsSpec)

/-- 'detentlaw13.DataFull', WHERE WHAT IT READS IS OF BULK AT MOST 1048576: true; the input reads as it did. -/
def dataFullUptoRow : OpenClaim := { program := "ytadnjjnnkhofdaa", sum := "7def8b2a0bd90a6715a2cc56451cf3272eb7d22c8ca7eed8bbdb602562414056", func := "detent/detentlaw13.DataFull", spec := "dataFull", inPlace := ["slices.overlaps[detent/order.Item]"], unfollowed := true, recurses := true, apart := false, narrowed := true }
def DataFullUptoSaid : Prop := dataFullUptoRow.holds Try.pinned (OpenSpec.upto dataFullSpec)

/-- 'detentlaw13.DataOrder', WHERE WHAT IT READS IS OF BULK AT MOST 1048576: true; the input reads as it did. -/
def dataOrderUptoRow : OpenClaim := { program := "ytadnjjnnkhofdaa", sum := "7def8b2a0bd90a6715a2cc56451cf3272eb7d22c8ca7eed8bbdb602562414056", func := "detent/detentlaw13.DataOrder", spec := "dataOrder", inPlace := ["slices.overlaps[detent/order.Item]"], unfollowed := true, recurses := true, apart := false, narrowed := true }
def DataOrderUptoSaid : Prop := dataOrderUptoRow.holds Try.pinned (OpenSpec.upto dataOrderSpec)

/-- 'detentlaw13.DataHands', WHERE WHAT IT READS IS OF BULK AT MOST 1048576: true; the input reads as it did. -/
def dataHandsUptoRow : OpenClaim := { program := "ytadnjjnnkhofdaa", sum := "7def8b2a0bd90a6715a2cc56451cf3272eb7d22c8ca7eed8bbdb602562414056", func := "detent/detentlaw13.DataHands", spec := "dataHands", inPlace := ["slices.overlaps[detent/order.Item]"], unfollowed := true, recurses := true, apart := false, narrowed := true }
def DataHandsUptoSaid : Prop := dataHandsUptoRow.holds Try.pinned (OpenSpec.upto dataHandsSpec)

/-- 'detentlaw13.DataForces', WHERE WHAT IT READS IS OF BULK AT MOST 1048576: true; the input reads as it did. -/
def dataForcesUptoRow : OpenClaim := { program := "ytadnjjnnkhofdaa", sum := "7def8b2a0bd90a6715a2cc56451cf3272eb7d22c8ca7eed8bbdb602562414056", func := "detent/detentlaw13.DataForces", spec := "dataForces", inPlace := ["slices.overlaps[detent/order.Item]"], unfollowed := true, recurses := true, apart := false, narrowed := true }
def DataForcesUptoSaid : Prop := dataForcesUptoRow.holds Try.pinned (OpenSpec.upto dataForcesSpec)

/-- 'detentlaw13.DataPlays', WHERE WHAT IT READS IS OF BULK AT MOST 1048576: true; the input reads as it did. -/
def dataPlaysUptoRow : OpenClaim := { program := "ytadnjjnnkhofdaa", sum := "7def8b2a0bd90a6715a2cc56451cf3272eb7d22c8ca7eed8bbdb602562414056", func := "detent/detentlaw13.DataPlays", spec := "dataPlays", inPlace := ["slices.overlaps[detent/order.Item]", "maps.clone"], unfollowed := true, recurses := true, apart := false, narrowed := true }
def DataPlaysUptoSaid : Prop := dataPlaysUptoRow.holds Try.pinned (OpenSpec.upto dataPlaysSpec)

end Rows
end Go.Proofs.Ytadnjjnnkhofdaa
