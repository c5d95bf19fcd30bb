/-
  No cell of these rows narrows 'for every input' (looked for: loops, veiled, ifaces, maps, wideKeys, modest, calm, conditions, laid).
  DERIVED. THE GIVEN ROWS OF THIS SEAT. 6 by the template 'for every input the law returns true; each argument reads behind the call as it read before'; 0 by the template 'total and deterministic' (their statements: YtkhalaoonamkjaaTotals.lean).
  GIVEN WITH THE SEED: the statements are not yours to turn. If you find one false, say at which input.
  Laid BY PROGRAM, IN A SANDBOX (cutbox-rows.mjs): the forced cells as the released guide's own fill.sh prints them over the translation 238d7d424b6e58ee… (all of the seat's roots in one cut). By AI agents, Wed Nov 11 2026. No macro, syntax, notation, axiom, sorry.
-/
import Derived.Test.YtkhalaoonamkjaaChecked
import GoSem.Claim
import GoSem.ClaimJoined
import GoSem.ClaimMapViews
import Derived.JoinedTies
import Derived.KernelRfl
namespace Go.Proofs.Ytkhalaoonamkjaa
/- THE CELL 'sum', in the pinned program and in every row, IS THE sha256 OF THE DUMP (.gsa) THAT YtkhalaoonamkjaaProg.lean LOADS. Nothing in Lean hashes anything: it is a label: what it is worth is what the hold of that sum in a sandbox is worth. -/
noncomputable def Try.pinned : Pinned := { name := "ytkhalaoonamkjaa", sum := "238d7d424b6e58ee8a88252c264a20514f472d6fa6ffae36a09eb122dfd3a5de", checked := Try.checked }
namespace Rows
def none {H : Type} : Left H := { results := [], args := [] }

/-- 'detentlaw12.FlagParts': WHATEVER THE INPUT: true; the input reads as it did. -/
def flagPartsSpec : ChangeSpec := { name := "flagParts", fn := fun _ => fun
  | [d1, d2, d3] => { results := [.lit (.bool true)], args := [d1, d2, d3] }
  | _ => none }
def flagPartsRow : OpenClaim := { program := "ytkhalaoonamkjaa", sum := "238d7d424b6e58ee8a88252c264a20514f472d6fa6ffae36a09eb122dfd3a5de", func := "detent/detentlaw12.FlagParts", spec := "flagParts", inPlace := ["slices.overlaps[detent/order.Item]"], unfollowed := true, recurses := true, apart := false }
def FlagPartsSaid : Prop := flagPartsRow.holds Try.pinned (OpenSpec.ofChange flagPartsSpec)

/-- ITS FALSE NEIGHBOUR: 'it returns false'. Refute it at one input. -/
def flagPartsWrong : ChangeSpec := { name := "flagParts", fn := fun _ => fun
  | [d1, d2, d3] => { results := [.lit (.bool false)], args := [d1, d2, d3] }
  | _ => none }
def FlagPartsWrongFalsely : Prop := flagPartsRow.holds Try.pinned (OpenSpec.ofChange flagPartsWrong)

/-- 'detentlaw12.FlagMeets': WHATEVER THE INPUT: true; the input reads as it did. -/
def flagMeetsSpec : ChangeSpec := { name := "flagMeets", fn := fun _ => fun
  | [d1, d2] => { results := [.lit (.bool true)], args := [d1, d2] }
  | _ => none }
def flagMeetsRow : OpenClaim := { program := "ytkhalaoonamkjaa", sum := "238d7d424b6e58ee8a88252c264a20514f472d6fa6ffae36a09eb122dfd3a5de", func := "detent/detentlaw12.FlagMeets", spec := "flagMeets", inPlace := ["slices.overlaps[detent/order.Item]"], unfollowed := true, recurses := true, apart := false }
def FlagMeetsSaid : Prop := flagMeetsRow.holds Try.pinned (OpenSpec.ofChange flagMeetsSpec)

/-- ITS FALSE NEIGHBOUR: 'it returns false'. Refute it at one input. -/
def flagMeetsWrong : ChangeSpec := { name := "flagMeets", fn := fun _ => fun
  | [d1, d2] => { results := [.lit (.bool false)], args := [d1, d2] }
  | _ => none }
def FlagMeetsWrongFalsely : Prop := flagMeetsRow.holds Try.pinned (OpenSpec.ofChange flagMeetsWrong)

/-- 'detentlaw12.FlagClears': WHATEVER THE INPUT: true; the input reads as it did. -/
def flagClearsSpec : ChangeSpec := { name := "flagClears", fn := fun _ => fun
  | [d1, d2] => { results := [.lit (.bool true)], args := [d1, d2] }
  | _ => none }
def flagClearsRow : OpenClaim := { program := "ytkhalaoonamkjaa", sum := "238d7d424b6e58ee8a88252c264a20514f472d6fa6ffae36a09eb122dfd3a5de", func := "detent/detentlaw12.FlagClears", spec := "flagClears", inPlace := ["slices.overlaps[detent/order.Item]"], unfollowed := true, recurses := true, apart := false }
def FlagClearsSaid : Prop := flagClearsRow.holds Try.pinned (OpenSpec.ofChange flagClearsSpec)

/-- ITS FALSE NEIGHBOUR: 'it returns false'. Refute it at one input. -/
def flagClearsWrong : ChangeSpec := { name := "flagClears", fn := fun _ => fun
  | [d1, d2] => { results := [.lit (.bool false)], args := [d1, d2] }
  | _ => none }
def FlagClearsWrongFalsely : Prop := flagClearsRow.holds Try.pinned (OpenSpec.ofChange flagClearsWrong)

/-- 'detentlaw12.FlagAlone': WHATEVER THE INPUT: true; the input reads as it did. -/
def flagAloneSpec : ChangeSpec := { name := "flagAlone", fn := fun _ => fun
  | [d1, d2] => { results := [.lit (.bool true)], args := [d1, d2] }
  | _ => none }
def flagAloneRow : OpenClaim := { program := "ytkhalaoonamkjaa", sum := "238d7d424b6e58ee8a88252c264a20514f472d6fa6ffae36a09eb122dfd3a5de", func := "detent/detentlaw12.FlagAlone", spec := "flagAlone", inPlace := ["slices.overlaps[detent/order.Item]"], unfollowed := true, recurses := true, apart := false }
def FlagAloneSaid : Prop := flagAloneRow.holds Try.pinned (OpenSpec.ofChange flagAloneSpec)

/-- ITS FALSE NEIGHBOUR: 'it returns false'. Refute it at one input. -/
def flagAloneWrong : ChangeSpec := { name := "flagAlone", fn := fun _ => fun
  | [d1, d2] => { results := [.lit (.bool false)], args := [d1, d2] }
  | _ => none }
def FlagAloneWrongFalsely : Prop := flagAloneRow.holds Try.pinned (OpenSpec.ofChange flagAloneWrong)

/-- 'detentlaw12.FlagLowers': WHATEVER THE INPUT: true; the input reads as it did. -/
def flagLowersSpec : ChangeSpec := { name := "flagLowers", fn := fun _ => fun
  | [d1, d2] => { results := [.lit (.bool true)], args := [d1, d2] }
  | _ => none }
def flagLowersRow : OpenClaim := { program := "ytkhalaoonamkjaa", sum := "238d7d424b6e58ee8a88252c264a20514f472d6fa6ffae36a09eb122dfd3a5de", func := "detent/detentlaw12.FlagLowers", spec := "flagLowers", inPlace := ["slices.overlaps[detent/order.Item]"], unfollowed := true, recurses := true, apart := false }
def FlagLowersSaid : Prop := flagLowersRow.holds Try.pinned (OpenSpec.ofChange flagLowersSpec)

/-- ITS FALSE NEIGHBOUR: 'it returns false'. Refute it at one input. -/
def flagLowersWrong : ChangeSpec := { name := "flagLowers", fn := fun _ => fun
  | [d1, d2] => { results := [.lit (.bool false)], args := [d1, d2] }
  | _ => none }
def FlagLowersWrongFalsely : Prop := flagLowersRow.holds Try.pinned (OpenSpec.ofChange flagLowersWrong)

/-- 'detentlaw12.FlagPlays': WHATEVER THE INPUT: true; the input reads as it did. -/
def flagPlaysSpec : ChangeSpec := { name := "flagPlays", fn := fun _ => fun
  | [d1, d2, d3, d4, d5] => { results := [.lit (.bool true)], args := [d1, d2, d3, d4, d5] }
  | _ => none }
def flagPlaysRow : OpenClaim := { program := "ytkhalaoonamkjaa", sum := "238d7d424b6e58ee8a88252c264a20514f472d6fa6ffae36a09eb122dfd3a5de", func := "detent/detentlaw12.FlagPlays", spec := "flagPlays", inPlace := ["slices.overlaps[detent/order.Item]", "maps.clone"], unfollowed := true, recurses := true, apart := false }
def FlagPlaysSaid : Prop := flagPlaysRow.holds Try.pinned (OpenSpec.ofChange flagPlaysSpec)

/-- ITS FALSE NEIGHBOUR: 'it returns false'. Refute it at one input. -/
def flagPlaysWrong : ChangeSpec := { name := "flagPlays", fn := fun _ => fun
  | [d1, d2, d3, d4, d5] => { results := [.lit (.bool false)], args := [d1, d2, d3, d4, d5] }
  | _ => none }
def FlagPlaysWrongFalsely : Prop := flagPlaysRow.holds Try.pinned (OpenSpec.ofChange flagPlaysWrong)

/- THE SECOND FORM. 'bulk': how many values and letters a reading holds, each counted each time it is reached (what is shared counts as often as it is met; a slice's spare places count too). A statement '..UptoSaid' is the law's where the arguments, and the package variables that the reading takes, are together of bulk at most 1048576: NARROWER than '..Said'. Prove '..Said' where nothing that the law and all that it calls make is longer than what came in: it says more and counts as full. Else prove '..UptoSaid'. A law counts once. -/
mutual
def uptoBulk {H : Type} : DataW H → Nat
  | .lit (.string bytes) => bytes.length + 1
  | .lit _ => 1
  | .nil => 1
  | .ptr d => uptoBulk d + 1
  | .slice elems spare => uptoBulkAll elems + uptoBulkAll spare + 1
  | .agg parts => uptoBulkAll parts + 1
  | .iface _ d => uptoBulk d + 1
  | .map entries => uptoBulkEntries entries + 1
  | .held _ => 1
def uptoBulkAll {H : Type} : List (DataW H) → Nat
  | [] => 0
  | d :: r => uptoBulk d + uptoBulkAll r
def uptoBulkEntries {H : Type} : List (Lit × DataW H) → Nat
  | [] => 0
  | x :: r => uptoBulkEntry x + uptoBulkEntries r
def uptoBulkEntry {H : Type} : Lit × DataW H → Nat
  | (.string bytes, d) => bytes.length + uptoBulk d + 1
  | (_, d) => uptoBulk d + 1
 end
def uptoSmall : (H : Type) → List (DataW H) → Bool := fun _ ds => decide (uptoBulkAll ds ≤ 1048576)
def OpenSpec.upto (s : _root_.Go.ChangeSpec) : _root_.Go.OpenSpec := { _root_.Go.OpenSpec.ofChange s with cond := some uptoSmall }

/-- 'detentlaw12.FlagParts', WHERE WHAT IT READS IS OF BULK AT MOST 1048576: true; the input reads as it did. -/
def flagPartsUptoRow : OpenClaim := { program := "ytkhalaoonamkjaa", sum := "238d7d424b6e58ee8a88252c264a20514f472d6fa6ffae36a09eb122dfd3a5de", func := "detent/detentlaw12.FlagParts", spec := "flagParts", inPlace := ["slices.overlaps[detent/order.Item]"], unfollowed := true, recurses := true, apart := false, narrowed := true }
def FlagPartsUptoSaid : Prop := flagPartsUptoRow.holds Try.pinned (OpenSpec.upto flagPartsSpec)

/-- 'detentlaw12.FlagMeets', WHERE WHAT IT READS IS OF BULK AT MOST 1048576: true; the input reads as it did. -/
def flagMeetsUptoRow : OpenClaim := { program := "ytkhalaoonamkjaa", sum := "238d7d424b6e58ee8a88252c264a20514f472d6fa6ffae36a09eb122dfd3a5de", func := "detent/detentlaw12.FlagMeets", spec := "flagMeets", inPlace := ["slices.overlaps[detent/order.Item]"], unfollowed := true, recurses := true, apart := false, narrowed := true }
def FlagMeetsUptoSaid : Prop := flagMeetsUptoRow.holds Try.pinned (OpenSpec.upto flagMeetsSpec)

/-- 'detentlaw12.FlagClears', WHERE WHAT IT READS IS OF BULK AT MOST 1048576: true; the input reads as it did. -/
def flagClearsUptoRow : OpenClaim := { program := "ytkhalaoonamkjaa", sum := "238d7d424b6e58ee8a88252c264a20514f472d6fa6ffae36a09eb122dfd3a5de", func := "detent/detentlaw12.FlagClears", spec := "flagClears", inPlace := ["slices.overlaps[detent/order.Item]"], unfollowed := true, recurses := true, apart := false, narrowed := true }
def FlagClearsUptoSaid : Prop := flagClearsUptoRow.holds Try.pinned (OpenSpec.upto flagClearsSpec)

/-- 'detentlaw12.FlagAlone', WHERE WHAT IT READS IS OF BULK AT MOST 1048576: true; the input reads as it did. -/
def flagAloneUptoRow : OpenClaim := { program := "ytkhalaoonamkjaa", sum := "238d7d424b6e58ee8a88252c264a20514f472d6fa6ffae36a09eb122dfd3a5de", func := "detent/detentlaw12.FlagAlone", spec := "flagAlone", inPlace := ["slices.overlaps[detent/order.Item]"], unfollowed := true, recurses := true, apart := false, narrowed := true }
def FlagAloneUptoSaid : Prop := flagAloneUptoRow.holds Try.pinned (OpenSpec.upto flagAloneSpec)

/-- 'detentlaw12.FlagLowers', WHERE WHAT IT READS IS OF BULK AT MOST 1048576: true; the input reads as it did. -/
def flagLowersUptoRow : OpenClaim := { program := "ytkhalaoonamkjaa", sum := "238d7d424b6e58ee8a88252c264a20514f472d6fa6ffae36a09eb122dfd3a5de", func := "detent/detentlaw12.FlagLowers", spec := "flagLowers", inPlace := ["slices.overlaps[detent/order.Item]"], unfollowed := true, recurses := true, apart := false, narrowed := true }
def FlagLowersUptoSaid : Prop := flagLowersUptoRow.holds Try.pinned (OpenSpec.upto flagLowersSpec)

/-- 'detentlaw12.FlagPlays', WHERE WHAT IT READS IS OF BULK AT MOST 1048576: true; the input reads as it did. -/
def flagPlaysUptoRow : OpenClaim := { program := "ytkhalaoonamkjaa", sum := "238d7d424b6e58ee8a88252c264a20514f472d6fa6ffae36a09eb122dfd3a5de", func := "detent/detentlaw12.FlagPlays", spec := "flagPlays", inPlace := ["slices.overlaps[detent/order.Item]", "maps.clone"], unfollowed := true, recurses := true, apart := false, narrowed := true }
def FlagPlaysUptoSaid : Prop := flagPlaysUptoRow.holds Try.pinned (OpenSpec.upto flagPlaysSpec)

end Rows
end Go.Proofs.Ytkhalaoonamkjaa
