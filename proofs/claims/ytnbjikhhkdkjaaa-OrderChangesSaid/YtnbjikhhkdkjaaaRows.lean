/-
  No cell of these rows narrows 'for every input' (looked for: loops, veiled, ifaces, maps, wideKeys, modest, calm, conditions, laid).
  DERIVED. THE GIVEN ROWS OF THIS SEAT. 7 by the template 'for every input the law returns true; each argument reads behind the call as it read before'; 0 by the template 'total and deterministic' (their statements: YtnbjikhhkdkjaaaTotals.lean).
  GIVEN WITH THE SEED: the statements are not yours to turn. If you find one false, say at which input.
  Laid BY PROGRAM, IN A SANDBOX (cutbox-rows.mjs): the forced cells as the released guide's own fill.sh prints them over the translation 5f9cd15cdedce594… (all of the seat's roots in one cut). By AI agents, Wed Nov 11 2026. No macro, syntax, notation, axiom, sorry.
-/
import Derived.Test.YtnbjikhhkdkjaaaChecked
import GoSem.Claim
import GoSem.ClaimJoined
import GoSem.ClaimMapViews
import Derived.JoinedTies
import Derived.KernelRfl
namespace Go.Proofs.Ytnbjikhhkdkjaaa
/- THE CELL 'sum', in the pinned program and in every row, IS THE sha256 OF THE DUMP (.gsa) THAT YtnbjikhhkdkjaaaProg.lean LOADS. Nothing in Lean hashes anything: it is a label: what it is worth is what the hold of that sum in a sandbox is worth. -/
noncomputable def Try.pinned : Pinned := { name := "ytnbjikhhkdkjaaa", sum := "5f9cd15cdedce5946686100999cb95aa129114efa23f38cabec9b2cce408d26f", checked := Try.checked }
namespace Rows
def none {H : Type} : Left H := { results := [], args := [] }

/-- 'detentlaw4.OrderSorts': WHATEVER THE INPUT: true; the input reads as it did. -/
def orderSortsSpec : ChangeSpec := { name := "orderSorts", fn := fun _ => fun
  | [d] => { results := [.lit (.bool true)], args := [d] }
  | _ => none }
def orderSortsRow : OpenClaim := { program := "ytnbjikhhkdkjaaa", sum := "5f9cd15cdedce5946686100999cb95aa129114efa23f38cabec9b2cce408d26f", func := "detent/detentlaw4.OrderSorts", spec := "orderSorts", inPlace := ["slices.overlaps[detent/order.Item]"], unfollowed := true, recurses := true, apart := false }
def OrderSortsSaid : Prop := orderSortsRow.holds Try.pinned (OpenSpec.ofChange orderSortsSpec)

/-- ITS FALSE NEIGHBOUR: 'it returns false'. Refute it at one input. -/
def orderSortsWrong : ChangeSpec := { name := "orderSorts", fn := fun _ => fun
  | [d] => { results := [.lit (.bool false)], args := [d] }
  | _ => none }
def OrderSortsWrongFalsely : Prop := orderSortsRow.holds Try.pinned (OpenSpec.ofChange orderSortsWrong)

/-- 'detentlaw4.OrderArrives': WHATEVER THE INPUT: true; the input reads as it did. -/
def orderArrivesSpec : ChangeSpec := { name := "orderArrives", fn := fun _ => fun
  | [d1, d2] => { results := [.lit (.bool true)], args := [d1, d2] }
  | _ => none }
def orderArrivesRow : OpenClaim := { program := "ytnbjikhhkdkjaaa", sum := "5f9cd15cdedce5946686100999cb95aa129114efa23f38cabec9b2cce408d26f", func := "detent/detentlaw4.OrderArrives", spec := "orderArrives", inPlace := ["slices.overlaps[detent/order.Item]"], unfollowed := true, recurses := true, apart := false }
def OrderArrivesSaid : Prop := orderArrivesRow.holds Try.pinned (OpenSpec.ofChange orderArrivesSpec)

/-- ITS FALSE NEIGHBOUR: 'it returns false'. Refute it at one input. -/
def orderArrivesWrong : ChangeSpec := { name := "orderArrives", fn := fun _ => fun
  | [d1, d2] => { results := [.lit (.bool false)], args := [d1, d2] }
  | _ => none }
def OrderArrivesWrongFalsely : Prop := orderArrivesRow.holds Try.pinned (OpenSpec.ofChange orderArrivesWrong)

/-- 'detentlaw4.OrderZero': WHATEVER THE INPUT: true; the input reads as it did. -/
def orderZeroSpec : ChangeSpec := { name := "orderZero", fn := fun _ => fun
  | [d] => { results := [.lit (.bool true)], args := [d] }
  | _ => none }
def orderZeroRow : OpenClaim := { program := "ytnbjikhhkdkjaaa", sum := "5f9cd15cdedce5946686100999cb95aa129114efa23f38cabec9b2cce408d26f", func := "detent/detentlaw4.OrderZero", spec := "orderZero", inPlace := ["slices.overlaps[detent/order.Item]"], unfollowed := true, recurses := true, apart := false }
def OrderZeroSaid : Prop := orderZeroRow.holds Try.pinned (OpenSpec.ofChange orderZeroSpec)

/-- ITS FALSE NEIGHBOUR: 'it returns false'. Refute it at one input. -/
def orderZeroWrong : ChangeSpec := { name := "orderZero", fn := fun _ => fun
  | [d] => { results := [.lit (.bool false)], args := [d] }
  | _ => none }
def OrderZeroWrongFalsely : Prop := orderZeroRow.holds Try.pinned (OpenSpec.ofChange orderZeroWrong)

/-- 'detentlaw4.OrderChanges': WHATEVER THE INPUT: true; the input reads as it did. -/
def orderChangesSpec : ChangeSpec := { name := "orderChanges", fn := fun _ => fun
  | [d1, d2, d3] => { results := [.lit (.bool true)], args := [d1, d2, d3] }
  | _ => none }
def orderChangesRow : OpenClaim := { program := "ytnbjikhhkdkjaaa", sum := "5f9cd15cdedce5946686100999cb95aa129114efa23f38cabec9b2cce408d26f", func := "detent/detentlaw4.OrderChanges", spec := "orderChanges", inPlace := ["slices.overlaps[detent/order.Item]"], unfollowed := true, recurses := true, apart := false }
def OrderChangesSaid : Prop := orderChangesRow.holds Try.pinned (OpenSpec.ofChange orderChangesSpec)

/-- ITS FALSE NEIGHBOUR: 'it returns false'. Refute it at one input. -/
def orderChangesWrong : ChangeSpec := { name := "orderChanges", fn := fun _ => fun
  | [d1, d2, d3] => { results := [.lit (.bool false)], args := [d1, d2, d3] }
  | _ => none }
def OrderChangesWrongFalsely : Prop := orderChangesRow.holds Try.pinned (OpenSpec.ofChange orderChangesWrong)

/-- 'detentlaw4.OrderRefuses': WHATEVER THE INPUT: true; the input reads as it did. -/
def orderRefusesSpec : ChangeSpec := { name := "orderRefuses", fn := fun _ => fun
  | [d1, d2, d3] => { results := [.lit (.bool true)], args := [d1, d2, d3] }
  | _ => none }
def orderRefusesRow : OpenClaim := { program := "ytnbjikhhkdkjaaa", sum := "5f9cd15cdedce5946686100999cb95aa129114efa23f38cabec9b2cce408d26f", func := "detent/detentlaw4.OrderRefuses", spec := "orderRefuses", inPlace := ["slices.overlaps[detent/order.Item]"], unfollowed := true, recurses := true, apart := false }
def OrderRefusesSaid : Prop := orderRefusesRow.holds Try.pinned (OpenSpec.ofChange orderRefusesSpec)

/-- ITS FALSE NEIGHBOUR: 'it returns false'. Refute it at one input. -/
def orderRefusesWrong : ChangeSpec := { name := "orderRefuses", fn := fun _ => fun
  | [d1, d2, d3] => { results := [.lit (.bool false)], args := [d1, d2, d3] }
  | _ => none }
def OrderRefusesWrongFalsely : Prop := orderRefusesRow.holds Try.pinned (OpenSpec.ofChange orderRefusesWrong)

/-- 'detentlaw4.OrderPlays': WHATEVER THE INPUT: true; the input reads as it did. -/
def orderPlaysSpec : ChangeSpec := { name := "orderPlays", fn := fun _ => fun
  | [d1, d2] => { results := [.lit (.bool true)], args := [d1, d2] }
  | _ => none }
def orderPlaysRow : OpenClaim := { program := "ytnbjikhhkdkjaaa", sum := "5f9cd15cdedce5946686100999cb95aa129114efa23f38cabec9b2cce408d26f", func := "detent/detentlaw4.OrderPlays", spec := "orderPlays", inPlace := ["slices.overlaps[detent/order.Item]"], unfollowed := true, recurses := true, apart := false }
def OrderPlaysSaid : Prop := orderPlaysRow.holds Try.pinned (OpenSpec.ofChange orderPlaysSpec)

/-- ITS FALSE NEIGHBOUR: 'it returns false'. Refute it at one input. -/
def orderPlaysWrong : ChangeSpec := { name := "orderPlays", fn := fun _ => fun
  | [d1, d2] => { results := [.lit (.bool false)], args := [d1, d2] }
  | _ => none }
def OrderPlaysWrongFalsely : Prop := orderPlaysRow.holds Try.pinned (OpenSpec.ofChange orderPlaysWrong)

/-- 'detentlaw4.OrderTwins': WHATEVER THE INPUT: true; the input reads as it did. -/
def orderTwinsSpec : ChangeSpec := { name := "orderTwins", fn := fun _ => fun
  | [d1, d2, d3] => { results := [.lit (.bool true)], args := [d1, d2, d3] }
  | _ => none }
def orderTwinsRow : OpenClaim := { program := "ytnbjikhhkdkjaaa", sum := "5f9cd15cdedce5946686100999cb95aa129114efa23f38cabec9b2cce408d26f", func := "detent/detentlaw4.OrderTwins", spec := "orderTwins", inPlace := ["slices.overlaps[detent/order.Item]"], unfollowed := true, recurses := true, apart := false }
def OrderTwinsSaid : Prop := orderTwinsRow.holds Try.pinned (OpenSpec.ofChange orderTwinsSpec)

/-- ITS FALSE NEIGHBOUR: 'it returns false'. Refute it at one input. -/
def orderTwinsWrong : ChangeSpec := { name := "orderTwins", fn := fun _ => fun
  | [d1, d2, d3] => { results := [.lit (.bool false)], args := [d1, d2, d3] }
  | _ => none }
def OrderTwinsWrongFalsely : Prop := orderTwinsRow.holds Try.pinned (OpenSpec.ofChange orderTwinsWrong)

/- THE SECOND FORM. 'bulk': how many values and letters a reading holds, each counted each time it is reached (what is shared counts as often as it is met; a slice's spare places count too). A statement '..UptoSaid' is the law's where the arguments, and the package variables that the reading takes, are together of bulk at most 1048576: NARROWER than '..Said'. Prove '..Said' where nothing that the law and all that it calls make is longer than what came in: it says more and counts as full. Else prove '..UptoSaid'. A law counts once. -/
mutual
def uptoBulk {H : Type} : DataW H → Nat
  | .lit (.string bytes) => bytes.length + 1
  | .lit _ => 1
  | .nil => 1
  | .ptr d => uptoBulk d + 1
  | .slice elems spare => uptoBulkAll elems + uptoBulkAll spare + 1
  | .agg parts => uptoBulkAll parts + 1
  | .iface _ d => uptoBulk d + 1
  | .map entries => uptoBulkEntries entries + 1
  | .held _ => 1
def uptoBulkAll {H : Type} : List (DataW H) → Nat
  | [] => 0
  | d :: r => uptoBulk d + uptoBulkAll r
def uptoBulkEntries {H : Type} : List (Lit × DataW H) → Nat
  | [] => 0
  | x :: r => uptoBulkEntry x + uptoBulkEntries r
def uptoBulkEntry {H : Type} : Lit × DataW H → Nat
  | (.string bytes, d) => bytes.length + uptoBulk d + 1
  | (_, d) => uptoBulk d + 1
 end
def uptoSmall : (H : Type) → List (DataW H) → Bool := fun _ ds => decide (uptoBulkAll ds ≤ 1048576)
def OpenSpec.upto (s : _root_.Go.ChangeSpec) : _root_.Go.OpenSpec := { _root_.Go.OpenSpec.ofChange s with cond := some uptoSmall }

/-- 'detentlaw4.OrderSorts', WHERE WHAT IT READS IS OF BULK AT MOST 1048576: true; the input reads as it did. -/
def orderSortsUptoRow : OpenClaim := { program := "ytnbjikhhkdkjaaa", sum := "5f9cd15cdedce5946686100999cb95aa129114efa23f38cabec9b2cce408d26f", func := "detent/detentlaw4.OrderSorts", spec := "orderSorts", inPlace := ["slices.overlaps[detent/order.Item]"], unfollowed := true, recurses := true, apart := false, narrowed := true }
def OrderSortsUptoSaid : Prop := orderSortsUptoRow.holds Try.pinned (OpenSpec.upto orderSortsSpec)

/-- 'detentlaw4.OrderArrives', WHERE WHAT IT READS IS OF BULK AT MOST 1048576: true; the input reads as it did. -/
def orderArrivesUptoRow : OpenClaim := { program := "ytnbjikhhkdkjaaa", sum := "5f9cd15cdedce5946686100999cb95aa129114efa23f38cabec9b2cce408d26f", func := "detent/detentlaw4.OrderArrives", spec := "orderArrives", inPlace := ["slices.overlaps[detent/order.Item]"], unfollowed := true, recurses := true, apart := false, narrowed := true }
def OrderArrivesUptoSaid : Prop := orderArrivesUptoRow.holds Try.pinned (OpenSpec.upto orderArrivesSpec)

/-- 'detentlaw4.OrderZero', WHERE WHAT IT READS IS OF BULK AT MOST 1048576: true; the input reads as it did. -/
def orderZeroUptoRow : OpenClaim := { program := "ytnbjikhhkdkjaaa", sum := "5f9cd15cdedce5946686100999cb95aa129114efa23f38cabec9b2cce408d26f", func := "detent/detentlaw4.OrderZero", spec := "orderZero", inPlace := ["slices.overlaps[detent/order.Item]"], unfollowed := true, recurses := true, apart := false, narrowed := true }
def OrderZeroUptoSaid : Prop := orderZeroUptoRow.holds Try.pinned (OpenSpec.upto orderZeroSpec)

/-- 'detentlaw4.OrderChanges', WHERE WHAT IT READS IS OF BULK AT MOST 1048576: true; the input reads as it did. -/
def orderChangesUptoRow : OpenClaim := { program := "ytnbjikhhkdkjaaa", sum := "5f9cd15cdedce5946686100999cb95aa129114efa23f38cabec9b2cce408d26f", func := "detent/detentlaw4.OrderChanges", spec := "orderChanges", inPlace := ["slices.overlaps[detent/order.Item]"], unfollowed := true, recurses := true, apart := false, narrowed := true }
def OrderChangesUptoSaid : Prop := orderChangesUptoRow.holds Try.pinned (OpenSpec.upto orderChangesSpec)

/-- 'detentlaw4.OrderRefuses', WHERE WHAT IT READS IS OF BULK AT MOST 1048576: true; the input reads as it did. -/
def orderRefusesUptoRow : OpenClaim := { program := "ytnbjikhhkdkjaaa", sum := "5f9cd15cdedce5946686100999cb95aa129114efa23f38cabec9b2cce408d26f", func := "detent/detentlaw4.OrderRefuses", spec := "orderRefuses", inPlace := ["slices.overlaps[detent/order.Item]"], unfollowed := true, recurses := true, apart := false, narrowed := true }
def OrderRefusesUptoSaid : Prop := orderRefusesUptoRow.holds Try.pinned (OpenSpec.upto orderRefusesSpec)

/-- 'detentlaw4.OrderPlays', WHERE WHAT IT READS IS OF BULK AT MOST 1048576: true; the input reads as it did. -/
def orderPlaysUptoRow : OpenClaim := { program := "ytnbjikhhkdkjaaa", sum := "5f9cd15cdedce5946686100999cb95aa129114efa23f38cabec9b2cce408d26f", func := "detent/detentlaw4.OrderPlays", spec := "orderPlays", inPlace := ["slices.overlaps[detent/order.Item]"], unfollowed := true, recurses := true, apart := false, narrowed := true }
def OrderPlaysUptoSaid : Prop := orderPlaysUptoRow.holds Try.pinned (OpenSpec.upto orderPlaysSpec)

/-- 'detentlaw4.OrderTwins', WHERE WHAT IT READS IS OF BULK AT MOST 1048576: true; the input reads as it did. -/
def orderTwinsUptoRow : OpenClaim := { program := "ytnbjikhhkdkjaaa", sum := "5f9cd15cdedce5946686100999cb95aa129114efa23f38cabec9b2cce408d26f", func := "detent/detentlaw4.OrderTwins", spec := "orderTwins", inPlace := ["slices.overlaps[detent/order.Item]"], unfollowed := true, recurses := true, apart := false, narrowed := true }
def OrderTwinsUptoSaid : Prop := orderTwinsUptoRow.holds Try.pinned (OpenSpec.upto orderTwinsSpec)

end Rows
end Go.Proofs.Ytnbjikhhkdkjaaa
