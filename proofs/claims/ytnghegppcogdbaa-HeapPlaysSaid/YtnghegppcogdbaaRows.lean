/-
  No cell of these rows narrows 'for every input' (looked for: loops, veiled, ifaces, maps, wideKeys, modest, calm, conditions, laid).
  DERIVED. THE GIVEN ROWS OF THIS SEAT. 4 by the template 'for every input the law returns true; each argument reads behind the call as it read before'; 0 by the template 'total and deterministic' (their statements: YtnghegppcogdbaaTotals.lean).
  GIVEN WITH THE SEED: the statements are not yours to turn. If you find one false, say at which input.
  Laid BY PROGRAM, IN A SANDBOX (cutbox-rows.mjs): the forced cells as the released guide's own fill.sh prints them over the translation 03c2d7a659d2e9db… (all of the seat's roots in one cut). By AI agents, Wed Nov 11 2026. No macro, syntax, notation, axiom, sorry.
-/
import Derived.Test.YtnghegppcogdbaaChecked
import GoSem.Claim
import GoSem.ClaimJoined
import GoSem.ClaimMapViews
import Derived.JoinedTies
import Derived.KernelRfl
namespace Go.Proofs.Ytnghegppcogdbaa
/- THE CELL 'sum', in the pinned program and in every row, IS THE sha256 OF THE DUMP (.gsa) THAT YtnghegppcogdbaaProg.lean LOADS. Nothing in Lean hashes anything: it is a label: what it is worth is what the hold of that sum in a sandbox is worth. -/
noncomputable def Try.pinned : Pinned := { name := "ytnghegppcogdbaa", sum := "03c2d7a659d2e9db95aad9df2a9df525ec78ddf8d32e5c1c3884566279c4bd3b", checked := Try.checked }
namespace Rows
def none {H : Type} : Left H := { results := [], args := [] }

/-- 'detentlaw19.HeapApart': WHATEVER THE INPUT: true; the input reads as it did. -/
def heapApartSpec : ChangeSpec := { name := "heapApart", fn := fun _ => fun
  | [d1, d2, d3] => { results := [.lit (.bool true)], args := [d1, d2, d3] }
  | _ => none }
def heapApartRow : OpenClaim := { program := "ytnghegppcogdbaa", sum := "03c2d7a659d2e9db95aad9df2a9df525ec78ddf8d32e5c1c3884566279c4bd3b", func := "detent/detentlaw19.HeapApart", spec := "heapApart", inPlace := ["slices.overlaps[detent/mpl.block]", "slices.overlaps[detent/order.Item]"], unfollowed := true, recurses := true, apart := false }
def HeapApartSaid : Prop := heapApartRow.holds Try.pinned (OpenSpec.ofChange heapApartSpec)

/-- ITS FALSE NEIGHBOUR: 'it returns false'. Refute it at one input. -/
def heapApartWrong : ChangeSpec := { name := "heapApart", fn := fun _ => fun
  | [d1, d2, d3] => { results := [.lit (.bool false)], args := [d1, d2, d3] }
  | _ => none }
def HeapApartWrongFalsely : Prop := heapApartRow.holds Try.pinned (OpenSpec.ofChange heapApartWrong)

/-- 'detentlaw19.HeapFirst': WHATEVER THE INPUT: true; the input reads as it did. -/
def heapFirstSpec : ChangeSpec := { name := "heapFirst", fn := fun _ => fun
  | [d1, d2, d3] => { results := [.lit (.bool true)], args := [d1, d2, d3] }
  | _ => none }
def heapFirstRow : OpenClaim := { program := "ytnghegppcogdbaa", sum := "03c2d7a659d2e9db95aad9df2a9df525ec78ddf8d32e5c1c3884566279c4bd3b", func := "detent/detentlaw19.HeapFirst", spec := "heapFirst", inPlace := ["slices.overlaps[detent/mpl.block]", "slices.overlaps[detent/order.Item]"], unfollowed := true, recurses := true, apart := false }
def HeapFirstSaid : Prop := heapFirstRow.holds Try.pinned (OpenSpec.ofChange heapFirstSpec)

/-- ITS FALSE NEIGHBOUR: 'it returns false'. Refute it at one input. -/
def heapFirstWrong : ChangeSpec := { name := "heapFirst", fn := fun _ => fun
  | [d1, d2, d3] => { results := [.lit (.bool false)], args := [d1, d2, d3] }
  | _ => none }
def HeapFirstWrongFalsely : Prop := heapFirstRow.holds Try.pinned (OpenSpec.ofChange heapFirstWrong)

/-- 'detentlaw19.HeapWaits': WHATEVER THE INPUT: true; the input reads as it did. -/
def heapWaitsSpec : ChangeSpec := { name := "heapWaits", fn := fun _ => fun
  | [d1, d2] => { results := [.lit (.bool true)], args := [d1, d2] }
  | _ => none }
def heapWaitsRow : OpenClaim := { program := "ytnghegppcogdbaa", sum := "03c2d7a659d2e9db95aad9df2a9df525ec78ddf8d32e5c1c3884566279c4bd3b", func := "detent/detentlaw19.HeapWaits", spec := "heapWaits", inPlace := ["slices.overlaps[detent/mpl.block]", "slices.overlaps[detent/order.Item]"], unfollowed := true, recurses := true, apart := false }
def HeapWaitsSaid : Prop := heapWaitsRow.holds Try.pinned (OpenSpec.ofChange heapWaitsSpec)

/-- ITS FALSE NEIGHBOUR: 'it returns false'. Refute it at one input. -/
def heapWaitsWrong : ChangeSpec := { name := "heapWaits", fn := fun _ => fun
  | [d1, d2] => { results := [.lit (.bool false)], args := [d1, d2] }
  | _ => none }
def HeapWaitsWrongFalsely : Prop := heapWaitsRow.holds Try.pinned (OpenSpec.ofChange heapWaitsWrong)

/-- 'detentlaw19.HeapPlays': WHATEVER THE INPUT: true; the input reads as it did. -/
def heapPlaysSpec : ChangeSpec := { name := "heapPlays", fn := fun _ => fun
  | [d1, d2, d3, d4, d5, d6] => { results := [.lit (.bool true)], args := [d1, d2, d3, d4, d5, d6] }
  | _ => none }
def heapPlaysRow : OpenClaim := { program := "ytnghegppcogdbaa", sum := "03c2d7a659d2e9db95aad9df2a9df525ec78ddf8d32e5c1c3884566279c4bd3b", func := "detent/detentlaw19.HeapPlays", spec := "heapPlays", inPlace := ["slices.overlaps[detent/mpl.block]", "slices.overlaps[detent/order.Item]", "maps.clone"], unfollowed := true, recurses := true, apart := false }
def HeapPlaysSaid : Prop := heapPlaysRow.holds Try.pinned (OpenSpec.ofChange heapPlaysSpec)

/-- ITS FALSE NEIGHBOUR: 'it returns false'. Refute it at one input. -/
def heapPlaysWrong : ChangeSpec := { name := "heapPlays", fn := fun _ => fun
  | [d1, d2, d3, d4, d5, d6] => { results := [.lit (.bool false)], args := [d1, d2, d3, d4, d5, d6] }
  | _ => none }
def HeapPlaysWrongFalsely : Prop := heapPlaysRow.holds Try.pinned (OpenSpec.ofChange heapPlaysWrong)

/- THE SECOND FORM. 'bulk': how many values and letters a reading holds, each counted each time it is reached (what is shared counts as often as it is met; a slice's spare places count too). A statement '..UptoSaid' is the law's where the arguments, and the package variables that the reading takes, are together of bulk at most 1048576: NARROWER than '..Said'. Prove '..Said' where nothing that the law and all that it calls make is longer than what came in: it says more and counts as full. Else prove '..UptoSaid'. A law counts once. -/
mutual
def uptoBulk {H : Type} : DataW H → Nat
  | .lit (.string bytes) => bytes.length + 1
  | .lit _ => 1
  | .nil => 1
  | .ptr d => uptoBulk d + 1
  | .slice elems spare => uptoBulkAll elems + uptoBulkAll spare + 1
  | .agg parts => uptoBulkAll parts + 1
  | .iface _ d => uptoBulk d + 1
  | .map entries => uptoBulkEntries entries + 1
  | .held _ => 1
def uptoBulkAll {H : Type} : List (DataW H) → Nat
  | [] => 0
  | d :: r => uptoBulk d + uptoBulkAll r
def uptoBulkEntries {H : Type} : List (Lit × DataW H) → Nat
  | [] => 0
  | x :: r => uptoBulkEntry x + uptoBulkEntries r
def uptoBulkEntry {H : Type} : Lit × DataW H → Nat
  | (.string bytes, d) => bytes.length + uptoBulk d + 1
  | (_, d) => uptoBulk d + 1
 end
def uptoSmall : (H : Type) → List (DataW H) → Bool := fun _ ds => decide (uptoBulkAll ds ≤ 1048576)
def OpenSpec.upto (s : _root_.Go.ChangeSpec) : _root_.Go.OpenSpec := { _root_.Go.OpenSpec.ofChange s with cond := some uptoSmall }

/-- 'detentlaw19.HeapApart', WHERE WHAT IT READS IS OF BULK AT MOST 1048576: true; the input reads as it did. -/
def heapApartUptoRow : OpenClaim := { program := "ytnghegppcogdbaa", sum := "03c2d7a659d2e9db95aad9df2a9df525ec78ddf8d32e5c1c3884566279c4bd3b", func := "detent/detentlaw19.HeapApart", spec := "heapApart", inPlace := ["slices.overlaps[detent/mpl.block]", "slices.overlaps[detent/order.Item]"], unfollowed := true, recurses := true, apart := false, narrowed := true }
def HeapApartUptoSaid : Prop := heapApartUptoRow.holds Try.pinned (OpenSpec.upto heapApartSpec)

/-- 'detentlaw19.HeapFirst', WHERE WHAT IT READS IS OF BULK AT MOST 1048576: true; the input reads as it did. -/
def heapFirstUptoRow : OpenClaim := { program := "ytnghegppcogdbaa", sum := "03c2d7a659d2e9db95aad9df2a9df525ec78ddf8d32e5c1c3884566279c4bd3b", func := "detent/detentlaw19.HeapFirst", spec := "heapFirst", inPlace := ["slices.overlaps[detent/mpl.block]", "slices.overlaps[detent/order.Item]"], unfollowed := true, recurses := true, apart := false, narrowed := true }
def HeapFirstUptoSaid : Prop := heapFirstUptoRow.holds Try.pinned (OpenSpec.upto heapFirstSpec)

/-- 'detentlaw19.HeapWaits', WHERE WHAT IT READS IS OF BULK AT MOST 1048576: true; the input reads as it did. -/
def heapWaitsUptoRow : OpenClaim := { program := "ytnghegppcogdbaa", sum := "03c2d7a659d2e9db95aad9df2a9df525ec78ddf8d32e5c1c3884566279c4bd3b", func := "detent/detentlaw19.HeapWaits", spec := "heapWaits", inPlace := ["slices.overlaps[detent/mpl.block]", "slices.overlaps[detent/order.Item]"], unfollowed := true, recurses := true, apart := false, narrowed := true }
def HeapWaitsUptoSaid : Prop := heapWaitsUptoRow.holds Try.pinned (OpenSpec.upto heapWaitsSpec)

/-- 'detentlaw19.HeapPlays', WHERE WHAT IT READS IS OF BULK AT MOST 1048576: true; the input reads as it did. -/
def heapPlaysUptoRow : OpenClaim := { program := "ytnghegppcogdbaa", sum := "03c2d7a659d2e9db95aad9df2a9df525ec78ddf8d32e5c1c3884566279c4bd3b", func := "detent/detentlaw19.HeapPlays", spec := "heapPlays", inPlace := ["slices.overlaps[detent/mpl.block]", "slices.overlaps[detent/order.Item]", "maps.clone"], unfollowed := true, recurses := true, apart := false, narrowed := true }
def HeapPlaysUptoSaid : Prop := heapPlaysUptoRow.holds Try.pinned (OpenSpec.upto heapPlaysSpec)

end Rows
end Go.Proofs.Ytnghegppcogdbaa
