/-
  No cell of these rows narrows 'for every input' (looked for: loops, veiled, ifaces, maps, wideKeys, modest, calm, conditions, laid).
  DERIVED. THE GIVEN ROWS OF THIS SEAT. 4 by the template 'for every input the law returns true; each argument reads behind the call as it read before'; 0 by the template 'total and deterministic' (their statements: YtiepcdoknmpemaaTotals.lean).
  GIVEN WITH THE SEED: the statements are not yours to turn. If you find one false, say at which input.
  Laid BY PROGRAM, IN A SANDBOX (cutbox-rows.mjs): the forced cells as the released guide's own fill.sh prints them over the translation c2a0afe69c127e58… (all of the seat's roots in one cut). By AI agents, Wed Nov 11 2026. No macro, syntax, notation, axiom, sorry.
-/
import Derived.Test.YtiepcdoknmpemaaChecked
import GoSem.Claim
import GoSem.ClaimJoined
import GoSem.ClaimMapViews
import Derived.JoinedTies
import Derived.KernelRfl
namespace Go.Proofs.Ytiepcdoknmpemaa
/- THE CELL 'sum', in the pinned program and in every row, IS THE sha256 OF THE DUMP (.gsa) THAT YtiepcdoknmpemaaProg.lean LOADS. Nothing in Lean hashes anything: it is a label: what it is worth is what the hold of that sum in a sandbox is worth. -/
noncomputable def Try.pinned : Pinned := { name := "ytiepcdoknmpemaa", sum := "c2a0afe69c127e58e1ee83081f4161c911a9c63b2577a7051850a801d9760bba", checked := Try.checked }
namespace Rows
def none {H : Type} : Left H := { results := [], args := [] }

/-- 'detentlaw14.BoxSorts': WHATEVER THE INPUT: true; the input reads as it did. -/
def boxSortsSpec : ChangeSpec := { name := "boxSorts", fn := fun _ => fun
  | [d1, d2] => { results := [.lit (.bool true)], args := [d1, d2] }
  | _ => none }
def boxSortsRow : OpenClaim := { program := "ytiepcdoknmpemaa", sum := "c2a0afe69c127e58e1ee83081f4161c911a9c63b2577a7051850a801d9760bba", func := "detent/detentlaw14.BoxSorts", spec := "boxSorts", inPlace := ["slices.overlaps[detent/mbx.message]", "slices.overlaps[detent/order.Item]"], unfollowed := true, recurses := true, apart := false }
def BoxSortsSaid : Prop := boxSortsRow.holds Try.pinned (OpenSpec.ofChange boxSortsSpec)

/-- ITS FALSE NEIGHBOUR: 'it returns false'. Refute it at one input. -/
def boxSortsWrong : ChangeSpec := { name := "boxSorts", fn := fun _ => fun
  | [d1, d2] => { results := [.lit (.bool false)], args := [d1, d2] }
  | _ => none }
def BoxSortsWrongFalsely : Prop := boxSortsRow.holds Try.pinned (OpenSpec.ofChange boxSortsWrong)

/-- 'detentlaw14.BoxRefuses': WHATEVER THE INPUT: true; the input reads as it did. -/
def boxRefusesSpec : ChangeSpec := { name := "boxRefuses", fn := fun _ => fun
  | [d1, d2, d3] => { results := [.lit (.bool true)], args := [d1, d2, d3] }
  | _ => none }
def boxRefusesRow : OpenClaim := { program := "ytiepcdoknmpemaa", sum := "c2a0afe69c127e58e1ee83081f4161c911a9c63b2577a7051850a801d9760bba", func := "detent/detentlaw14.BoxRefuses", spec := "boxRefuses", inPlace := ["slices.overlaps[detent/mbx.message]", "slices.overlaps[detent/order.Item]"], unfollowed := true, recurses := true, apart := false }
def BoxRefusesSaid : Prop := boxRefusesRow.holds Try.pinned (OpenSpec.ofChange boxRefusesSpec)

/-- ITS FALSE NEIGHBOUR: 'it returns false'. Refute it at one input. -/
def boxRefusesWrong : ChangeSpec := { name := "boxRefuses", fn := fun _ => fun
  | [d1, d2, d3] => { results := [.lit (.bool false)], args := [d1, d2, d3] }
  | _ => none }
def BoxRefusesWrongFalsely : Prop := boxRefusesRow.holds Try.pinned (OpenSpec.ofChange boxRefusesWrong)

/-- 'detentlaw14.BoxHands': WHATEVER THE INPUT: true; the input reads as it did. -/
def boxHandsSpec : ChangeSpec := { name := "boxHands", fn := fun _ => fun
  | [d1, d2, d3] => { results := [.lit (.bool true)], args := [d1, d2, d3] }
  | _ => none }
def boxHandsRow : OpenClaim := { program := "ytiepcdoknmpemaa", sum := "c2a0afe69c127e58e1ee83081f4161c911a9c63b2577a7051850a801d9760bba", func := "detent/detentlaw14.BoxHands", spec := "boxHands", inPlace := ["slices.overlaps[detent/mbx.message]", "slices.overlaps[detent/order.Item]"], unfollowed := true, recurses := true, apart := false }
def BoxHandsSaid : Prop := boxHandsRow.holds Try.pinned (OpenSpec.ofChange boxHandsSpec)

/-- ITS FALSE NEIGHBOUR: 'it returns false'. Refute it at one input. -/
def boxHandsWrong : ChangeSpec := { name := "boxHands", fn := fun _ => fun
  | [d1, d2, d3] => { results := [.lit (.bool false)], args := [d1, d2, d3] }
  | _ => none }
def BoxHandsWrongFalsely : Prop := boxHandsRow.holds Try.pinned (OpenSpec.ofChange boxHandsWrong)

/-- 'detentlaw14.BoxPlays': WHATEVER THE INPUT: true; the input reads as it did. -/
def boxPlaysSpec : ChangeSpec := { name := "boxPlays", fn := fun _ => fun
  | [d1, d2, d3, d4] => { results := [.lit (.bool true)], args := [d1, d2, d3, d4] }
  | _ => none }
def boxPlaysRow : OpenClaim := { program := "ytiepcdoknmpemaa", sum := "c2a0afe69c127e58e1ee83081f4161c911a9c63b2577a7051850a801d9760bba", func := "detent/detentlaw14.BoxPlays", spec := "boxPlays", inPlace := ["slices.overlaps[detent/mbx.message]", "slices.overlaps[detent/order.Item]"], unfollowed := true, recurses := true, apart := false }
def BoxPlaysSaid : Prop := boxPlaysRow.holds Try.pinned (OpenSpec.ofChange boxPlaysSpec)

/-- ITS FALSE NEIGHBOUR: 'it returns false'. Refute it at one input. -/
def boxPlaysWrong : ChangeSpec := { name := "boxPlays", fn := fun _ => fun
  | [d1, d2, d3, d4] => { results := [.lit (.bool false)], args := [d1, d2, d3, d4] }
  | _ => none }
def BoxPlaysWrongFalsely : Prop := boxPlaysRow.holds Try.pinned (OpenSpec.ofChange boxPlaysWrong)

/- THE SECOND FORM. 'bulk': how many values and letters a reading holds, each counted each time it is reached (what is shared counts as often as it is met; a slice's spare places count too). A statement '..UptoSaid' is the law's where the arguments, and the package variables that the reading takes, are together of bulk at most 1048576: NARROWER than '..Said'. Prove '..Said' where nothing that the law and all that it calls make is longer than what came in: it says more and counts as full. Else prove '..UptoSaid'. A law counts once. -/
mutual
def uptoBulk {H : Type} : DataW H → Nat
  | .lit (.string bytes) => bytes.length + 1
  | .lit _ => 1
  | .nil => 1
  | .ptr d => uptoBulk d + 1
  | .slice elems spare => uptoBulkAll elems + uptoBulkAll spare + 1
  | .agg parts => uptoBulkAll parts + 1
  | .iface _ d => uptoBulk d + 1
  | .map entries => uptoBulkEntries entries + 1
  | .held _ => 1
def uptoBulkAll {H : Type} : List (DataW H) → Nat
  | [] => 0
  | d :: r => uptoBulk d + uptoBulkAll r
def uptoBulkEntries {H : Type} : List (Lit × DataW H) → Nat
  | [] => 0
  | x :: r => uptoBulkEntry x + uptoBulkEntries r
def uptoBulkEntry {H : Type} : Lit × DataW H → Nat
  | (.string bytes, d) => bytes.length + uptoBulk d + 1
  | (_, d) => uptoBulk d + 1
 end
def uptoSmall : (H : Type) → List (DataW H) → Bool := fun _ ds => decide (uptoBulkAll ds ≤ 1048576)
def OpenSpec.upto (s : _root_.Go.ChangeSpec) : _root_.Go.OpenSpec := { _root_.Go.OpenSpec.ofChange s with cond := some uptoSmall }

/-- 'detentlaw14.BoxSorts', WHERE WHAT IT READS IS OF BULK AT MOST 1048576: true; the input reads as it did. -/
def boxSortsUptoRow : OpenClaim := { program := "ytiepcdoknmpemaa", sum := "c2a0afe69c127e58e1ee83081f4161c911a9c63b2577a7051850a801d9760bba", func := "detent/detentlaw14.BoxSorts", spec := "boxSorts", inPlace := ["slices.overlaps[detent/mbx.message]", "slices.overlaps[detent/order.Item]"], unfollowed := true, recurses := true, apart := false, narrowed := true }
def BoxSortsUptoSaid : Prop := boxSortsUptoRow.holds Try.pinned (OpenSpec.upto boxSortsSpec)

/-- 'detentlaw14.BoxRefuses', WHERE WHAT IT READS IS OF BULK AT MOST 1048576: true; the input reads as it did. -/
def boxRefusesUptoRow : OpenClaim := { program := "ytiepcdoknmpemaa", sum := "c2a0afe69c127e58e1ee83081f4161c911a9c63b2577a7051850a801d9760bba", func := "detent/detentlaw14.BoxRefuses", spec := "boxRefuses", inPlace := ["slices.overlaps[detent/mbx.message]", "slices.overlaps[detent/order.Item]"], unfollowed := true, recurses := true, apart := false, narrowed := true }
def BoxRefusesUptoSaid : Prop := boxRefusesUptoRow.holds Try.pinned (OpenSpec.upto boxRefusesSpec)

/-- 'detentlaw14.BoxHands', WHERE WHAT IT READS IS OF BULK AT MOST 1048576: true; the input reads as it did. -/
def boxHandsUptoRow : OpenClaim := { program := "ytiepcdoknmpemaa", sum := "c2a0afe69c127e58e1ee83081f4161c911a9c63b2577a7051850a801d9760bba", func := "detent/detentlaw14.BoxHands", spec := "boxHands", inPlace := ["slices.overlaps[detent/mbx.message]", "slices.overlaps[detent/order.Item]"], unfollowed := true, recurses := true, apart := false, narrowed := true }
def BoxHandsUptoSaid : Prop := boxHandsUptoRow.holds Try.pinned (OpenSpec.upto boxHandsSpec)

/-- 'detentlaw14.BoxPlays', WHERE WHAT IT READS IS OF BULK AT MOST 1048576: true; the input reads as it did. -/
def boxPlaysUptoRow : OpenClaim := { program := "ytiepcdoknmpemaa", sum := "c2a0afe69c127e58e1ee83081f4161c911a9c63b2577a7051850a801d9760bba", func := "detent/detentlaw14.BoxPlays", spec := "boxPlays", inPlace := ["slices.overlaps[detent/mbx.message]", "slices.overlaps[detent/order.Item]"], unfollowed := true, recurses := true, apart := false, narrowed := true }
def BoxPlaysUptoSaid : Prop := boxPlaysUptoRow.holds Try.pinned (OpenSpec.upto boxPlaysSpec)

end Rows
end Go.Proofs.Ytiepcdoknmpemaa
