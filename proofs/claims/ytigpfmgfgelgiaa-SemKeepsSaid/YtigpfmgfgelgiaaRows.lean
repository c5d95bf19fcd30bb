/-
  No cell of these rows narrows 'for every input' (looked for: loops, veiled, ifaces, maps, wideKeys, modest, calm, conditions, laid).
  DERIVED. THE GIVEN ROWS OF THIS SEAT. 4 by the template 'for every input the law returns true; each argument reads behind the call as it read before'; 0 by the template 'total and deterministic' (their statements: YtigpfmgfgelgiaaTotals.lean).
  GIVEN WITH THE SEED: the statements are not yours to turn. If you find one false, say at which input.
  Laid BY PROGRAM, IN A SANDBOX (cutbox-rows.mjs): the forced cells as the released guide's own fill.sh prints them over the translation 342f8a2a6f5ed151… (all of the seat's roots in one cut). By AI agents, Wed Nov 11 2026. No macro, syntax, notation, axiom, sorry.
-/
import Derived.Test.YtigpfmgfgelgiaaChecked
import GoSem.Claim
import GoSem.ClaimJoined
import GoSem.ClaimMapViews
import Derived.JoinedTies
import Derived.KernelRfl
namespace Go.Proofs.Ytigpfmgfgelgiaa
/- THE CELL 'sum', in the pinned program and in every row, IS THE sha256 OF THE DUMP (.gsa) THAT YtigpfmgfgelgiaaProg.lean LOADS. Nothing in Lean hashes anything: it is a label: what it is worth is what the hold of that sum in a sandbox is worth. -/
noncomputable def Try.pinned : Pinned := { name := "ytigpfmgfgelgiaa", sum := "342f8a2a6f5ed1516a0d5abb0aa8031b90085ebc0c7f6579f420c68d4cfc85d9", checked := Try.checked }
namespace Rows
def none {H : Type} : Left H := { results := [], args := [] }

/-- 'detentlaw11.SemKeeps': WHATEVER THE INPUT: true; the input reads as it did. -/
def semKeepsSpec : ChangeSpec := { name := "semKeeps", fn := fun _ => fun
  | [d1, d2] => { results := [.lit (.bool true)], args := [d1, d2] }
  | _ => none }
def semKeepsRow : OpenClaim := { program := "ytigpfmgfgelgiaa", sum := "342f8a2a6f5ed1516a0d5abb0aa8031b90085ebc0c7f6579f420c68d4cfc85d9", func := "detent/detentlaw11.SemKeeps", spec := "semKeeps", inPlace := ["slices.overlaps[detent/order.Item]"], unfollowed := true, recurses := true, apart := false }
def SemKeepsSaid : Prop := semKeepsRow.holds Try.pinned (OpenSpec.ofChange semKeepsSpec)

/-- ITS FALSE NEIGHBOUR: 'it returns false'. Refute it at one input. -/
def semKeepsWrong : ChangeSpec := { name := "semKeeps", fn := fun _ => fun
  | [d1, d2] => { results := [.lit (.bool false)], args := [d1, d2] }
  | _ => none }
def SemKeepsWrongFalsely : Prop := semKeepsRow.holds Try.pinned (OpenSpec.ofChange semKeepsWrong)

/-- 'detentlaw11.SemOrder': WHATEVER THE INPUT: true; the input reads as it did. -/
def semOrderSpec : ChangeSpec := { name := "semOrder", fn := fun _ => fun
  | [d1, d2] => { results := [.lit (.bool true)], args := [d1, d2] }
  | _ => none }
def semOrderRow : OpenClaim := { program := "ytigpfmgfgelgiaa", sum := "342f8a2a6f5ed1516a0d5abb0aa8031b90085ebc0c7f6579f420c68d4cfc85d9", func := "detent/detentlaw11.SemOrder", spec := "semOrder", inPlace := ["slices.overlaps[detent/order.Item]"], unfollowed := true, recurses := true, apart := false }
def SemOrderSaid : Prop := semOrderRow.holds Try.pinned (OpenSpec.ofChange semOrderSpec)

/-- ITS FALSE NEIGHBOUR: 'it returns false'. Refute it at one input. -/
def semOrderWrong : ChangeSpec := { name := "semOrder", fn := fun _ => fun
  | [d1, d2] => { results := [.lit (.bool false)], args := [d1, d2] }
  | _ => none }
def SemOrderWrongFalsely : Prop := semOrderRow.holds Try.pinned (OpenSpec.ofChange semOrderWrong)

/-- 'detentlaw11.SemBounds': WHATEVER THE INPUT: true; the input reads as it did. -/
def semBoundsSpec : ChangeSpec := { name := "semBounds", fn := fun _ => fun
  | [d1, d2] => { results := [.lit (.bool true)], args := [d1, d2] }
  | _ => none }
def semBoundsRow : OpenClaim := { program := "ytigpfmgfgelgiaa", sum := "342f8a2a6f5ed1516a0d5abb0aa8031b90085ebc0c7f6579f420c68d4cfc85d9", func := "detent/detentlaw11.SemBounds", spec := "semBounds", inPlace := ["slices.overlaps[detent/order.Item]"], unfollowed := true, recurses := true, apart := false }
def SemBoundsSaid : Prop := semBoundsRow.holds Try.pinned (OpenSpec.ofChange semBoundsSpec)

/-- ITS FALSE NEIGHBOUR: 'it returns false'. Refute it at one input. -/
def semBoundsWrong : ChangeSpec := { name := "semBounds", fn := fun _ => fun
  | [d1, d2] => { results := [.lit (.bool false)], args := [d1, d2] }
  | _ => none }
def SemBoundsWrongFalsely : Prop := semBoundsRow.holds Try.pinned (OpenSpec.ofChange semBoundsWrong)

/-- 'detentlaw11.SemPlays': WHATEVER THE INPUT: true; the input reads as it did. -/
def semPlaysSpec : ChangeSpec := { name := "semPlays", fn := fun _ => fun
  | [d1, d2, d3, d4] => { results := [.lit (.bool true)], args := [d1, d2, d3, d4] }
  | _ => none }
def semPlaysRow : OpenClaim := { program := "ytigpfmgfgelgiaa", sum := "342f8a2a6f5ed1516a0d5abb0aa8031b90085ebc0c7f6579f420c68d4cfc85d9", func := "detent/detentlaw11.SemPlays", spec := "semPlays", inPlace := ["slices.overlaps[detent/order.Item]"], unfollowed := true, recurses := true, apart := false }
def SemPlaysSaid : Prop := semPlaysRow.holds Try.pinned (OpenSpec.ofChange semPlaysSpec)

/-- ITS FALSE NEIGHBOUR: 'it returns false'. Refute it at one input. -/
def semPlaysWrong : ChangeSpec := { name := "semPlays", fn := fun _ => fun
  | [d1, d2, d3, d4] => { results := [.lit (.bool false)], args := [d1, d2, d3, d4] }
  | _ => none }
def SemPlaysWrongFalsely : Prop := semPlaysRow.holds Try.pinned (OpenSpec.ofChange semPlaysWrong)

/- THE SECOND FORM. 'bulk': how many values and letters a reading holds, each counted each time it is reached (what is shared counts as often as it is met; a slice's spare places count too). A statement '..UptoSaid' is the law's where the arguments, and the package variables that the reading takes, are together of bulk at most 1048576: NARROWER than '..Said'. Prove '..Said' where nothing that the law and all that it calls make is longer than what came in: it says more and counts as full. Else prove '..UptoSaid'. A law counts once. -/
mutual
def uptoBulk {H : Type} : DataW H → Nat
  | .lit (.string bytes) => bytes.length + 1
  | .lit _ => 1
  | .nil => 1
  | .ptr d => uptoBulk d + 1
  | .slice elems spare => uptoBulkAll elems + uptoBulkAll spare + 1
  | .agg parts => uptoBulkAll parts + 1
  | .iface _ d => uptoBulk d + 1
  | .map entries => uptoBulkEntries entries + 1
  | .held _ => 1
def uptoBulkAll {H : Type} : List (DataW H) → Nat
  | [] => 0
  | d :: r => uptoBulk d + uptoBulkAll r
def uptoBulkEntries {H : Type} : List (Lit × DataW H) → Nat
  | [] => 0
  | x :: r => uptoBulkEntry x + uptoBulkEntries r
def uptoBulkEntry {H : Type} : Lit × DataW H → Nat
  | (.string bytes, d) => bytes.length + uptoBulk d + 1
  | (_, d) => uptoBulk d + 1
 end
def uptoSmall : (H : Type) → List (DataW H) → Bool := fun _ ds => decide (uptoBulkAll ds ≤ 1048576)
def OpenSpec.upto (s : _root_.Go.ChangeSpec) : _root_.Go.OpenSpec := { _root_.Go.OpenSpec.ofChange s with cond := some uptoSmall }

/-- 'detentlaw11.SemKeeps', WHERE WHAT IT READS IS OF BULK AT MOST 1048576: true; the input reads as it did. -/
def semKeepsUptoRow : OpenClaim := { program := "ytigpfmgfgelgiaa", sum := "342f8a2a6f5ed1516a0d5abb0aa8031b90085ebc0c7f6579f420c68d4cfc85d9", func := "detent/detentlaw11.SemKeeps", spec := "semKeeps", inPlace := ["slices.overlaps[detent/order.Item]"], unfollowed := true, recurses := true, apart := false, narrowed := true }
def SemKeepsUptoSaid : Prop := semKeepsUptoRow.holds Try.pinned (OpenSpec.upto semKeepsSpec)

/-- 'detentlaw11.SemOrder', WHERE WHAT IT READS IS OF BULK AT MOST 1048576: true; the input reads as it did. -/
def semOrderUptoRow : OpenClaim := { program := "ytigpfmgfgelgiaa", sum := "342f8a2a6f5ed1516a0d5abb0aa8031b90085ebc0c7f6579f420c68d4cfc85d9", func := "detent/detentlaw11.SemOrder", spec := "semOrder", inPlace := ["slices.overlaps[detent/order.Item]"], unfollowed := true, recurses := true, apart := false, narrowed := true }
def SemOrderUptoSaid : Prop := semOrderUptoRow.holds Try.pinned (OpenSpec.upto semOrderSpec)

/-- 'detentlaw11.SemBounds', WHERE WHAT IT READS IS OF BULK AT MOST 1048576: true; the input reads as it did. -/
def semBoundsUptoRow : OpenClaim := { program := "ytigpfmgfgelgiaa", sum := "342f8a2a6f5ed1516a0d5abb0aa8031b90085ebc0c7f6579f420c68d4cfc85d9", func := "detent/detentlaw11.SemBounds", spec := "semBounds", inPlace := ["slices.overlaps[detent/order.Item]"], unfollowed := true, recurses := true, apart := false, narrowed := true }
def SemBoundsUptoSaid : Prop := semBoundsUptoRow.holds Try.pinned (OpenSpec.upto semBoundsSpec)

/-- 'detentlaw11.SemPlays', WHERE WHAT IT READS IS OF BULK AT MOST 1048576: true; the input reads as it did. -/
def semPlaysUptoRow : OpenClaim := { program := "ytigpfmgfgelgiaa", sum := "342f8a2a6f5ed1516a0d5abb0aa8031b90085ebc0c7f6579f420c68d4cfc85d9", func := "detent/detentlaw11.SemPlays", spec := "semPlays", inPlace := ["slices.overlaps[detent/order.Item]"], unfollowed := true, recurses := true, apart := false, narrowed := true }
def SemPlaysUptoSaid : Prop := semPlaysUptoRow.holds Try.pinned (OpenSpec.upto semPlaysSpec)

end Rows
end Go.Proofs.Ytigpfmgfgelgiaa
