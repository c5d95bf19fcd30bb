/-
  No cell of these rows narrows 'for every input' (looked for: loops, veiled, ifaces, maps, wideKeys, modest, calm, conditions, laid).
  DERIVED. THE GIVEN ROWS OF THIS SEAT. 5 by the template 'for every input the law returns true; each argument reads behind the call as it read before'; 0 by the template 'total and deterministic' (their statements: YtbdgglhfmanfbaaTotals.lean).
  GIVEN WITH THE SEED: the statements are not yours to turn. If you find one false, say at which input.
  Laid BY PROGRAM, IN A SANDBOX (cutbox-rows.mjs): the forced cells as the released guide's own fill.sh prints them over the translation a8dffe527b88f65e… (all of the seat's roots in one cut). By AI agents, Wed Nov 11 2026. No macro, syntax, notation, axiom, sorry.
-/
import Derived.Test.YtbdgglhfmanfbaaChecked
import GoSem.Claim
import GoSem.ClaimJoined
import GoSem.ClaimMapViews
import Derived.JoinedTies
import Derived.KernelRfl
namespace Go.Proofs.Ytbdgglhfmanfbaa
/- THE CELL 'sum', in the pinned program and in every row, IS THE sha256 OF THE DUMP (.gsa) THAT YtbdgglhfmanfbaaProg.lean LOADS. Nothing in Lean hashes anything: it is a label: what it is worth is what the hold of that sum in a sandbox is worth. -/
noncomputable def Try.pinned : Pinned := { name := "ytbdgglhfmanfbaa", sum := "a8dffe527b88f65e5237e6585b1b0192a47f2acf2e1568ea6cebbe87f168d675", checked := Try.checked }
namespace Rows
def none {H : Type} : Left H := { results := [], args := [] }

/-- 'detentlaw18.PoolApart': WHATEVER THE INPUT: true; the input reads as it did. -/
def poolApartSpec : ChangeSpec := { name := "poolApart", fn := fun _ => fun
  | [d1, d2, d3] => { results := [.lit (.bool true)], args := [d1, d2, d3] }
  | _ => none }
def poolApartRow : OpenClaim := { program := "ytbdgglhfmanfbaa", sum := "a8dffe527b88f65e5237e6585b1b0192a47f2acf2e1568ea6cebbe87f168d675", func := "detent/detentlaw18.PoolApart", spec := "poolApart", inPlace := ["slices.overlaps[int]", "slices.overlaps[detent/order.Item]"], unfollowed := true, recurses := true, apart := false }
def PoolApartSaid : Prop := poolApartRow.holds Try.pinned (OpenSpec.ofChange poolApartSpec)

/-- ITS FALSE NEIGHBOUR: 'it returns false'. Refute it at one input. -/
def poolApartWrong : ChangeSpec := { name := "poolApart", fn := fun _ => fun
  | [d1, d2, d3] => { results := [.lit (.bool false)], args := [d1, d2, d3] }
  | _ => none }
def PoolApartWrongFalsely : Prop := poolApartRow.holds Try.pinned (OpenSpec.ofChange poolApartWrong)

/-- 'detentlaw18.PoolTwice': WHATEVER THE INPUT: true; the input reads as it did. -/
def poolTwiceSpec : ChangeSpec := { name := "poolTwice", fn := fun _ => fun
  | [d1, d2] => { results := [.lit (.bool true)], args := [d1, d2] }
  | _ => none }
def poolTwiceRow : OpenClaim := { program := "ytbdgglhfmanfbaa", sum := "a8dffe527b88f65e5237e6585b1b0192a47f2acf2e1568ea6cebbe87f168d675", func := "detent/detentlaw18.PoolTwice", spec := "poolTwice", inPlace := ["slices.overlaps[int]", "slices.overlaps[detent/order.Item]"], unfollowed := true, recurses := true, apart := false }
def PoolTwiceSaid : Prop := poolTwiceRow.holds Try.pinned (OpenSpec.ofChange poolTwiceSpec)

/-- ITS FALSE NEIGHBOUR: 'it returns false'. Refute it at one input. -/
def poolTwiceWrong : ChangeSpec := { name := "poolTwice", fn := fun _ => fun
  | [d1, d2] => { results := [.lit (.bool false)], args := [d1, d2] }
  | _ => none }
def PoolTwiceWrongFalsely : Prop := poolTwiceRow.holds Try.pinned (OpenSpec.ofChange poolTwiceWrong)

/-- 'detentlaw18.PoolLast': WHATEVER THE INPUT: true; the input reads as it did. -/
def poolLastSpec : ChangeSpec := { name := "poolLast", fn := fun _ => fun
  | [d] => { results := [.lit (.bool true)], args := [d] }
  | _ => none }
def poolLastRow : OpenClaim := { program := "ytbdgglhfmanfbaa", sum := "a8dffe527b88f65e5237e6585b1b0192a47f2acf2e1568ea6cebbe87f168d675", func := "detent/detentlaw18.PoolLast", spec := "poolLast", inPlace := ["slices.overlaps[int]", "slices.overlaps[detent/order.Item]"], unfollowed := true, recurses := true, apart := false }
def PoolLastSaid : Prop := poolLastRow.holds Try.pinned (OpenSpec.ofChange poolLastSpec)

/-- ITS FALSE NEIGHBOUR: 'it returns false'. Refute it at one input. -/
def poolLastWrong : ChangeSpec := { name := "poolLast", fn := fun _ => fun
  | [d] => { results := [.lit (.bool false)], args := [d] }
  | _ => none }
def PoolLastWrongFalsely : Prop := poolLastRow.holds Try.pinned (OpenSpec.ofChange poolLastWrong)

/-- 'detentlaw18.PoolHands': WHATEVER THE INPUT: true; the input reads as it did. -/
def poolHandsSpec : ChangeSpec := { name := "poolHands", fn := fun _ => fun
  | [d1, d2] => { results := [.lit (.bool true)], args := [d1, d2] }
  | _ => none }
def poolHandsRow : OpenClaim := { program := "ytbdgglhfmanfbaa", sum := "a8dffe527b88f65e5237e6585b1b0192a47f2acf2e1568ea6cebbe87f168d675", func := "detent/detentlaw18.PoolHands", spec := "poolHands", inPlace := ["slices.overlaps[int]", "slices.overlaps[detent/order.Item]"], unfollowed := true, recurses := true, apart := false }
def PoolHandsSaid : Prop := poolHandsRow.holds Try.pinned (OpenSpec.ofChange poolHandsSpec)

/-- ITS FALSE NEIGHBOUR: 'it returns false'. Refute it at one input. -/
def poolHandsWrong : ChangeSpec := { name := "poolHands", fn := fun _ => fun
  | [d1, d2] => { results := [.lit (.bool false)], args := [d1, d2] }
  | _ => none }
def PoolHandsWrongFalsely : Prop := poolHandsRow.holds Try.pinned (OpenSpec.ofChange poolHandsWrong)

/-- 'detentlaw18.PoolPlays': WHATEVER THE INPUT: true; the input reads as it did. -/
def poolPlaysSpec : ChangeSpec := { name := "poolPlays", fn := fun _ => fun
  | [d1, d2, d3, d4, d5, d6, d7] => { results := [.lit (.bool true)], args := [d1, d2, d3, d4, d5, d6, d7] }
  | _ => none }
def poolPlaysRow : OpenClaim := { program := "ytbdgglhfmanfbaa", sum := "a8dffe527b88f65e5237e6585b1b0192a47f2acf2e1568ea6cebbe87f168d675", func := "detent/detentlaw18.PoolPlays", spec := "poolPlays", inPlace := ["slices.overlaps[int]", "slices.overlaps[detent/order.Item]"], unfollowed := true, recurses := true, apart := false }
def PoolPlaysSaid : Prop := poolPlaysRow.holds Try.pinned (OpenSpec.ofChange poolPlaysSpec)

/-- ITS FALSE NEIGHBOUR: 'it returns false'. Refute it at one input. -/
def poolPlaysWrong : ChangeSpec := { name := "poolPlays", fn := fun _ => fun
  | [d1, d2, d3, d4, d5, d6, d7] => { results := [.lit (.bool false)], args := [d1, d2, d3, d4, d5, d6, d7] }
  | _ => none }
def PoolPlaysWrongFalsely : Prop := poolPlaysRow.holds Try.pinned (OpenSpec.ofChange poolPlaysWrong)

/- THE SECOND FORM. 'bulk': how many values and letters a reading holds, each counted each time it is reached (what is shared counts as often as it is met; a slice's spare places count too). A statement '..UptoSaid' is the law's where the arguments, and the package variables that the reading takes, are together of bulk at most 1048576: NARROWER than '..Said'. Prove '..Said' where nothing that the law and all that it calls make is longer than what came in: it says more and counts as full. Else prove '..UptoSaid'. A law counts once. -/
mutual
def uptoBulk {H : Type} : DataW H → Nat
  | .lit (.string bytes) => bytes.length + 1
  | .lit _ => 1
  | .nil => 1
  | .ptr d => uptoBulk d + 1
  | .slice elems spare => uptoBulkAll elems + uptoBulkAll spare + 1
  | .agg parts => uptoBulkAll parts + 1
  | .iface _ d => uptoBulk d + 1
  | .map entries => uptoBulkEntries entries + 1
  | .held _ => 1
def uptoBulkAll {H : Type} : List (DataW H) → Nat
  | [] => 0
  | d :: r => uptoBulk d + uptoBulkAll r
def uptoBulkEntries {H : Type} : List (Lit × DataW H) → Nat
  | [] => 0
  | x :: r => uptoBulkEntry x + uptoBulkEntries r
def uptoBulkEntry {H : Type} : Lit × DataW H → Nat
  | (.string bytes, d) => bytes.length + uptoBulk d + 1
  | (_, d) => uptoBulk d + 1
 end
def uptoSmall : (H : Type) → List (DataW H) → Bool := fun _ ds => decide (uptoBulkAll ds ≤ 1048576)
def OpenSpec.upto (s : _root_.Go.ChangeSpec) : _root_.Go.OpenSpec := { _root_.Go.OpenSpec.ofChange s with cond := some uptoSmall }

/-- 'detentlaw18.PoolApart', WHERE WHAT IT READS IS OF BULK AT MOST 1048576: true; the input reads as it did. -/
def poolApartUptoRow : OpenClaim := { program := "ytbdgglhfmanfbaa", sum := "a8dffe527b88f65e5237e6585b1b0192a47f2acf2e1568ea6cebbe87f168d675", func := "detent/detentlaw18.PoolApart", spec := "poolApart", inPlace := ["slices.overlaps[int]", "slices.overlaps[detent/order.Item]"], unfollowed := true, recurses := true, apart := false, narrowed := true }
def PoolApartUptoSaid : Prop := poolApartUptoRow.holds Try.pinned (OpenSpec.upto poolApartSpec)

/-- 'detentlaw18.PoolTwice', WHERE WHAT IT READS IS OF BULK AT MOST 1048576: true; the input reads as it did. -/
def poolTwiceUptoRow : OpenClaim := { program := "ytbdgglhfmanfbaa", sum := "a8dffe527b88f65e5237e6585b1b0192a47f2acf2e1568ea6cebbe87f168d675", func := "detent/detentlaw18.PoolTwice", spec := "poolTwice", inPlace := ["slices.overlaps[int]", "slices.overlaps[detent/order.Item]"], unfollowed := true, recurses := true, apart := false, narrowed := true }
def PoolTwiceUptoSaid : Prop := poolTwiceUptoRow.holds Try.pinned (OpenSpec.upto poolTwiceSpec)

/-- 'detentlaw18.PoolLast', WHERE WHAT IT READS IS OF BULK AT MOST 1048576: true; the input reads as it did. -/
def poolLastUptoRow : OpenClaim := { program := "ytbdgglhfmanfbaa", sum := "a8dffe527b88f65e5237e6585b1b0192a47f2acf2e1568ea6cebbe87f168d675", func := "detent/detentlaw18.PoolLast", spec := "poolLast", inPlace := ["slices.overlaps[int]", "slices.overlaps[detent/order.Item]"], unfollowed := true, recurses := true, apart := false, narrowed := true }
def PoolLastUptoSaid : Prop := poolLastUptoRow.holds Try.pinned (OpenSpec.upto poolLastSpec)

/-- 'detentlaw18.PoolHands', WHERE WHAT IT READS IS OF BULK AT MOST 1048576: true; the input reads as it did. -/
def poolHandsUptoRow : OpenClaim := { program := "ytbdgglhfmanfbaa", sum := "a8dffe527b88f65e5237e6585b1b0192a47f2acf2e1568ea6cebbe87f168d675", func := "detent/detentlaw18.PoolHands", spec := "poolHands", inPlace := ["slices.overlaps[int]", "slices.overlaps[detent/order.Item]"], unfollowed := true, recurses := true, apart := false, narrowed := true }
def PoolHandsUptoSaid : Prop := poolHandsUptoRow.holds Try.pinned (OpenSpec.upto poolHandsSpec)

/-- 'detentlaw18.PoolPlays', WHERE WHAT IT READS IS OF BULK AT MOST 1048576: true; the input reads as it did. -/
def poolPlaysUptoRow : OpenClaim := { program := "ytbdgglhfmanfbaa", sum := "a8dffe527b88f65e5237e6585b1b0192a47f2acf2e1568ea6cebbe87f168d675", func := "detent/detentlaw18.PoolPlays", spec := "poolPlays", inPlace := ["slices.overlaps[int]", "slices.overlaps[detent/order.Item]"], unfollowed := true, recurses := true, apart := false, narrowed := true }
def PoolPlaysUptoSaid : Prop := poolPlaysUptoRow.holds Try.pinned (OpenSpec.upto poolPlaysSpec)

end Rows
end Go.Proofs.Ytbdgglhfmanfbaa
