/-
  No cell of these rows narrows 'for every input' (looked for: loops, veiled, ifaces, maps, wideKeys, modest, calm, conditions, laid).
  DERIVED. THE GIVEN ROWS OF THIS SEAT. 4 by the template 'for every input the law returns true; each argument reads behind the call as it read before'; 0 by the template 'total and deterministic' (their statements: YtbhmejmkoefahaaTotals.lean).
  GIVEN WITH THE SEED: the statements are not yours to turn. If you find one false, say at which input.
  Laid BY PROGRAM, IN A SANDBOX (cutbox-rows.mjs): the forced cells as the released guide's own fill.sh prints them over the translation 29909af0f7f01637… (all of the seat's roots in one cut). By AI agents, Wed Nov 11 2026. No macro, syntax, notation, axiom, sorry.
-/
import Derived.Test.YtbhmejmkoefahaaChecked
import GoSem.Claim
import GoSem.ClaimJoined
import GoSem.ClaimMapViews
import Derived.JoinedTies
import Derived.KernelRfl
namespace Go.Proofs.Ytbhmejmkoefahaa
/- THE CELL 'sum', in the pinned program and in every row, IS THE sha256 OF THE DUMP (.gsa) THAT YtbhmejmkoefahaaProg.lean LOADS. Nothing in Lean hashes anything: it is a label: what it is worth is what the hold of that sum in a sandbox is worth. -/
noncomputable def Try.pinned : Pinned := { name := "ytbhmejmkoefahaa", sum := "29909af0f7f0163794695920356ea55f65ff60d2fbc7ece76b373a89723144db", checked := Try.checked }
namespace Rows
def none {H : Type} : Left H := { results := [], args := [] }

/-- 'detentlaw17.PortOnce': WHATEVER THE INPUT: true; the input reads as it did. -/
def portOnceSpec : ChangeSpec := { name := "portOnce", fn := fun _ => fun
  | [d] => { results := [.lit (.bool true)], args := [d] }
  | _ => none }
def portOnceRow : OpenClaim := { program := "ytbhmejmkoefahaa", sum := "29909af0f7f0163794695920356ea55f65ff60d2fbc7ece76b373a89723144db", func := "detent/detentlaw17.PortOnce", spec := "portOnce", inPlace := ["slices.overlaps[detent/order.Item]"], unfollowed := true, recurses := true, apart := false }
def PortOnceSaid : Prop := portOnceRow.holds Try.pinned (OpenSpec.ofChange portOnceSpec)

/-- ITS FALSE NEIGHBOUR: 'it returns false'. Refute it at one input. -/
def portOnceWrong : ChangeSpec := { name := "portOnce", fn := fun _ => fun
  | [d] => { results := [.lit (.bool false)], args := [d] }
  | _ => none }
def PortOnceWrongFalsely : Prop := portOnceRow.holds Try.pinned (OpenSpec.ofChange portOnceWrong)

/-- 'detentlaw17.PortForwards': WHATEVER THE INPUT: true; the input reads as it did. -/
def portForwardsSpec : ChangeSpec := { name := "portForwards", fn := fun _ => fun
  | [d] => { results := [.lit (.bool true)], args := [d] }
  | _ => none }
def portForwardsRow : OpenClaim := { program := "ytbhmejmkoefahaa", sum := "29909af0f7f0163794695920356ea55f65ff60d2fbc7ece76b373a89723144db", func := "detent/detentlaw17.PortForwards", spec := "portForwards", inPlace := ["slices.overlaps[detent/order.Item]"], unfollowed := true, recurses := true, apart := false }
def PortForwardsSaid : Prop := portForwardsRow.holds Try.pinned (OpenSpec.ofChange portForwardsSpec)

/-- ITS FALSE NEIGHBOUR: 'it returns false'. Refute it at one input. -/
def portForwardsWrong : ChangeSpec := { name := "portForwards", fn := fun _ => fun
  | [d] => { results := [.lit (.bool false)], args := [d] }
  | _ => none }
def PortForwardsWrongFalsely : Prop := portForwardsRow.holds Try.pinned (OpenSpec.ofChange portForwardsWrong)

/-- 'detentlaw17.PortMeets': WHATEVER THE INPUT: true; the input reads as it did. -/
def portMeetsSpec : ChangeSpec := { name := "portMeets", fn := fun _ => fun
  | [d1, d2] => { results := [.lit (.bool true)], args := [d1, d2] }
  | _ => none }
def portMeetsRow : OpenClaim := { program := "ytbhmejmkoefahaa", sum := "29909af0f7f0163794695920356ea55f65ff60d2fbc7ece76b373a89723144db", func := "detent/detentlaw17.PortMeets", spec := "portMeets", inPlace := ["slices.overlaps[detent/order.Item]"], unfollowed := true, recurses := true, apart := false }
def PortMeetsSaid : Prop := portMeetsRow.holds Try.pinned (OpenSpec.ofChange portMeetsSpec)

/-- ITS FALSE NEIGHBOUR: 'it returns false'. Refute it at one input. -/
def portMeetsWrong : ChangeSpec := { name := "portMeets", fn := fun _ => fun
  | [d1, d2] => { results := [.lit (.bool false)], args := [d1, d2] }
  | _ => none }
def PortMeetsWrongFalsely : Prop := portMeetsRow.holds Try.pinned (OpenSpec.ofChange portMeetsWrong)

/-- 'detentlaw17.PortPlays': WHATEVER THE INPUT: true; the input reads as it did. -/
def portPlaysSpec : ChangeSpec := { name := "portPlays", fn := fun _ => fun
  | [d1, d2, d3, d4] => { results := [.lit (.bool true)], args := [d1, d2, d3, d4] }
  | _ => none }
def portPlaysRow : OpenClaim := { program := "ytbhmejmkoefahaa", sum := "29909af0f7f0163794695920356ea55f65ff60d2fbc7ece76b373a89723144db", func := "detent/detentlaw17.PortPlays", spec := "portPlays", inPlace := ["slices.overlaps[detent/order.Item]"], unfollowed := true, recurses := true, apart := false }
def PortPlaysSaid : Prop := portPlaysRow.holds Try.pinned (OpenSpec.ofChange portPlaysSpec)

/-- ITS FALSE NEIGHBOUR: 'it returns false'. Refute it at one input. -/
def portPlaysWrong : ChangeSpec := { name := "portPlays", fn := fun _ => fun
  | [d1, d2, d3, d4] => { results := [.lit (.bool false)], args := [d1, d2, d3, d4] }
  | _ => none }
def PortPlaysWrongFalsely : Prop := portPlaysRow.holds Try.pinned (OpenSpec.ofChange portPlaysWrong)

/- THE SECOND FORM. 'bulk': how many values and letters a reading holds, each counted each time it is reached (what is shared counts as often as it is met; a slice's spare places count too). A statement '..UptoSaid' is the law's where the arguments, and the package variables that the reading takes, are together of bulk at most 1048576: NARROWER than '..Said'. Prove '..Said' where nothing that the law and all that it calls make is longer than what came in: it says more and counts as full. Else prove '..UptoSaid'. A law counts once. -/
mutual
def uptoBulk {H : Type} : DataW H → Nat
  | .lit (.string bytes) => bytes.length + 1
  | .lit _ => 1
  | .nil => 1
  | .ptr d => uptoBulk d + 1
  | .slice elems spare => uptoBulkAll elems + uptoBulkAll spare + 1
  | .agg parts => uptoBulkAll parts + 1
  | .iface _ d => uptoBulk d + 1
  | .map entries => uptoBulkEntries entries + 1
  | .held _ => 1
def uptoBulkAll {H : Type} : List (DataW H) → Nat
  | [] => 0
  | d :: r => uptoBulk d + uptoBulkAll r
def uptoBulkEntries {H : Type} : List (Lit × DataW H) → Nat
  | [] => 0
  | x :: r => uptoBulkEntry x + uptoBulkEntries r
def uptoBulkEntry {H : Type} : Lit × DataW H → Nat
  | (.string bytes, d) => bytes.length + uptoBulk d + 1
  | (_, d) => uptoBulk d + 1
 end
def uptoSmall : (H : Type) → List (DataW H) → Bool := fun _ ds => decide (uptoBulkAll ds ≤ 1048576)
def OpenSpec.upto (s : _root_.Go.ChangeSpec) : _root_.Go.OpenSpec := { _root_.Go.OpenSpec.ofChange s with cond := some uptoSmall }

/-- 'detentlaw17.PortOnce', WHERE WHAT IT READS IS OF BULK AT MOST 1048576: true; the input reads as it did. -/
def portOnceUptoRow : OpenClaim := { program := "ytbhmejmkoefahaa", sum := "29909af0f7f0163794695920356ea55f65ff60d2fbc7ece76b373a89723144db", func := "detent/detentlaw17.PortOnce", spec := "portOnce", inPlace := ["slices.overlaps[detent/order.Item]"], unfollowed := true, recurses := true, apart := false, narrowed := true }
def PortOnceUptoSaid : Prop := portOnceUptoRow.holds Try.pinned (OpenSpec.upto portOnceSpec)

/-- 'detentlaw17.PortForwards', WHERE WHAT IT READS IS OF BULK AT MOST 1048576: true; the input reads as it did. -/
def portForwardsUptoRow : OpenClaim := { program := "ytbhmejmkoefahaa", sum := "29909af0f7f0163794695920356ea55f65ff60d2fbc7ece76b373a89723144db", func := "detent/detentlaw17.PortForwards", spec := "portForwards", inPlace := ["slices.overlaps[detent/order.Item]"], unfollowed := true, recurses := true, apart := false, narrowed := true }
def PortForwardsUptoSaid : Prop := portForwardsUptoRow.holds Try.pinned (OpenSpec.upto portForwardsSpec)

/-- 'detentlaw17.PortMeets', WHERE WHAT IT READS IS OF BULK AT MOST 1048576: true; the input reads as it did. -/
def portMeetsUptoRow : OpenClaim := { program := "ytbhmejmkoefahaa", sum := "29909af0f7f0163794695920356ea55f65ff60d2fbc7ece76b373a89723144db", func := "detent/detentlaw17.PortMeets", spec := "portMeets", inPlace := ["slices.overlaps[detent/order.Item]"], unfollowed := true, recurses := true, apart := false, narrowed := true }
def PortMeetsUptoSaid : Prop := portMeetsUptoRow.holds Try.pinned (OpenSpec.upto portMeetsSpec)

/-- 'detentlaw17.PortPlays', WHERE WHAT IT READS IS OF BULK AT MOST 1048576: true; the input reads as it did. -/
def portPlaysUptoRow : OpenClaim := { program := "ytbhmejmkoefahaa", sum := "29909af0f7f0163794695920356ea55f65ff60d2fbc7ece76b373a89723144db", func := "detent/detentlaw17.PortPlays", spec := "portPlays", inPlace := ["slices.overlaps[detent/order.Item]"], unfollowed := true, recurses := true, apart := false, narrowed := true }
def PortPlaysUptoSaid : Prop := portPlaysUptoRow.holds Try.pinned (OpenSpec.upto portPlaysSpec)

end Rows
end Go.Proofs.Ytbhmejmkoefahaa
