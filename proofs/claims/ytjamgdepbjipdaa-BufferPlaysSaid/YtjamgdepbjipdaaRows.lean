/-
  No cell of these rows narrows 'for every input' (looked for: loops, veiled, ifaces, maps, wideKeys, modest, calm, conditions, laid).
  DERIVED. THE GIVEN ROWS OF THIS SEAT. 5 by the template 'for every input the law returns true; each argument reads behind the call as it read before'; 0 by the template 'total and deterministic' (their statements: YtjamgdepbjipdaaTotals.lean).
  GIVEN WITH THE SEED: the statements are not yours to turn. If you find one false, say at which input.
  Laid BY PROGRAM, IN A SANDBOX (cutbox-rows.mjs): the forced cells as the released guide's own fill.sh prints them over the translation 3dfdc99d40a17814… (all of the seat's roots in one cut). By AI agents, Wed Nov 11 2026. No macro, syntax, notation, axiom, sorry.
-/
import Derived.Test.YtjamgdepbjipdaaChecked
import GoSem.Claim
import GoSem.ClaimJoined
import GoSem.ClaimMapViews
import Derived.JoinedTies
import Derived.KernelRfl
namespace Go.Proofs.Ytjamgdepbjipdaa
/- THE CELL 'sum', in the pinned program and in every row, IS THE sha256 OF THE DUMP (.gsa) THAT YtjamgdepbjipdaaProg.lean LOADS. Nothing in Lean hashes anything: it is a label: what it is worth is what the hold of that sum in a sandbox is worth. -/
noncomputable def Try.pinned : Pinned := { name := "ytjamgdepbjipdaa", sum := "3dfdc99d40a17814585af940c71ad907509594580ab96ffda5671c789748f219", checked := Try.checked }
namespace Rows
def none {H : Type} : Left H := { results := [], args := [] }

/-- 'detentlaw16.BufferOrder': WHATEVER THE INPUT: true; the input reads as it did. -/
def bufferOrderSpec : ChangeSpec := { name := "bufferOrder", fn := fun _ => fun
  | [d1, d2] => { results := [.lit (.bool true)], args := [d1, d2] }
  | _ => none }
def bufferOrderRow : OpenClaim := { program := "ytjamgdepbjipdaa", sum := "3dfdc99d40a17814585af940c71ad907509594580ab96ffda5671c789748f219", func := "detent/detentlaw16.BufferOrder", spec := "bufferOrder", inPlace := ["slices.overlaps[detent/order.Item]"], unfollowed := true, recurses := true, apart := false }
def BufferOrderSaid : Prop := bufferOrderRow.holds Try.pinned (OpenSpec.ofChange bufferOrderSpec)

/-- ITS FALSE NEIGHBOUR: 'it returns false'. Refute it at one input. -/
def bufferOrderWrong : ChangeSpec := { name := "bufferOrder", fn := fun _ => fun
  | [d1, d2] => { results := [.lit (.bool false)], args := [d1, d2] }
  | _ => none }
def BufferOrderWrongFalsely : Prop := bufferOrderRow.holds Try.pinned (OpenSpec.ofChange bufferOrderWrong)

/-- 'detentlaw16.BufferFair': WHATEVER THE INPUT: true; the input reads as it did. -/
def bufferFairSpec : ChangeSpec := { name := "bufferFair", fn := fun _ => fun
  | [d1, d2] => { results := [.lit (.bool true)], args := [d1, d2] }
  | _ => none }
def bufferFairRow : OpenClaim := { program := "ytjamgdepbjipdaa", sum := "3dfdc99d40a17814585af940c71ad907509594580ab96ffda5671c789748f219", func := "detent/detentlaw16.BufferFair", spec := "bufferFair", inPlace := ["slices.overlaps[detent/order.Item]"], unfollowed := true, recurses := true, apart := false }
def BufferFairSaid : Prop := bufferFairRow.holds Try.pinned (OpenSpec.ofChange bufferFairSpec)

/-- ITS FALSE NEIGHBOUR: 'it returns false'. Refute it at one input. -/
def bufferFairWrong : ChangeSpec := { name := "bufferFair", fn := fun _ => fun
  | [d1, d2] => { results := [.lit (.bool false)], args := [d1, d2] }
  | _ => none }
def BufferFairWrongFalsely : Prop := bufferFairRow.holds Try.pinned (OpenSpec.ofChange bufferFairWrong)

/-- 'detentlaw16.BufferRefuses': WHATEVER THE INPUT: true; the input reads as it did. -/
def bufferRefusesSpec : ChangeSpec := { name := "bufferRefuses", fn := fun _ => fun
  | [d1, d2] => { results := [.lit (.bool true)], args := [d1, d2] }
  | _ => none }
def bufferRefusesRow : OpenClaim := { program := "ytjamgdepbjipdaa", sum := "3dfdc99d40a17814585af940c71ad907509594580ab96ffda5671c789748f219", func := "detent/detentlaw16.BufferRefuses", spec := "bufferRefuses", inPlace := ["slices.overlaps[detent/order.Item]"], unfollowed := true, recurses := true, apart := false }
def BufferRefusesSaid : Prop := bufferRefusesRow.holds Try.pinned (OpenSpec.ofChange bufferRefusesSpec)

/-- ITS FALSE NEIGHBOUR: 'it returns false'. Refute it at one input. -/
def bufferRefusesWrong : ChangeSpec := { name := "bufferRefuses", fn := fun _ => fun
  | [d1, d2] => { results := [.lit (.bool false)], args := [d1, d2] }
  | _ => none }
def BufferRefusesWrongFalsely : Prop := bufferRefusesRow.holds Try.pinned (OpenSpec.ofChange bufferRefusesWrong)

/-- 'detentlaw16.BufferHands': WHATEVER THE INPUT: true; the input reads as it did. -/
def bufferHandsSpec : ChangeSpec := { name := "bufferHands", fn := fun _ => fun
  | [d1, d2] => { results := [.lit (.bool true)], args := [d1, d2] }
  | _ => none }
def bufferHandsRow : OpenClaim := { program := "ytjamgdepbjipdaa", sum := "3dfdc99d40a17814585af940c71ad907509594580ab96ffda5671c789748f219", func := "detent/detentlaw16.BufferHands", spec := "bufferHands", inPlace := ["slices.overlaps[detent/order.Item]"], unfollowed := true, recurses := true, apart := false }
def BufferHandsSaid : Prop := bufferHandsRow.holds Try.pinned (OpenSpec.ofChange bufferHandsSpec)

/-- ITS FALSE NEIGHBOUR: 'it returns false'. Refute it at one input. -/
def bufferHandsWrong : ChangeSpec := { name := "bufferHands", fn := fun _ => fun
  | [d1, d2] => { results := [.lit (.bool false)], args := [d1, d2] }
  | _ => none }
def BufferHandsWrongFalsely : Prop := bufferHandsRow.holds Try.pinned (OpenSpec.ofChange bufferHandsWrong)

/-- 'detentlaw16.BufferPlays': WHATEVER THE INPUT: true; the input reads as it did. -/
def bufferPlaysSpec : ChangeSpec := { name := "bufferPlays", fn := fun _ => fun
  | [d1, d2, d3, d4] => { results := [.lit (.bool true)], args := [d1, d2, d3, d4] }
  | _ => none }
def bufferPlaysRow : OpenClaim := { program := "ytjamgdepbjipdaa", sum := "3dfdc99d40a17814585af940c71ad907509594580ab96ffda5671c789748f219", func := "detent/detentlaw16.BufferPlays", spec := "bufferPlays", inPlace := ["slices.overlaps[detent/order.Item]", "maps.clone"], unfollowed := true, recurses := true, apart := false }
def BufferPlaysSaid : Prop := bufferPlaysRow.holds Try.pinned (OpenSpec.ofChange bufferPlaysSpec)

/-- ITS FALSE NEIGHBOUR: 'it returns false'. Refute it at one input. -/
def bufferPlaysWrong : ChangeSpec := { name := "bufferPlays", fn := fun _ => fun
  | [d1, d2, d3, d4] => { results := [.lit (.bool false)], args := [d1, d2, d3, d4] }
  | _ => none }
def BufferPlaysWrongFalsely : Prop := bufferPlaysRow.holds Try.pinned (OpenSpec.ofChange bufferPlaysWrong)

/- THE SECOND FORM. 'bulk': how many values and letters a reading holds, each counted each time it is reached (what is shared counts as often as it is met; a slice's spare places count too). A statement '..UptoSaid' is the law's where the arguments, and the package variables that the reading takes, are together of bulk at most 1048576: NARROWER than '..Said'. Prove '..Said' where nothing that the law and all that it calls make is longer than what came in: it says more and counts as full. Else prove '..UptoSaid'. A law counts once. -/
mutual
def uptoBulk {H : Type} : DataW H → Nat
  | .lit (.string bytes) => bytes.length + 1
  | .lit _ => 1
  | .nil => 1
  | .ptr d => uptoBulk d + 1
  | .slice elems spare => uptoBulkAll elems + uptoBulkAll spare + 1
  | .agg parts => uptoBulkAll parts + 1
  | .iface _ d => uptoBulk d + 1
  | .map entries => uptoBulkEntries entries + 1
  | .held _ => 1
def uptoBulkAll {H : Type} : List (DataW H) → Nat
  | [] => 0
  | d :: r => uptoBulk d + uptoBulkAll r
def uptoBulkEntries {H : Type} : List (Lit × DataW H) → Nat
  | [] => 0
  | x :: r => uptoBulkEntry x + uptoBulkEntries r
def uptoBulkEntry {H : Type} : Lit × DataW H → Nat
  | (.string bytes, d) => bytes.length + uptoBulk d + 1
  | (_, d) => uptoBulk d + 1
 end
def uptoSmall : (H : Type) → List (DataW H) → Bool := fun _ ds => decide (uptoBulkAll ds ≤ 1048576)
def OpenSpec.upto (s : _root_.Go.ChangeSpec) : _root_.Go.OpenSpec := { _root_.Go.OpenSpec.ofChange s with cond := some uptoSmall }

/-- 'detentlaw16.BufferOrder', WHERE WHAT IT READS IS OF BULK AT MOST 1048576: true; the input reads as it did. -/
def bufferOrderUptoRow : OpenClaim := { program := "ytjamgdepbjipdaa", sum := "3dfdc99d40a17814585af940c71ad907509594580ab96ffda5671c789748f219", func := "detent/detentlaw16.BufferOrder", spec := "bufferOrder", inPlace := ["slices.overlaps[detent/order.Item]"], unfollowed := true, recurses := true, apart := false, narrowed := true }
def BufferOrderUptoSaid : Prop := bufferOrderUptoRow.holds Try.pinned (OpenSpec.upto bufferOrderSpec)

/-- 'detentlaw16.BufferFair', WHERE WHAT IT READS IS OF BULK AT MOST 1048576: true; the input reads as it did. -/
def bufferFairUptoRow : OpenClaim := { program := "ytjamgdepbjipdaa", sum := "3dfdc99d40a17814585af940c71ad907509594580ab96ffda5671c789748f219", func := "detent/detentlaw16.BufferFair", spec := "bufferFair", inPlace := ["slices.overlaps[detent/order.Item]"], unfollowed := true, recurses := true, apart := false, narrowed := true }
def BufferFairUptoSaid : Prop := bufferFairUptoRow.holds Try.pinned (OpenSpec.upto bufferFairSpec)

/-- 'detentlaw16.BufferRefuses', WHERE WHAT IT READS IS OF BULK AT MOST 1048576: true; the input reads as it did. -/
def bufferRefusesUptoRow : OpenClaim := { program := "ytjamgdepbjipdaa", sum := "3dfdc99d40a17814585af940c71ad907509594580ab96ffda5671c789748f219", func := "detent/detentlaw16.BufferRefuses", spec := "bufferRefuses", inPlace := ["slices.overlaps[detent/order.Item]"], unfollowed := true, recurses := true, apart := false, narrowed := true }
def BufferRefusesUptoSaid : Prop := bufferRefusesUptoRow.holds Try.pinned (OpenSpec.upto bufferRefusesSpec)

/-- 'detentlaw16.BufferHands', WHERE WHAT IT READS IS OF BULK AT MOST 1048576: true; the input reads as it did. -/
def bufferHandsUptoRow : OpenClaim := { program := "ytjamgdepbjipdaa", sum := "3dfdc99d40a17814585af940c71ad907509594580ab96ffda5671c789748f219", func := "detent/detentlaw16.BufferHands", spec := "bufferHands", inPlace := ["slices.overlaps[detent/order.Item]"], unfollowed := true, recurses := true, apart := false, narrowed := true }
def BufferHandsUptoSaid : Prop := bufferHandsUptoRow.holds Try.pinned (OpenSpec.upto bufferHandsSpec)

/-- 'detentlaw16.BufferPlays', WHERE WHAT IT READS IS OF BULK AT MOST 1048576: true; the input reads as it did. -/
def bufferPlaysUptoRow : OpenClaim := { program := "ytjamgdepbjipdaa", sum := "3dfdc99d40a17814585af940c71ad907509594580ab96ffda5671c789748f219", func := "detent/detentlaw16.BufferPlays", spec := "bufferPlays", inPlace := ["slices.overlaps[detent/order.Item]", "maps.clone"], unfollowed := true, recurses := true, apart := false, narrowed := true }
def BufferPlaysUptoSaid : Prop := bufferPlaysUptoRow.holds Try.pinned (OpenSpec.upto bufferPlaysSpec)

end Rows
end Go.Proofs.Ytjamgdepbjipdaa
