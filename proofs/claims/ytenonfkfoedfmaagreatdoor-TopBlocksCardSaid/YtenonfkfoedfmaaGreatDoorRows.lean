/-
  NARROWER THAN 'FOR EVERY INPUT', by the rows' own cells (each row's printed sentence says how): TopData: laid · TopInverts: laid · TopDelays: laid · TopKills: laid · TopClocks: laid · TopTimes: laid · TopInherits: laid · TopEnds: laid · TopMutexes: laid · TopBlocks: laid · TopInterrupts: laid · TopSelf: laid · TopNobody: laid · TopQueues: laid.
  DERIVED. THE GIVEN ROWS OF THIS SEAT. 14 by the template 'for every input the law returns true; each argument reads behind the call as it read before'; 0 by the template 'total and deterministic' (their statements: YtenonfkfoedfmaaGreatDoorTotals.lean).
  GIVEN WITH THE SEED: the statements are not yours to turn. If you find one false, say at which input.
  Laid BY PROGRAM, IN A SANDBOX (cutbox-rows.mjs): the forced cells as the released guide's own fill.sh prints them over the translation b806f098f9e25567… (all of the seat's roots in one cut). By AI agents, Wed Nov 11 2026. No macro, syntax, notation, axiom, sorry.
-/
import Derived.Test.YtenonfkfoedfmaaGreatDoorChecked
import GoSem.Claim
import GoSem.ClaimJoined
import GoSem.ClaimMapViews
import Derived.JoinedTies
import Derived.KernelRfl
namespace Go.Proofs.YtenonfkfoedfmaaGreatDoor
/- THE CELL 'sum', in the pinned program and in every row, IS THE sha256 OF THE DUMP (.gsa) THAT YtenonfkfoedfmaaGreatDoorProg.lean LOADS. Nothing in Lean hashes anything: it is a label: what it is worth is what the hold of that sum in a sandbox is worth. -/
noncomputable def Tryz.pinned : Pinned := { name := "ytenonfkfoedfmaagreatdoor", sum := "b806f098f9e25567849bce078e48cfbe18c7333a4899e9f034cd38268671c167", checked := Tryz.checked }
namespace Rows
def none {H : Type} : Left H := { results := [], args := [] }

/- WHAT THE LISTED PACKAGE-LEVEL VARIABLES READ AS WHEN THE CALL BEGINS. Each datum BY PROGRAM (the guide's laid-datum.mjs) off the statement by which the dump's own 'gosem.cut.vars' lays the variable. In a bare row this is a premise. The card (YtenonfkfoedfmaaGreatDoorCards.lean) ties it to the program's text. -/
def laid_math_bits_deBruijn64tab {H : Type} : DataW H := .agg [.lit (.int .u8 0), .lit (.int .u8 1), .lit (.int .u8 56), .lit (.int .u8 2), .lit (.int .u8 57), .lit (.int .u8 49), .lit (.int .u8 28), .lit (.int .u8 3), .lit (.int .u8 61), .lit (.int .u8 58), .lit (.int .u8 42), .lit (.int .u8 50), .lit (.int .u8 38), .lit (.int .u8 29), .lit (.int .u8 17), .lit (.int .u8 4), .lit (.int .u8 62), .lit (.int .u8 47), .lit (.int .u8 59), .lit (.int .u8 36), .lit (.int .u8 45), .lit (.int .u8 43), .lit (.int .u8 51), .lit (.int .u8 22), .lit (.int .u8 53), .lit (.int .u8 39), .lit (.int .u8 33), .lit (.int .u8 30), .lit (.int .u8 24), .lit (.int .u8 18), .lit (.int .u8 12), .lit (.int .u8 5), .lit (.int .u8 63), .lit (.int .u8 55), .lit (.int .u8 48), .lit (.int .u8 27), .lit (.int .u8 60), .lit (.int .u8 41), .lit (.int .u8 37), .lit (.int .u8 16), .lit (.int .u8 46), .lit (.int .u8 35), .lit (.int .u8 44), .lit (.int .u8 21), .lit (.int .u8 52), .lit (.int .u8 32), .lit (.int .u8 23), .lit (.int .u8 11), .lit (.int .u8 54), .lit (.int .u8 26), .lit (.int .u8 40), .lit (.int .u8 15), .lit (.int .u8 34), .lit (.int .u8 20), .lit (.int .u8 31), .lit (.int .u8 10), .lit (.int .u8 25), .lit (.int .u8 14), .lit (.int .u8 19), .lit (.int .u8 9), .lit (.int .u8 13), .lit (.int .u8 8), .lit (.int .u8 7), .lit (.int .u8 6)]

/-- 'detenttop.TopData': WHATEVER THE INPUT: true; the input reads as it did. -/
def topDataSpec : ChangeSpec := { name := "topData", fn := fun _ => fun
  | [d1, d2, d3] => { results := [.lit (.bool true)], args := [d1, d2, d3] }
  | _ => none }
def topDataRow : OpenClaim := { program := "ytenonfkfoedfmaagreatdoor", sum := "b806f098f9e25567849bce078e48cfbe18c7333a4899e9f034cd38268671c167", func := "detent/detenttop.TopData", spec := "topData", inPlace := ["slices.overlaps[int]", "slices.overlaps[detent/order.Item]"], unfollowed := true, recurses := true, named := ["math/bits.deBruijn64tab"], apart := false, laid := [("math/bits.deBruijn64tab", laid_math_bits_deBruijn64tab)] }
def TopDataSaid : Prop := topDataRow.holds Tryz.pinned (OpenSpec.ofChange topDataSpec)

/-- ITS FALSE NEIGHBOUR: 'it returns false'. Refute it at one input. -/
def topDataWrong : ChangeSpec := { name := "topData", fn := fun _ => fun
  | [d1, d2, d3] => { results := [.lit (.bool false)], args := [d1, d2, d3] }
  | _ => none }
def TopDataWrongFalsely : Prop := topDataRow.holds Tryz.pinned (OpenSpec.ofChange topDataWrong)

/-- 'detenttop.TopInverts': WHATEVER THE INPUT: true; the input reads as it did. -/
def topInvertsSpec : ChangeSpec := { name := "topInverts", fn := fun _ => fun
  | [d1, d2, d3, d4] => { results := [.lit (.bool true)], args := [d1, d2, d3, d4] }
  | _ => none }
def topInvertsRow : OpenClaim := { program := "ytenonfkfoedfmaagreatdoor", sum := "b806f098f9e25567849bce078e48cfbe18c7333a4899e9f034cd38268671c167", func := "detent/detenttop.TopInverts", spec := "topInverts", inPlace := ["slices.overlaps[int]", "slices.overlaps[detent/order.Item]"], unfollowed := true, recurses := true, named := ["math/bits.deBruijn64tab"], apart := false, laid := [("math/bits.deBruijn64tab", laid_math_bits_deBruijn64tab)] }
def TopInvertsSaid : Prop := topInvertsRow.holds Tryz.pinned (OpenSpec.ofChange topInvertsSpec)

/-- ITS FALSE NEIGHBOUR: 'it returns false'. Refute it at one input. -/
def topInvertsWrong : ChangeSpec := { name := "topInverts", fn := fun _ => fun
  | [d1, d2, d3, d4] => { results := [.lit (.bool false)], args := [d1, d2, d3, d4] }
  | _ => none }
def TopInvertsWrongFalsely : Prop := topInvertsRow.holds Tryz.pinned (OpenSpec.ofChange topInvertsWrong)

/-- 'detenttop.TopDelays': WHATEVER THE INPUT: true; the input reads as it did. -/
def topDelaysSpec : ChangeSpec := { name := "topDelays", fn := fun _ => fun
  | [d1, d2] => { results := [.lit (.bool true)], args := [d1, d2] }
  | _ => none }
def topDelaysRow : OpenClaim := { program := "ytenonfkfoedfmaagreatdoor", sum := "b806f098f9e25567849bce078e48cfbe18c7333a4899e9f034cd38268671c167", func := "detent/detenttop.TopDelays", spec := "topDelays", inPlace := ["slices.overlaps[int]", "slices.overlaps[detent/order.Item]"], unfollowed := true, recurses := true, named := ["math/bits.deBruijn64tab"], apart := false, laid := [("math/bits.deBruijn64tab", laid_math_bits_deBruijn64tab)] }
def TopDelaysSaid : Prop := topDelaysRow.holds Tryz.pinned (OpenSpec.ofChange topDelaysSpec)

/-- ITS FALSE NEIGHBOUR: 'it returns false'. Refute it at one input. -/
def topDelaysWrong : ChangeSpec := { name := "topDelays", fn := fun _ => fun
  | [d1, d2] => { results := [.lit (.bool false)], args := [d1, d2] }
  | _ => none }
def TopDelaysWrongFalsely : Prop := topDelaysRow.holds Tryz.pinned (OpenSpec.ofChange topDelaysWrong)

/-- 'detenttop.TopKills': WHATEVER THE INPUT: true; the input reads as it did. -/
def topKillsSpec : ChangeSpec := { name := "topKills", fn := fun _ => fun
  | [d] => { results := [.lit (.bool true)], args := [d] }
  | _ => none }
def topKillsRow : OpenClaim := { program := "ytenonfkfoedfmaagreatdoor", sum := "b806f098f9e25567849bce078e48cfbe18c7333a4899e9f034cd38268671c167", func := "detent/detenttop.TopKills", spec := "topKills", inPlace := ["slices.overlaps[int]", "slices.overlaps[detent/order.Item]"], unfollowed := true, recurses := true, named := ["math/bits.deBruijn64tab"], apart := false, laid := [("math/bits.deBruijn64tab", laid_math_bits_deBruijn64tab)] }
def TopKillsSaid : Prop := topKillsRow.holds Tryz.pinned (OpenSpec.ofChange topKillsSpec)

/-- ITS FALSE NEIGHBOUR: 'it returns false'. Refute it at one input. -/
def topKillsWrong : ChangeSpec := { name := "topKills", fn := fun _ => fun
  | [d] => { results := [.lit (.bool false)], args := [d] }
  | _ => none }
def TopKillsWrongFalsely : Prop := topKillsRow.holds Tryz.pinned (OpenSpec.ofChange topKillsWrong)

/-- 'detenttop.TopClocks': WHATEVER THE INPUT: true; the input reads as it did. -/
def topClocksSpec : ChangeSpec := { name := "topClocks", fn := fun _ => fun
  | [d1, d2, d3] => { results := [.lit (.bool true)], args := [d1, d2, d3] }
  | _ => none }
def topClocksRow : OpenClaim := { program := "ytenonfkfoedfmaagreatdoor", sum := "b806f098f9e25567849bce078e48cfbe18c7333a4899e9f034cd38268671c167", func := "detent/detenttop.TopClocks", spec := "topClocks", inPlace := ["slices.overlaps[int]", "slices.overlaps[detent/order.Item]"], unfollowed := true, recurses := true, named := ["math/bits.deBruijn64tab"], apart := false, laid := [("math/bits.deBruijn64tab", laid_math_bits_deBruijn64tab)] }
def TopClocksSaid : Prop := topClocksRow.holds Tryz.pinned (OpenSpec.ofChange topClocksSpec)

/-- ITS FALSE NEIGHBOUR: 'it returns false'. Refute it at one input. -/
def topClocksWrong : ChangeSpec := { name := "topClocks", fn := fun _ => fun
  | [d1, d2, d3] => { results := [.lit (.bool false)], args := [d1, d2, d3] }
  | _ => none }
def TopClocksWrongFalsely : Prop := topClocksRow.holds Tryz.pinned (OpenSpec.ofChange topClocksWrong)

/-- 'detenttop.TopTimes': WHATEVER THE INPUT: true; the input reads as it did. -/
def topTimesSpec : ChangeSpec := { name := "topTimes", fn := fun _ => fun
  | [d] => { results := [.lit (.bool true)], args := [d] }
  | _ => none }
def topTimesRow : OpenClaim := { program := "ytenonfkfoedfmaagreatdoor", sum := "b806f098f9e25567849bce078e48cfbe18c7333a4899e9f034cd38268671c167", func := "detent/detenttop.TopTimes", spec := "topTimes", inPlace := ["slices.overlaps[int]", "slices.overlaps[detent/order.Item]"], unfollowed := true, recurses := true, named := ["math/bits.deBruijn64tab"], apart := false, laid := [("math/bits.deBruijn64tab", laid_math_bits_deBruijn64tab)] }
def TopTimesSaid : Prop := topTimesRow.holds Tryz.pinned (OpenSpec.ofChange topTimesSpec)

/-- ITS FALSE NEIGHBOUR: 'it returns false'. Refute it at one input. -/
def topTimesWrong : ChangeSpec := { name := "topTimes", fn := fun _ => fun
  | [d] => { results := [.lit (.bool false)], args := [d] }
  | _ => none }
def TopTimesWrongFalsely : Prop := topTimesRow.holds Tryz.pinned (OpenSpec.ofChange topTimesWrong)

/-- 'detenttop.TopInherits': WHATEVER THE INPUT: true; the input reads as it did. -/
def topInheritsSpec : ChangeSpec := { name := "topInherits", fn := fun _ => fun
  | [d1, d2] => { results := [.lit (.bool true)], args := [d1, d2] }
  | _ => none }
def topInheritsRow : OpenClaim := { program := "ytenonfkfoedfmaagreatdoor", sum := "b806f098f9e25567849bce078e48cfbe18c7333a4899e9f034cd38268671c167", func := "detent/detenttop.TopInherits", spec := "topInherits", inPlace := ["slices.overlaps[int]", "slices.overlaps[detent/order.Item]"], unfollowed := true, recurses := true, named := ["math/bits.deBruijn64tab"], apart := false, laid := [("math/bits.deBruijn64tab", laid_math_bits_deBruijn64tab)] }
def TopInheritsSaid : Prop := topInheritsRow.holds Tryz.pinned (OpenSpec.ofChange topInheritsSpec)

/-- ITS FALSE NEIGHBOUR: 'it returns false'. Refute it at one input. -/
def topInheritsWrong : ChangeSpec := { name := "topInherits", fn := fun _ => fun
  | [d1, d2] => { results := [.lit (.bool false)], args := [d1, d2] }
  | _ => none }
def TopInheritsWrongFalsely : Prop := topInheritsRow.holds Tryz.pinned (OpenSpec.ofChange topInheritsWrong)

/-- 'detenttop.TopEnds': WHATEVER THE INPUT: true; the input reads as it did. -/
def topEndsSpec : ChangeSpec := { name := "topEnds", fn := fun _ => fun
  | [d] => { results := [.lit (.bool true)], args := [d] }
  | _ => none }
def topEndsRow : OpenClaim := { program := "ytenonfkfoedfmaagreatdoor", sum := "b806f098f9e25567849bce078e48cfbe18c7333a4899e9f034cd38268671c167", func := "detent/detenttop.TopEnds", spec := "topEnds", inPlace := ["slices.overlaps[int]", "slices.overlaps[detent/order.Item]"], unfollowed := true, recurses := true, named := ["math/bits.deBruijn64tab"], apart := false, laid := [("math/bits.deBruijn64tab", laid_math_bits_deBruijn64tab)] }
def TopEndsSaid : Prop := topEndsRow.holds Tryz.pinned (OpenSpec.ofChange topEndsSpec)

/-- ITS FALSE NEIGHBOUR: 'it returns false'. Refute it at one input. -/
def topEndsWrong : ChangeSpec := { name := "topEnds", fn := fun _ => fun
  | [d] => { results := [.lit (.bool false)], args := [d] }
  | _ => none }
def TopEndsWrongFalsely : Prop := topEndsRow.holds Tryz.pinned (OpenSpec.ofChange topEndsWrong)

/-- 'detenttop.TopMutexes': WHATEVER THE INPUT: true; the input reads as it did. -/
def topMutexesSpec : ChangeSpec := { name := "topMutexes", fn := fun _ => fun
  | [d1, d2, d3] => { results := [.lit (.bool true)], args := [d1, d2, d3] }
  | _ => none }
def topMutexesRow : OpenClaim := { program := "ytenonfkfoedfmaagreatdoor", sum := "b806f098f9e25567849bce078e48cfbe18c7333a4899e9f034cd38268671c167", func := "detent/detenttop.TopMutexes", spec := "topMutexes", inPlace := ["slices.overlaps[int]", "slices.overlaps[detent/order.Item]"], unfollowed := true, recurses := true, named := ["math/bits.deBruijn64tab"], apart := false, laid := [("math/bits.deBruijn64tab", laid_math_bits_deBruijn64tab)] }
def TopMutexesSaid : Prop := topMutexesRow.holds Tryz.pinned (OpenSpec.ofChange topMutexesSpec)

/-- ITS FALSE NEIGHBOUR: 'it returns false'. Refute it at one input. -/
def topMutexesWrong : ChangeSpec := { name := "topMutexes", fn := fun _ => fun
  | [d1, d2, d3] => { results := [.lit (.bool false)], args := [d1, d2, d3] }
  | _ => none }
def TopMutexesWrongFalsely : Prop := topMutexesRow.holds Tryz.pinned (OpenSpec.ofChange topMutexesWrong)

/-- 'detenttop.TopBlocks': WHATEVER THE INPUT: true; the input reads as it did. -/
def topBlocksSpec : ChangeSpec := { name := "topBlocks", fn := fun _ => fun
  | [d1, d2, d3] => { results := [.lit (.bool true)], args := [d1, d2, d3] }
  | _ => none }
def topBlocksRow : OpenClaim := { program := "ytenonfkfoedfmaagreatdoor", sum := "b806f098f9e25567849bce078e48cfbe18c7333a4899e9f034cd38268671c167", func := "detent/detenttop.TopBlocks", spec := "topBlocks", inPlace := ["slices.overlaps[int]", "slices.overlaps[detent/order.Item]"], unfollowed := true, recurses := true, named := ["math/bits.deBruijn64tab"], apart := false, laid := [("math/bits.deBruijn64tab", laid_math_bits_deBruijn64tab)] }
def TopBlocksSaid : Prop := topBlocksRow.holds Tryz.pinned (OpenSpec.ofChange topBlocksSpec)

/-- ITS FALSE NEIGHBOUR: 'it returns false'. Refute it at one input. -/
def topBlocksWrong : ChangeSpec := { name := "topBlocks", fn := fun _ => fun
  | [d1, d2, d3] => { results := [.lit (.bool false)], args := [d1, d2, d3] }
  | _ => none }
def TopBlocksWrongFalsely : Prop := topBlocksRow.holds Tryz.pinned (OpenSpec.ofChange topBlocksWrong)

/-- 'detenttop.TopInterrupts': WHATEVER THE INPUT: true; the input reads as it did. -/
def topInterruptsSpec : ChangeSpec := { name := "topInterrupts", fn := fun _ => fun
  | [d1, d2] => { results := [.lit (.bool true)], args := [d1, d2] }
  | _ => none }
def topInterruptsRow : OpenClaim := { program := "ytenonfkfoedfmaagreatdoor", sum := "b806f098f9e25567849bce078e48cfbe18c7333a4899e9f034cd38268671c167", func := "detent/detenttop.TopInterrupts", spec := "topInterrupts", inPlace := ["slices.overlaps[int]", "slices.overlaps[detent/order.Item]"], unfollowed := true, recurses := true, named := ["math/bits.deBruijn64tab"], apart := false, laid := [("math/bits.deBruijn64tab", laid_math_bits_deBruijn64tab)] }
def TopInterruptsSaid : Prop := topInterruptsRow.holds Tryz.pinned (OpenSpec.ofChange topInterruptsSpec)

/-- ITS FALSE NEIGHBOUR: 'it returns false'. Refute it at one input. -/
def topInterruptsWrong : ChangeSpec := { name := "topInterrupts", fn := fun _ => fun
  | [d1, d2] => { results := [.lit (.bool false)], args := [d1, d2] }
  | _ => none }
def TopInterruptsWrongFalsely : Prop := topInterruptsRow.holds Tryz.pinned (OpenSpec.ofChange topInterruptsWrong)

/-- 'detenttop.TopSelf': WHATEVER THE INPUT: true; the input reads as it did. -/
def topSelfSpec : ChangeSpec := { name := "topSelf", fn := fun _ => fun
  | [d1, d2] => { results := [.lit (.bool true)], args := [d1, d2] }
  | _ => none }
def topSelfRow : OpenClaim := { program := "ytenonfkfoedfmaagreatdoor", sum := "b806f098f9e25567849bce078e48cfbe18c7333a4899e9f034cd38268671c167", func := "detent/detenttop.TopSelf", spec := "topSelf", inPlace := ["slices.overlaps[int]", "slices.overlaps[detent/order.Item]"], unfollowed := true, recurses := true, named := ["math/bits.deBruijn64tab"], apart := false, laid := [("math/bits.deBruijn64tab", laid_math_bits_deBruijn64tab)] }
def TopSelfSaid : Prop := topSelfRow.holds Tryz.pinned (OpenSpec.ofChange topSelfSpec)

/-- ITS FALSE NEIGHBOUR: 'it returns false'. Refute it at one input. -/
def topSelfWrong : ChangeSpec := { name := "topSelf", fn := fun _ => fun
  | [d1, d2] => { results := [.lit (.bool false)], args := [d1, d2] }
  | _ => none }
def TopSelfWrongFalsely : Prop := topSelfRow.holds Tryz.pinned (OpenSpec.ofChange topSelfWrong)

/-- 'detenttop.TopNobody': WHATEVER THE INPUT: true; the input reads as it did. -/
def topNobodySpec : ChangeSpec := { name := "topNobody", fn := fun _ => fun
  | [d1, d2] => { results := [.lit (.bool true)], args := [d1, d2] }
  | _ => none }
def topNobodyRow : OpenClaim := { program := "ytenonfkfoedfmaagreatdoor", sum := "b806f098f9e25567849bce078e48cfbe18c7333a4899e9f034cd38268671c167", func := "detent/detenttop.TopNobody", spec := "topNobody", inPlace := ["slices.overlaps[int]", "slices.overlaps[detent/order.Item]"], unfollowed := true, recurses := true, named := ["math/bits.deBruijn64tab"], apart := false, laid := [("math/bits.deBruijn64tab", laid_math_bits_deBruijn64tab)] }
def TopNobodySaid : Prop := topNobodyRow.holds Tryz.pinned (OpenSpec.ofChange topNobodySpec)

/-- ITS FALSE NEIGHBOUR: 'it returns false'. Refute it at one input. -/
def topNobodyWrong : ChangeSpec := { name := "topNobody", fn := fun _ => fun
  | [d1, d2] => { results := [.lit (.bool false)], args := [d1, d2] }
  | _ => none }
def TopNobodyWrongFalsely : Prop := topNobodyRow.holds Tryz.pinned (OpenSpec.ofChange topNobodyWrong)

/-- 'detenttop.TopQueues': WHATEVER THE INPUT: true; the input reads as it did. -/
def topQueuesSpec : ChangeSpec := { name := "topQueues", fn := fun _ => fun
  | [d1, d2] => { results := [.lit (.bool true)], args := [d1, d2] }
  | _ => none }
def topQueuesRow : OpenClaim := { program := "ytenonfkfoedfmaagreatdoor", sum := "b806f098f9e25567849bce078e48cfbe18c7333a4899e9f034cd38268671c167", func := "detent/detenttop.TopQueues", spec := "topQueues", inPlace := ["slices.overlaps[int]", "slices.overlaps[detent/order.Item]"], unfollowed := true, recurses := true, named := ["math/bits.deBruijn64tab"], apart := false, laid := [("math/bits.deBruijn64tab", laid_math_bits_deBruijn64tab)] }
def TopQueuesSaid : Prop := topQueuesRow.holds Tryz.pinned (OpenSpec.ofChange topQueuesSpec)

/-- ITS FALSE NEIGHBOUR: 'it returns false'. Refute it at one input. -/
def topQueuesWrong : ChangeSpec := { name := "topQueues", fn := fun _ => fun
  | [d1, d2] => { results := [.lit (.bool false)], args := [d1, d2] }
  | _ => none }
def TopQueuesWrongFalsely : Prop := topQueuesRow.holds Tryz.pinned (OpenSpec.ofChange topQueuesWrong)

/- THE SECOND FORM. 'bulk': how many values and letters a reading holds, each counted each time it is reached (what is shared counts as often as it is met; a slice's spare places count too). A statement '..UptoSaid' is the law's where the arguments, and the package variables that the reading takes, are together of bulk at most 1048576: NARROWER than '..Said'. Prove '..Said' where nothing that the law and all that it calls make is longer than what came in: it says more and counts as full. Else prove '..UptoSaid'. A law counts once. -/
mutual
def uptoBulk {H : Type} : DataW H → Nat
  | .lit (.string bytes) => bytes.length + 1
  | .lit _ => 1
  | .nil => 1
  | .ptr d => uptoBulk d + 1
  | .slice elems spare => uptoBulkAll elems + uptoBulkAll spare + 1
  | .agg parts => uptoBulkAll parts + 1
  | .iface _ d => uptoBulk d + 1
  | .map entries => uptoBulkEntries entries + 1
  | .held _ => 1
def uptoBulkAll {H : Type} : List (DataW H) → Nat
  | [] => 0
  | d :: r => uptoBulk d + uptoBulkAll r
def uptoBulkEntries {H : Type} : List (Lit × DataW H) → Nat
  | [] => 0
  | x :: r => uptoBulkEntry x + uptoBulkEntries r
def uptoBulkEntry {H : Type} : Lit × DataW H → Nat
  | (.string bytes, d) => bytes.length + uptoBulk d + 1
  | (_, d) => uptoBulk d + 1
 end
def uptoSmall : (H : Type) → List (DataW H) → Bool := fun _ ds => decide (uptoBulkAll ds ≤ 1048576)
def OpenSpec.upto (s : _root_.Go.ChangeSpec) : _root_.Go.OpenSpec := { _root_.Go.OpenSpec.ofChange s with cond := some uptoSmall }

/-- 'detenttop.TopData', WHERE WHAT IT READS IS OF BULK AT MOST 1048576: true; the input reads as it did. -/
def topDataUptoRow : OpenClaim := { program := "ytenonfkfoedfmaagreatdoor", sum := "b806f098f9e25567849bce078e48cfbe18c7333a4899e9f034cd38268671c167", func := "detent/detenttop.TopData", spec := "topData", inPlace := ["slices.overlaps[int]", "slices.overlaps[detent/order.Item]"], unfollowed := true, recurses := true, named := ["math/bits.deBruijn64tab"], apart := false, laid := [("math/bits.deBruijn64tab", laid_math_bits_deBruijn64tab)], narrowed := true }
def TopDataUptoSaid : Prop := topDataUptoRow.holds Tryz.pinned (OpenSpec.upto topDataSpec)

/-- 'detenttop.TopInverts', WHERE WHAT IT READS IS OF BULK AT MOST 1048576: true; the input reads as it did. -/
def topInvertsUptoRow : OpenClaim := { program := "ytenonfkfoedfmaagreatdoor", sum := "b806f098f9e25567849bce078e48cfbe18c7333a4899e9f034cd38268671c167", func := "detent/detenttop.TopInverts", spec := "topInverts", inPlace := ["slices.overlaps[int]", "slices.overlaps[detent/order.Item]"], unfollowed := true, recurses := true, named := ["math/bits.deBruijn64tab"], apart := false, laid := [("math/bits.deBruijn64tab", laid_math_bits_deBruijn64tab)], narrowed := true }
def TopInvertsUptoSaid : Prop := topInvertsUptoRow.holds Tryz.pinned (OpenSpec.upto topInvertsSpec)

/-- 'detenttop.TopDelays', WHERE WHAT IT READS IS OF BULK AT MOST 1048576: true; the input reads as it did. -/
def topDelaysUptoRow : OpenClaim := { program := "ytenonfkfoedfmaagreatdoor", sum := "b806f098f9e25567849bce078e48cfbe18c7333a4899e9f034cd38268671c167", func := "detent/detenttop.TopDelays", spec := "topDelays", inPlace := ["slices.overlaps[int]", "slices.overlaps[detent/order.Item]"], unfollowed := true, recurses := true, named := ["math/bits.deBruijn64tab"], apart := false, laid := [("math/bits.deBruijn64tab", laid_math_bits_deBruijn64tab)], narrowed := true }
def TopDelaysUptoSaid : Prop := topDelaysUptoRow.holds Tryz.pinned (OpenSpec.upto topDelaysSpec)

/-- 'detenttop.TopKills', WHERE WHAT IT READS IS OF BULK AT MOST 1048576: true; the input reads as it did. -/
def topKillsUptoRow : OpenClaim := { program := "ytenonfkfoedfmaagreatdoor", sum := "b806f098f9e25567849bce078e48cfbe18c7333a4899e9f034cd38268671c167", func := "detent/detenttop.TopKills", spec := "topKills", inPlace := ["slices.overlaps[int]", "slices.overlaps[detent/order.Item]"], unfollowed := true, recurses := true, named := ["math/bits.deBruijn64tab"], apart := false, laid := [("math/bits.deBruijn64tab", laid_math_bits_deBruijn64tab)], narrowed := true }
def TopKillsUptoSaid : Prop := topKillsUptoRow.holds Tryz.pinned (OpenSpec.upto topKillsSpec)

/-- 'detenttop.TopClocks', WHERE WHAT IT READS IS OF BULK AT MOST 1048576: true; the input reads as it did. -/
def topClocksUptoRow : OpenClaim := { program := "ytenonfkfoedfmaagreatdoor", sum := "b806f098f9e25567849bce078e48cfbe18c7333a4899e9f034cd38268671c167", func := "detent/detenttop.TopClocks", spec := "topClocks", inPlace := ["slices.overlaps[int]", "slices.overlaps[detent/order.Item]"], unfollowed := true, recurses := true, named := ["math/bits.deBruijn64tab"], apart := false, laid := [("math/bits.deBruijn64tab", laid_math_bits_deBruijn64tab)], narrowed := true }
def TopClocksUptoSaid : Prop := topClocksUptoRow.holds Tryz.pinned (OpenSpec.upto topClocksSpec)

/-- 'detenttop.TopTimes', WHERE WHAT IT READS IS OF BULK AT MOST 1048576: true; the input reads as it did. -/
def topTimesUptoRow : OpenClaim := { program := "ytenonfkfoedfmaagreatdoor", sum := "b806f098f9e25567849bce078e48cfbe18c7333a4899e9f034cd38268671c167", func := "detent/detenttop.TopTimes", spec := "topTimes", inPlace := ["slices.overlaps[int]", "slices.overlaps[detent/order.Item]"], unfollowed := true, recurses := true, named := ["math/bits.deBruijn64tab"], apart := false, laid := [("math/bits.deBruijn64tab", laid_math_bits_deBruijn64tab)], narrowed := true }
def TopTimesUptoSaid : Prop := topTimesUptoRow.holds Tryz.pinned (OpenSpec.upto topTimesSpec)

/-- 'detenttop.TopInherits', WHERE WHAT IT READS IS OF BULK AT MOST 1048576: true; the input reads as it did. -/
def topInheritsUptoRow : OpenClaim := { program := "ytenonfkfoedfmaagreatdoor", sum := "b806f098f9e25567849bce078e48cfbe18c7333a4899e9f034cd38268671c167", func := "detent/detenttop.TopInherits", spec := "topInherits", inPlace := ["slices.overlaps[int]", "slices.overlaps[detent/order.Item]"], unfollowed := true, recurses := true, named := ["math/bits.deBruijn64tab"], apart := false, laid := [("math/bits.deBruijn64tab", laid_math_bits_deBruijn64tab)], narrowed := true }
def TopInheritsUptoSaid : Prop := topInheritsUptoRow.holds Tryz.pinned (OpenSpec.upto topInheritsSpec)

/-- 'detenttop.TopEnds', WHERE WHAT IT READS IS OF BULK AT MOST 1048576: true; the input reads as it did. -/
def topEndsUptoRow : OpenClaim := { program := "ytenonfkfoedfmaagreatdoor", sum := "b806f098f9e25567849bce078e48cfbe18c7333a4899e9f034cd38268671c167", func := "detent/detenttop.TopEnds", spec := "topEnds", inPlace := ["slices.overlaps[int]", "slices.overlaps[detent/order.Item]"], unfollowed := true, recurses := true, named := ["math/bits.deBruijn64tab"], apart := false, laid := [("math/bits.deBruijn64tab", laid_math_bits_deBruijn64tab)], narrowed := true }
def TopEndsUptoSaid : Prop := topEndsUptoRow.holds Tryz.pinned (OpenSpec.upto topEndsSpec)

/-- 'detenttop.TopMutexes', WHERE WHAT IT READS IS OF BULK AT MOST 1048576: true; the input reads as it did. -/
def topMutexesUptoRow : OpenClaim := { program := "ytenonfkfoedfmaagreatdoor", sum := "b806f098f9e25567849bce078e48cfbe18c7333a4899e9f034cd38268671c167", func := "detent/detenttop.TopMutexes", spec := "topMutexes", inPlace := ["slices.overlaps[int]", "slices.overlaps[detent/order.Item]"], unfollowed := true, recurses := true, named := ["math/bits.deBruijn64tab"], apart := false, laid := [("math/bits.deBruijn64tab", laid_math_bits_deBruijn64tab)], narrowed := true }
def TopMutexesUptoSaid : Prop := topMutexesUptoRow.holds Tryz.pinned (OpenSpec.upto topMutexesSpec)

/-- 'detenttop.TopBlocks', WHERE WHAT IT READS IS OF BULK AT MOST 1048576: true; the input reads as it did. -/
def topBlocksUptoRow : OpenClaim := { program := "ytenonfkfoedfmaagreatdoor", sum := "b806f098f9e25567849bce078e48cfbe18c7333a4899e9f034cd38268671c167", func := "detent/detenttop.TopBlocks", spec := "topBlocks", inPlace := ["slices.overlaps[int]", "slices.overlaps[detent/order.Item]"], unfollowed := true, recurses := true, named := ["math/bits.deBruijn64tab"], apart := false, laid := [("math/bits.deBruijn64tab", laid_math_bits_deBruijn64tab)], narrowed := true }
def TopBlocksUptoSaid : Prop := topBlocksUptoRow.holds Tryz.pinned (OpenSpec.upto topBlocksSpec)

/-- 'detenttop.TopInterrupts', WHERE WHAT IT READS IS OF BULK AT MOST 1048576: true; the input reads as it did. -/
def topInterruptsUptoRow : OpenClaim := { program := "ytenonfkfoedfmaagreatdoor", sum := "b806f098f9e25567849bce078e48cfbe18c7333a4899e9f034cd38268671c167", func := "detent/detenttop.TopInterrupts", spec := "topInterrupts", inPlace := ["slices.overlaps[int]", "slices.overlaps[detent/order.Item]"], unfollowed := true, recurses := true, named := ["math/bits.deBruijn64tab"], apart := false, laid := [("math/bits.deBruijn64tab", laid_math_bits_deBruijn64tab)], narrowed := true }
def TopInterruptsUptoSaid : Prop := topInterruptsUptoRow.holds Tryz.pinned (OpenSpec.upto topInterruptsSpec)

/-- 'detenttop.TopSelf', WHERE WHAT IT READS IS OF BULK AT MOST 1048576: true; the input reads as it did. -/
def topSelfUptoRow : OpenClaim := { program := "ytenonfkfoedfmaagreatdoor", sum := "b806f098f9e25567849bce078e48cfbe18c7333a4899e9f034cd38268671c167", func := "detent/detenttop.TopSelf", spec := "topSelf", inPlace := ["slices.overlaps[int]", "slices.overlaps[detent/order.Item]"], unfollowed := true, recurses := true, named := ["math/bits.deBruijn64tab"], apart := false, laid := [("math/bits.deBruijn64tab", laid_math_bits_deBruijn64tab)], narrowed := true }
def TopSelfUptoSaid : Prop := topSelfUptoRow.holds Tryz.pinned (OpenSpec.upto topSelfSpec)

/-- 'detenttop.TopNobody', WHERE WHAT IT READS IS OF BULK AT MOST 1048576: true; the input reads as it did. -/
def topNobodyUptoRow : OpenClaim := { program := "ytenonfkfoedfmaagreatdoor", sum := "b806f098f9e25567849bce078e48cfbe18c7333a4899e9f034cd38268671c167", func := "detent/detenttop.TopNobody", spec := "topNobody", inPlace := ["slices.overlaps[int]", "slices.overlaps[detent/order.Item]"], unfollowed := true, recurses := true, named := ["math/bits.deBruijn64tab"], apart := false, laid := [("math/bits.deBruijn64tab", laid_math_bits_deBruijn64tab)], narrowed := true }
def TopNobodyUptoSaid : Prop := topNobodyUptoRow.holds Tryz.pinned (OpenSpec.upto topNobodySpec)

/-- 'detenttop.TopQueues', WHERE WHAT IT READS IS OF BULK AT MOST 1048576: true; the input reads as it did. -/
def topQueuesUptoRow : OpenClaim := { program := "ytenonfkfoedfmaagreatdoor", sum := "b806f098f9e25567849bce078e48cfbe18c7333a4899e9f034cd38268671c167", func := "detent/detenttop.TopQueues", spec := "topQueues", inPlace := ["slices.overlaps[int]", "slices.overlaps[detent/order.Item]"], unfollowed := true, recurses := true, named := ["math/bits.deBruijn64tab"], apart := false, laid := [("math/bits.deBruijn64tab", laid_math_bits_deBruijn64tab)], narrowed := true }
def TopQueuesUptoSaid : Prop := topQueuesUptoRow.holds Tryz.pinned (OpenSpec.upto topQueuesSpec)

end Rows
end Go.Proofs.YtenonfkfoedfmaaGreatDoor
