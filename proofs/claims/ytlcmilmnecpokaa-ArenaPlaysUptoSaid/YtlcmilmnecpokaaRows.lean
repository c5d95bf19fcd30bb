/-
  No cell of these rows narrows 'for every input' (looked for: loops, veiled, ifaces, maps, wideKeys, modest, calm, conditions, laid).
  DERIVED. THE GIVEN ROWS OF THIS SEAT. 5 by the template 'for every input the law returns true; each argument reads behind the call as it read before'; 0 by the template 'total and deterministic' (their statements: YtlcmilmnecpokaaTotals.lean).
  GIVEN WITH THE SEED: the statements are not yours to turn. If you find one false, say at which input.
  Laid BY PROGRAM, IN A SANDBOX (cutbox-rows.mjs): the forced cells as the released guide's own fill.sh prints them over the translation f32d8c92bef5de1e… (all of the seat's roots in one cut). By AI agents, Wed Nov 11 2026. No macro, syntax, notation, axiom, sorry.
-/
import Derived.Test.YtlcmilmnecpokaaChecked
import GoSem.Claim
import GoSem.ClaimJoined
import GoSem.ClaimMapViews
import Derived.JoinedTies
import Derived.KernelRfl
namespace Go.Proofs.Ytlcmilmnecpokaa
/- THE CELL 'sum', in the pinned program and in every row, IS THE sha256 OF THE DUMP (.gsa) THAT YtlcmilmnecpokaaProg.lean LOADS. Nothing in Lean hashes anything: it is a label: what it is worth is what the hold of that sum in a sandbox is worth. -/
noncomputable def Try.pinned : Pinned := { name := "ytlcmilmnecpokaa", sum := "f32d8c92bef5de1e9d3e2a1b991b31c0015ad30604e0639ac5890e651b349ef7", checked := Try.checked }
namespace Rows
def none {H : Type} : Left H := { results := [], args := [] }

/-- 'detentlaw2.ArenaParts': WHATEVER THE INPUT: true; the input reads as it did. -/
def arenaPartsSpec : ChangeSpec := { name := "arenaParts", fn := fun _ => fun
  | [d1, d2] => { results := [.lit (.bool true)], args := [d1, d2] }
  | _ => none }
def arenaPartsRow : OpenClaim := { program := "ytlcmilmnecpokaa", sum := "f32d8c92bef5de1e9d3e2a1b991b31c0015ad30604e0639ac5890e651b349ef7", func := "detent/detentlaw2.ArenaParts", spec := "arenaParts", apart := false }
def ArenaPartsSaid : Prop := arenaPartsRow.holds Try.pinned (OpenSpec.ofChange arenaPartsSpec)

/-- ITS FALSE NEIGHBOUR: 'it returns false'. Refute it at one input. -/
def arenaPartsWrong : ChangeSpec := { name := "arenaParts", fn := fun _ => fun
  | [d1, d2] => { results := [.lit (.bool false)], args := [d1, d2] }
  | _ => none }
def ArenaPartsWrongFalsely : Prop := arenaPartsRow.holds Try.pinned (OpenSpec.ofChange arenaPartsWrong)

/-- 'detentlaw2.ArenaWords': WHATEVER THE INPUT: true; the input reads as it did. -/
def arenaWordsSpec : ChangeSpec := { name := "arenaWords", fn := fun _ => fun
  | [d1, d2] => { results := [.lit (.bool true)], args := [d1, d2] }
  | _ => none }
def arenaWordsRow : OpenClaim := { program := "ytlcmilmnecpokaa", sum := "f32d8c92bef5de1e9d3e2a1b991b31c0015ad30604e0639ac5890e651b349ef7", func := "detent/detentlaw2.ArenaWords", spec := "arenaWords", apart := false }
def ArenaWordsSaid : Prop := arenaWordsRow.holds Try.pinned (OpenSpec.ofChange arenaWordsSpec)

/-- ITS FALSE NEIGHBOUR: 'it returns false'. Refute it at one input. -/
def arenaWordsWrong : ChangeSpec := { name := "arenaWords", fn := fun _ => fun
  | [d1, d2] => { results := [.lit (.bool false)], args := [d1, d2] }
  | _ => none }
def ArenaWordsWrongFalsely : Prop := arenaWordsRow.holds Try.pinned (OpenSpec.ofChange arenaWordsWrong)

/-- 'detentlaw2.ArenaEdges': WHATEVER THE INPUT: true; the input reads as it did. -/
def arenaEdgesSpec : ChangeSpec := { name := "arenaEdges", fn := fun _ => fun
  | [d1, d2, d3] => { results := [.lit (.bool true)], args := [d1, d2, d3] }
  | _ => none }
def arenaEdgesRow : OpenClaim := { program := "ytlcmilmnecpokaa", sum := "f32d8c92bef5de1e9d3e2a1b991b31c0015ad30604e0639ac5890e651b349ef7", func := "detent/detentlaw2.ArenaEdges", spec := "arenaEdges", apart := false }
def ArenaEdgesSaid : Prop := arenaEdgesRow.holds Try.pinned (OpenSpec.ofChange arenaEdgesSpec)

/-- ITS FALSE NEIGHBOUR: 'it returns false'. Refute it at one input. -/
def arenaEdgesWrong : ChangeSpec := { name := "arenaEdges", fn := fun _ => fun
  | [d1, d2, d3] => { results := [.lit (.bool false)], args := [d1, d2, d3] }
  | _ => none }
def ArenaEdgesWrongFalsely : Prop := arenaEdgesRow.holds Try.pinned (OpenSpec.ofChange arenaEdgesWrong)

/-- 'detentlaw2.ArenaPlays': WHATEVER THE INPUT: true; the input reads as it did. -/
def arenaPlaysSpec : ChangeSpec := { name := "arenaPlays", fn := fun _ => fun
  | [d1, d2] => { results := [.lit (.bool true)], args := [d1, d2] }
  | _ => none }
def arenaPlaysRow : OpenClaim := { program := "ytlcmilmnecpokaa", sum := "f32d8c92bef5de1e9d3e2a1b991b31c0015ad30604e0639ac5890e651b349ef7", func := "detent/detentlaw2.ArenaPlays", spec := "arenaPlays", apart := false }
def ArenaPlaysSaid : Prop := arenaPlaysRow.holds Try.pinned (OpenSpec.ofChange arenaPlaysSpec)

/-- ITS FALSE NEIGHBOUR: 'it returns false'. Refute it at one input. -/
def arenaPlaysWrong : ChangeSpec := { name := "arenaPlays", fn := fun _ => fun
  | [d1, d2] => { results := [.lit (.bool false)], args := [d1, d2] }
  | _ => none }
def ArenaPlaysWrongFalsely : Prop := arenaPlaysRow.holds Try.pinned (OpenSpec.ofChange arenaPlaysWrong)

/-- 'detentlaw2.ArenaTwins': WHATEVER THE INPUT: true; the input reads as it did. -/
def arenaTwinsSpec : ChangeSpec := { name := "arenaTwins", fn := fun _ => fun
  | [d1, d2, d3] => { results := [.lit (.bool true)], args := [d1, d2, d3] }
  | _ => none }
def arenaTwinsRow : OpenClaim := { program := "ytlcmilmnecpokaa", sum := "f32d8c92bef5de1e9d3e2a1b991b31c0015ad30604e0639ac5890e651b349ef7", func := "detent/detentlaw2.ArenaTwins", spec := "arenaTwins", apart := false }
def ArenaTwinsSaid : Prop := arenaTwinsRow.holds Try.pinned (OpenSpec.ofChange arenaTwinsSpec)

/-- ITS FALSE NEIGHBOUR: 'it returns false'. Refute it at one input. -/
def arenaTwinsWrong : ChangeSpec := { name := "arenaTwins", fn := fun _ => fun
  | [d1, d2, d3] => { results := [.lit (.bool false)], args := [d1, d2, d3] }
  | _ => none }
def ArenaTwinsWrongFalsely : Prop := arenaTwinsRow.holds Try.pinned (OpenSpec.ofChange arenaTwinsWrong)

/- THE SECOND FORM. 'bulk': how many values and letters a reading holds, each counted each time it is reached (what is shared counts as often as it is met; a slice's spare places count too). A statement '..UptoSaid' is the law's where the arguments, and the package variables that the reading takes, are together of bulk at most 1048576: NARROWER than '..Said'. Prove '..Said' where nothing that the law and all that it calls make is longer than what came in: it says more and counts as full. Else prove '..UptoSaid'. A law counts once. -/
mutual
def uptoBulk {H : Type} : DataW H → Nat
  | .lit (.string bytes) => bytes.length + 1
  | .lit _ => 1
  | .nil => 1
  | .ptr d => uptoBulk d + 1
  | .slice elems spare => uptoBulkAll elems + uptoBulkAll spare + 1
  | .agg parts => uptoBulkAll parts + 1
  | .iface _ d => uptoBulk d + 1
  | .map entries => uptoBulkEntries entries + 1
  | .held _ => 1
def uptoBulkAll {H : Type} : List (DataW H) → Nat
  | [] => 0
  | d :: r => uptoBulk d + uptoBulkAll r
def uptoBulkEntries {H : Type} : List (Lit × DataW H) → Nat
  | [] => 0
  | x :: r => uptoBulkEntry x + uptoBulkEntries r
def uptoBulkEntry {H : Type} : Lit × DataW H → Nat
  | (.string bytes, d) => bytes.length + uptoBulk d + 1
  | (_, d) => uptoBulk d + 1
 end
def uptoSmall : (H : Type) → List (DataW H) → Bool := fun _ ds => decide (uptoBulkAll ds ≤ 1048576)
def OpenSpec.upto (s : _root_.Go.ChangeSpec) : _root_.Go.OpenSpec := { _root_.Go.OpenSpec.ofChange s with cond := some uptoSmall }

/-- 'detentlaw2.ArenaParts', WHERE WHAT IT READS IS OF BULK AT MOST 1048576: true; the input reads as it did. -/
def arenaPartsUptoRow : OpenClaim := { program := "ytlcmilmnecpokaa", sum := "f32d8c92bef5de1e9d3e2a1b991b31c0015ad30604e0639ac5890e651b349ef7", func := "detent/detentlaw2.ArenaParts", spec := "arenaParts", apart := false, narrowed := true }
def ArenaPartsUptoSaid : Prop := arenaPartsUptoRow.holds Try.pinned (OpenSpec.upto arenaPartsSpec)

/-- 'detentlaw2.ArenaWords', WHERE WHAT IT READS IS OF BULK AT MOST 1048576: true; the input reads as it did. -/
def arenaWordsUptoRow : OpenClaim := { program := "ytlcmilmnecpokaa", sum := "f32d8c92bef5de1e9d3e2a1b991b31c0015ad30604e0639ac5890e651b349ef7", func := "detent/detentlaw2.ArenaWords", spec := "arenaWords", apart := false, narrowed := true }
def ArenaWordsUptoSaid : Prop := arenaWordsUptoRow.holds Try.pinned (OpenSpec.upto arenaWordsSpec)

/-- 'detentlaw2.ArenaEdges', WHERE WHAT IT READS IS OF BULK AT MOST 1048576: true; the input reads as it did. -/
def arenaEdgesUptoRow : OpenClaim := { program := "ytlcmilmnecpokaa", sum := "f32d8c92bef5de1e9d3e2a1b991b31c0015ad30604e0639ac5890e651b349ef7", func := "detent/detentlaw2.ArenaEdges", spec := "arenaEdges", apart := false, narrowed := true }
def ArenaEdgesUptoSaid : Prop := arenaEdgesUptoRow.holds Try.pinned (OpenSpec.upto arenaEdgesSpec)

/-- 'detentlaw2.ArenaPlays', WHERE WHAT IT READS IS OF BULK AT MOST 1048576: true; the input reads as it did. -/
def arenaPlaysUptoRow : OpenClaim := { program := "ytlcmilmnecpokaa", sum := "f32d8c92bef5de1e9d3e2a1b991b31c0015ad30604e0639ac5890e651b349ef7", func := "detent/detentlaw2.ArenaPlays", spec := "arenaPlays", apart := false, narrowed := true }
def ArenaPlaysUptoSaid : Prop := arenaPlaysUptoRow.holds Try.pinned (OpenSpec.upto arenaPlaysSpec)

/-- 'detentlaw2.ArenaTwins', WHERE WHAT IT READS IS OF BULK AT MOST 1048576: true; the input reads as it did. -/
def arenaTwinsUptoRow : OpenClaim := { program := "ytlcmilmnecpokaa", sum := "f32d8c92bef5de1e9d3e2a1b991b31c0015ad30604e0639ac5890e651b349ef7", func := "detent/detentlaw2.ArenaTwins", spec := "arenaTwins", apart := false, narrowed := true }
def ArenaTwinsUptoSaid : Prop := arenaTwinsUptoRow.holds Try.pinned (OpenSpec.upto arenaTwinsSpec)

end Rows
end Go.Proofs.Ytlcmilmnecpokaa
