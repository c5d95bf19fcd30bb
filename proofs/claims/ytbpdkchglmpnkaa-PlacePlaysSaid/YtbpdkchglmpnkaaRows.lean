/-
  No cell of these rows narrows 'for every input' (looked for: loops, veiled, ifaces, maps, wideKeys, modest, calm, conditions, laid).
  DERIVED. THE GIVEN ROWS OF THIS SEAT. 4 by the template 'for every input the law returns true; each argument reads behind the call as it read before'; 0 by the template 'total and deterministic' (their statements: YtbpdkchglmpnkaaTotals.lean).
  GIVEN WITH THE SEED: the statements are not yours to turn. If you find one false, say at which input.
  Laid BY PROGRAM, IN A SANDBOX (cutbox-rows.mjs): the forced cells as the released guide's own fill.sh prints them over the translation 8c4f0522c042ac9a… (all of the seat's roots in one cut). By AI agents, Wed Nov 11 2026. No macro, syntax, notation, axiom, sorry.
-/
import Derived.Test.YtbpdkchglmpnkaaChecked
import GoSem.Claim
import GoSem.ClaimJoined
import GoSem.ClaimMapViews
import Derived.JoinedTies
import Derived.KernelRfl
namespace Go.Proofs.Ytbpdkchglmpnkaa
/- THE CELL 'sum', in the pinned program and in every row, IS THE sha256 OF THE DUMP (.gsa) THAT YtbpdkchglmpnkaaProg.lean LOADS. Nothing in Lean hashes anything: it is a label: what it is worth is what the hold of that sum in a sandbox is worth. -/
noncomputable def Try.pinned : Pinned := { name := "ytbpdkchglmpnkaa", sum := "8c4f0522c042ac9a635dbe0c99210ecbaa212cc4bb4441bd5d9f8308eecbd048", checked := Try.checked }
namespace Rows
def none {H : Type} : Left H := { results := [], args := [] }

/-- 'detentlaw23.PlaceNests': WHATEVER THE INPUT: true; the input reads as it did. -/
def placeNestsSpec : ChangeSpec := { name := "placeNests", fn := fun _ => fun
  | [d] => { results := [.lit (.bool true)], args := [d] }
  | _ => none }
def placeNestsRow : OpenClaim := { program := "ytbpdkchglmpnkaa", sum := "8c4f0522c042ac9a635dbe0c99210ecbaa212cc4bb4441bd5d9f8308eecbd048", func := "detent/detentlaw23.PlaceNests", spec := "placeNests", apart := false }
def PlaceNestsSaid : Prop := placeNestsRow.holds Try.pinned (OpenSpec.ofChange placeNestsSpec)

/-- ITS FALSE NEIGHBOUR: 'it returns false'. Refute it at one input. -/
def placeNestsWrong : ChangeSpec := { name := "placeNests", fn := fun _ => fun
  | [d] => { results := [.lit (.bool false)], args := [d] }
  | _ => none }
def PlaceNestsWrongFalsely : Prop := placeNestsRow.holds Try.pinned (OpenSpec.ofChange placeNestsWrong)

/-- 'detentlaw23.PlaceRefuses': WHATEVER THE INPUT: true; the input reads as it did. -/
def placeRefusesSpec : ChangeSpec := { name := "placeRefuses", fn := fun _ => fun
  | [d1, d2, d3] => { results := [.lit (.bool true)], args := [d1, d2, d3] }
  | _ => none }
def placeRefusesRow : OpenClaim := { program := "ytbpdkchglmpnkaa", sum := "8c4f0522c042ac9a635dbe0c99210ecbaa212cc4bb4441bd5d9f8308eecbd048", func := "detent/detentlaw23.PlaceRefuses", spec := "placeRefuses", apart := false }
def PlaceRefusesSaid : Prop := placeRefusesRow.holds Try.pinned (OpenSpec.ofChange placeRefusesSpec)

/-- ITS FALSE NEIGHBOUR: 'it returns false'. Refute it at one input. -/
def placeRefusesWrong : ChangeSpec := { name := "placeRefuses", fn := fun _ => fun
  | [d1, d2, d3] => { results := [.lit (.bool false)], args := [d1, d2, d3] }
  | _ => none }
def PlaceRefusesWrongFalsely : Prop := placeRefusesRow.holds Try.pinned (OpenSpec.ofChange placeRefusesWrong)

/-- 'detentlaw23.PlaceKinds': WHATEVER THE INPUT: true; the input reads as it did. -/
def placeKindsSpec : ChangeSpec := { name := "placeKinds", fn := fun _ => fun
  | [d1, d2, d3, d4] => { results := [.lit (.bool true)], args := [d1, d2, d3, d4] }
  | _ => none }
def placeKindsRow : OpenClaim := { program := "ytbpdkchglmpnkaa", sum := "8c4f0522c042ac9a635dbe0c99210ecbaa212cc4bb4441bd5d9f8308eecbd048", func := "detent/detentlaw23.PlaceKinds", spec := "placeKinds", apart := false }
def PlaceKindsSaid : Prop := placeKindsRow.holds Try.pinned (OpenSpec.ofChange placeKindsSpec)

/-- ITS FALSE NEIGHBOUR: 'it returns false'. Refute it at one input. -/
def placeKindsWrong : ChangeSpec := { name := "placeKinds", fn := fun _ => fun
  | [d1, d2, d3, d4] => { results := [.lit (.bool false)], args := [d1, d2, d3, d4] }
  | _ => none }
def PlaceKindsWrongFalsely : Prop := placeKindsRow.holds Try.pinned (OpenSpec.ofChange placeKindsWrong)

/-- 'detentlaw23.PlacePlays': WHATEVER THE INPUT: true; the input reads as it did. -/
def placePlaysSpec : ChangeSpec := { name := "placePlays", fn := fun _ => fun
  | [d1, d2] => { results := [.lit (.bool true)], args := [d1, d2] }
  | _ => none }
def placePlaysRow : OpenClaim := { program := "ytbpdkchglmpnkaa", sum := "8c4f0522c042ac9a635dbe0c99210ecbaa212cc4bb4441bd5d9f8308eecbd048", func := "detent/detentlaw23.PlacePlays", spec := "placePlays", apart := false }
def PlacePlaysSaid : Prop := placePlaysRow.holds Try.pinned (OpenSpec.ofChange placePlaysSpec)

/-- ITS FALSE NEIGHBOUR: 'it returns false'. Refute it at one input. -/
def placePlaysWrong : ChangeSpec := { name := "placePlays", fn := fun _ => fun
  | [d1, d2] => { results := [.lit (.bool false)], args := [d1, d2] }
  | _ => none }
def PlacePlaysWrongFalsely : Prop := placePlaysRow.holds Try.pinned (OpenSpec.ofChange placePlaysWrong)

/- THE SECOND FORM. 'bulk': how many values and letters a reading holds, each counted each time it is reached (what is shared counts as often as it is met; a slice's spare places count too). A statement '..UptoSaid' is the law's where the arguments, and the package variables that the reading takes, are together of bulk at most 1048576: NARROWER than '..Said'. Prove '..Said' where nothing that the law and all that it calls make is longer than what came in: it says more and counts as full. Else prove '..UptoSaid'. A law counts once. -/
mutual
def uptoBulk {H : Type} : DataW H → Nat
  | .lit (.string bytes) => bytes.length + 1
  | .lit _ => 1
  | .nil => 1
  | .ptr d => uptoBulk d + 1
  | .slice elems spare => uptoBulkAll elems + uptoBulkAll spare + 1
  | .agg parts => uptoBulkAll parts + 1
  | .iface _ d => uptoBulk d + 1
  | .map entries => uptoBulkEntries entries + 1
  | .held _ => 1
def uptoBulkAll {H : Type} : List (DataW H) → Nat
  | [] => 0
  | d :: r => uptoBulk d + uptoBulkAll r
def uptoBulkEntries {H : Type} : List (Lit × DataW H) → Nat
  | [] => 0
  | x :: r => uptoBulkEntry x + uptoBulkEntries r
def uptoBulkEntry {H : Type} : Lit × DataW H → Nat
  | (.string bytes, d) => bytes.length + uptoBulk d + 1
  | (_, d) => uptoBulk d + 1
 end
def uptoSmall : (H : Type) → List (DataW H) → Bool := fun _ ds => decide (uptoBulkAll ds ≤ 1048576)
def OpenSpec.upto (s : _root_.Go.ChangeSpec) : _root_.Go.OpenSpec := { _root_.Go.OpenSpec.ofChange s with cond := some uptoSmall }

/-- 'detentlaw23.PlaceNests', WHERE WHAT IT READS IS OF BULK AT MOST 1048576: true; the input reads as it did. -/
def placeNestsUptoRow : OpenClaim := { program := "ytbpdkchglmpnkaa", sum := "8c4f0522c042ac9a635dbe0c99210ecbaa212cc4bb4441bd5d9f8308eecbd048", func := "detent/detentlaw23.PlaceNests", spec := "placeNests", apart := false, narrowed := true }
def PlaceNestsUptoSaid : Prop := placeNestsUptoRow.holds Try.pinned (OpenSpec.upto placeNestsSpec)

/-- 'detentlaw23.PlaceRefuses', WHERE WHAT IT READS IS OF BULK AT MOST 1048576: true; the input reads as it did. -/
def placeRefusesUptoRow : OpenClaim := { program := "ytbpdkchglmpnkaa", sum := "8c4f0522c042ac9a635dbe0c99210ecbaa212cc4bb4441bd5d9f8308eecbd048", func := "detent/detentlaw23.PlaceRefuses", spec := "placeRefuses", apart := false, narrowed := true }
def PlaceRefusesUptoSaid : Prop := placeRefusesUptoRow.holds Try.pinned (OpenSpec.upto placeRefusesSpec)

/-- 'detentlaw23.PlaceKinds', WHERE WHAT IT READS IS OF BULK AT MOST 1048576: true; the input reads as it did. -/
def placeKindsUptoRow : OpenClaim := { program := "ytbpdkchglmpnkaa", sum := "8c4f0522c042ac9a635dbe0c99210ecbaa212cc4bb4441bd5d9f8308eecbd048", func := "detent/detentlaw23.PlaceKinds", spec := "placeKinds", apart := false, narrowed := true }
def PlaceKindsUptoSaid : Prop := placeKindsUptoRow.holds Try.pinned (OpenSpec.upto placeKindsSpec)

/-- 'detentlaw23.PlacePlays', WHERE WHAT IT READS IS OF BULK AT MOST 1048576: true; the input reads as it did. -/
def placePlaysUptoRow : OpenClaim := { program := "ytbpdkchglmpnkaa", sum := "8c4f0522c042ac9a635dbe0c99210ecbaa212cc4bb4441bd5d9f8308eecbd048", func := "detent/detentlaw23.PlacePlays", spec := "placePlays", apart := false, narrowed := true }
def PlacePlaysUptoSaid : Prop := placePlaysUptoRow.holds Try.pinned (OpenSpec.upto placePlaysSpec)

end Rows
end Go.Proofs.Ytbpdkchglmpnkaa
