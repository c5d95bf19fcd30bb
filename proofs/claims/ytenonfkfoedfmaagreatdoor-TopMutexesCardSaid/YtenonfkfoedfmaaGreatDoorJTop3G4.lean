/- Texts of ours, joined: SelfW, InhW. -/
import Derived.Test.YtenonfkfoedfmaaGreatDoorJTop38
set_option linter.unusedSimpArgs false
set_option linter.unusedVariables false
/- TopSelf. -/
namespace Go.Proofs.YtenonfkfoedfmaaGreatDoor.B
open Go
set_option linter.unusedVariables false

/-- the law, as plain Lean -/
def selfM (q lev : Int) : Option Bool :=
  (KM.new ⟨1, [(q, true)], [], [], [], []⟩).bind fun K0 =>
  (K0.call 1 KM.cTid).bind fun r1 =>
  (r1.2.call 1 (KM.cPri 0)).bind fun r2 =>
  (r2.2.call 0 cIn).bind fun r3 =>
  ((r3.2.intr lev).2.call 0 cIn).bind fun r4 =>
  (r4.2.call 3 KM.cItid).bind fun r5 =>
  (r5.2.call 1 KM.cTid).bind fun r6 =>
  if ¬ (r3.2.pl.lv.length ≤ 100 ∧ r6.2.pl.lv.length ≤ 100) then none else
  some (decide (r1.1.1 = 0) && decide (r1.1.2 = 1) && decide (r2.1.1 = 0) && decide (r2.1.2 = q) && decide (r3.1.2 = 0) && decide ((r3.2.intr lev).1 = 0) && decide (r4.1.2 = 1) && decide (r5.1.1 = 0) && decide (r5.1.2 = 1) && decide (r6.1.1 = -25))

end Go.Proofs.YtenonfkfoedfmaaGreatDoor.B


/- TopInherits. -/
namespace Go.Proofs.YtenonfkfoedfmaaGreatDoor.B
open Go
set_option linter.unusedVariables false

def inhC (a b : Int) : ConfM := ⟨1, [(a, true), (b, false)], [], [], [(2, 0)], []⟩

/-- the law, as plain Lean -/
def inhM (a b : Int) : Option Bool :=
  (KM.new (inhC a b)).bind fun K0 =>
  (K0.call 2 (KM.cLoc 1)).bind fun r1 =>
  (r1.2.call 1 (KM.cAct 2)).bind fun r2 =>
  if ¬ (r1.1.1 = 0 ∧ r2.1.1 = 0 ∧ r2.2.who = 2) then none else
  (r2.2.call 2 (KM.cLoc 1)).bind fun r3 =>
  (r3.2.call 1 (KM.cPri 1)).bind fun r4 =>
  if ¬ (r3.1.1 = 1 ∧ r4.2.who = 1 ∧ r4.1.2 = b) then none else
  (r4.2.call 1 (KM.cUnl 1)).bind fun r5 =>
  (r5.2.call 1 (KM.cPri 1)).bind fun r6 =>
  (r6.2.task 2).bind fun f =>
  if ¬ (1 < r6.2.mm.m.length ∧ (r6.2.mm.waiting 1).length ≤ 100) then none else
  some (decide (r5.1.1 = 0) && decide (r6.2.who = 2) && decide (r6.1.2 = a) && decide (r6.2.mm.owner 1 = 2) && decide (f.lc = 0))

/-- a task of a configuration is made not active -/
theorem st_task {e : World} {L : List SP} {w : World} {s : Sl} {l : List (Int × Bool)} {x : Int × Bool} {i : Nat} {c : Bool} {g : World → Prop} (h : Ok e (slc 2 s (flat taC l) :: L) w) (hi : l[i]? = some x)
    (k : ∀ w', Ok e (slc 2 s (flat taC (l.set i (x.1, c))) :: L) w' → g w') : ix s (i : Int) 2 fun b2 o2 => st1 w b2 (o2 + 1) (.bool c) g := by
  have hlt := (List.getElem?_eq_some_iff.1 hi).1
  refine ix_flat taC_len (by decide) h (by omega) (by omega) fun b2 o2 y hy ha ho hc => ?_
  rw [Int.toNat_natCast] at hy ho
  rw [hi] at hy
  cases hy
  exact st_flat (i := i) (j := 1) (a := x) (a' := (x.1, c)) (v := .bool c) taC_len taC_one h hi (by decide) rfl ha (by rw [ho]) k

theorem conf_mtxs {e L w x m} {l : List (Int × Bool)} {ms : List (Int × Int)} (tic : Int) (h : Ok e (slc 2 x (flat taC l) :: slc 2 m (flat kdC ms) :: L) w) : Ok e (cfR ⟨tic, l, [], [], ms, []⟩ ⟨x, nilS, nilS, m, nilS⟩ L) w := by
  have h := ((h.slcNil 3).slcNil 2).slcNil 3
  have h2 : Ok e (slc 2 x (flat taC l) :: slc 3 nilS [] :: slc 2 nilS [] :: slc 2 m (flat kdC ms) :: slc 3 nilS [] :: L) w := (h.emb (by repeat' (first | with_reducible exact Emb.same _ | exact Emb.nil _ | refine Emb.cons (by with_reducible first | exact sl0 | exact .there sl0 | exact .there sl1 | exact .there sl2 | exact .there sl3 | exact .there sl4 | exact .there sl5 | exact .there sl6 | exact .there sl7 | exact .there sl8 | exact .there sl9 | exact .there sl10 | exact .there sl11 | exact .there sl12) ?_ | refine Emb.skip ?_)))
  exact h2

end Go.Proofs.YtenonfkfoedfmaaGreatDoor.B

