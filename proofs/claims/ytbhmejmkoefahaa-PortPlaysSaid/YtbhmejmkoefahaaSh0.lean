/- Printed by sh.py: each Go function as a typed shallow program, and its tie to the code. -/
import Derived.Test.YtbhmejmkoefahaaSound4
import Derived.Test.YtbhmejmkoefahaaProg
namespace Go.Proofs.Ytbhmejmkoefahaa.B
open Go Go.Proofs
set_option linter.unusedVariables false
set_option maxRecDepth 100000
noncomputable abbrev Pg : Program := Try.prog
/-- detent/order.New -/
def sh27 (a0 : Bool) (R : List Value → World → Prop) (w : World) : Prop :=
 al w 107 [.slice none 0 0, .bool a0] fun b1 w2 =>
 R [.pointer (some ⟨b1, 0, none⟩)] w2
theorem tie27 (a0 : Bool) (R : List Value → World → Prop) (w : World) : compF Pg Try.f27 ⟨[], [], [], []⟩ [.bool a0] R w = sh27 a0 R w := by kernel_rfl
theorem call27 {a0 : Bool} {w : World} {K : TK [kP] → World → Prop} (h : sh27 a0 (fun vs w' => ∃ t, encK [kP] t = vs ∧ K t w') w) : cl Pg 27 [.bool a0] [kP] w K := cl_of Try.func27 (tie27 ..) h
/-- detent/por.New -/
def sh8 (a0 : Bool) (a1 : Int) (R : List Value → World → Prop) (w : World) : Prop :=
 jn [kB] w (fun (t2 : Bool × Unit) w3 =>
 cs t2.1 (
 R [.pointer none, .int .i64 (-17)] w3) (
 cl Pg 27 [.bool a0] [kP] w3 fun (r5 : Option Addr × Unit) w6 =>
 ef Pg (Instr.makeMap 71 none) [kM] w6 fun (r7 : Option Nat × Unit) w8 =>
 cl Pg 27 [.bool false] [kP] w8 fun (r9 : Option Addr × Unit) w10 =>
 ef Pg (Instr.makeMap 71 none) [kM] w10 fun (r11 : Option Nat × Unit) w12 =>
 al w12 79 [.pointer r5.1, .map r7.1, .pointer r9.1, .map r11.1, .int .i64 a1, .int .i64 0, .slice none 0 0] fun b13 w14 =>
 R [.pointer (some ⟨b13, 0, none⟩), .int .i64 0] w14)) fun J1 w4 =>
 cs (decide ((a1 : Int) < (0 : Int))) (
 J1 (true, ()) w4) (
 J1 (decide ((a1 : Int) > (1024 : Int)), ()) w4)
theorem tie8 (a0 : Bool) (a1 : Int) (R : List Value → World → Prop) (w : World) : compF Pg Try.f8 ⟨[], [], [], [(1, [(3, 3, ⟨[(11, kB)], [9, 10]⟩)])]⟩ [.bool a0, .int .i64 a1] R w = sh8 a0 a1 R w := by kernel_rfl
theorem call8 {a0 : Bool} {a1 : Int} {w : World} {K : TK [kP, kI] → World → Prop} (h : sh8 a0 a1 (fun vs w' => ∃ t, encK [kP, kI] t = vs ∧ K t w') w) : cl Pg 8 [.bool a0, .int .i64 a1] [kP, kI] w K := cl_of Try.func8 (tie8 ..) h
/-- detent/por.right -/
def sh28 (a0 : Int) (a1 : Int) (R : List Value → World → Prop) (w : World) : Prop :=
 jn [kB] w (fun (t2 : Bool × Unit) w3 =>
 jn [kB] w3 (fun (t6 : Bool × Unit) w7 =>
 jn [kB] w7 (fun (t10 : Bool × Unit) w11 =>
 R [.bool t10.1] w11) fun J9 w12 =>
 cs t6.1 (
 J9 (decide ((a1 : Int) ≤ (16 : Int)), ()) w12) (
 J9 (false, ()) w12)) fun J5 w8 =>
 cs t2.1 (
 J5 (decide ((a1 : Int) ≥ (1 : Int)), ()) w8) (
 J5 (false, ()) w8)) fun J1 w4 =>
 cs (decide ((a0 : Int) ≥ (1 : Int))) (
 J1 (decide ((a0 : Int) ≤ (16 : Int)), ()) w4) (
 J1 (false, ()) w4)
theorem tie28 (a0 : Int) (a1 : Int) (R : List Value → World → Prop) (w : World) : compF Pg Try.f28 ⟨[], [], [], [(1, [(3, 3, ⟨[(10, kB)], [8, 9]⟩), (7, 3, ⟨[(14, kB)], [12, 13]⟩), (11, 3, ⟨[(18, kB)], [16, 17]⟩)])]⟩ [.int .i64 a0, .int .i64 a1] R w = sh28 a0 a1 R w := by kernel_rfl
theorem call28 {a0 : Int} {a1 : Int} {w : World} {K : TK [kB] → World → Prop} (h : sh28 a0 a1 (fun vs w' => ∃ t, encK [kB] t = vs ∧ K t w') w) : cl Pg 28 [.int .i64 a0, .int .i64 a1] [kB] w K := cl_of Try.func28 (tie28 ..) h
/-- slices.IndexFunc[[]detent/order.Item,detent/order.Item] -/
def sh65 (a0 : Sl) (a1 : Fv) (R : List Value → World → Prop) (w : World) : Prop :=
 lp [kI] w ((0 : Int), ()) fun (t1 : Int × Unit) J2 w3 =>
 cs (decide ((t1.1 : Int) < ((a0.len : Int) : Int))) (
 ix a0 t1.1 2 fun b4 o5 =>
 ldI w3 .i64 b4 o5 fun n6 =>
 ldI w3 .i64 b4 (o5 + 1) fun n7 =>
 ob (enterable Pg a1.fid = true) (
 cl Pg a1.fid (a1.pre ++ ([.agg #[.int .i64 n6, .int .i64 n7]] ++ a1.post)) [kB] w3 fun (r8 : Bool × Unit) w9 =>
 cs r8.1 (
 R [.int .i64 t1.1] w9) (
 J2 (w64 (t1.1 + 1), ()) w9))) (
 R [.int .i64 (-1)] w3)
theorem tie65 (a0 : Sl) (a1 : Fv) (R : List Value → World → Prop) (w : World) : compF Pg Try.f65 ⟨[(1, ⟨[(8, kI)], [4, 5, 9, 10, 11, 12, 13, 14, 15, 16, 17, 18]⟩)], [], [], []⟩ [vS a0, vF a1] R w = sh65 a0 a1 R w := by kernel_rfl
theorem call65 {a0 : Sl} {a1 : Fv} {w : World} {K : TK [kI] → World → Prop} (h : sh65 a0 a1 (fun vs w' => ∃ t, encK [kI] t = vs ∧ K t w') w) : cl Pg 65 [vS a0, vF a1] [kI] w K := cl_of Try.func65 (tie65 ..) h
/-- (*detent/order.Line).at$1 -/
def sh66 (a0 : (Int × Int × Unit)) (c0 : Nat) (R : List Value → World → Prop) (w : World) : Prop :=
 al w 83 [.int .i64 a0.1, .int .i64 a0.2.1] fun b1 w2 =>
 ldI w2 .i64 b1 0 fun n3 =>
 ldI w2 .i64 c0 0 fun n4 =>
 R [.bool ((n3 : Int) == (n4 : Int))] w2
theorem tie66 (a0 : (Int × Int × Unit)) (c0 : Nat) (R : List Value → World → Prop) (w : World) : compF Pg Try.f66 ⟨[], [], [], []⟩ [.agg #[.int .i64 a0.1, .int .i64 a0.2.1], .pointer (some ⟨c0, 0, none⟩)] R w = sh66 a0 c0 R w := by kernel_rfl
theorem call66 {a0 : (Int × Int × Unit)} {c0 : Nat} {w : World} {K : TK [kB] → World → Prop} (h : sh66 a0 c0 (fun vs w' => ∃ t, encK [kB] t = vs ∧ K t w') w) : cl Pg 66 [.agg #[.int .i64 a0.1, .int .i64 a0.2.1], .pointer (some ⟨c0, 0, none⟩)] [kB] w K := cl_of Try.func66 (tie66 ..) h
/-- (*detent/order.Line).at -/
def sh59 (a0 : Option Addr) (a1 : Int) (R : List Value → World → Prop) (w : World) : Prop :=
 al w 3 [.int .i64 a1] fun b1 w2 =>
 nn a0 fun b3 o4 =>
 ldS w2 b3 o4 fun s5 =>
 cl Pg 65 [vS s5, .func (.func 66) #[] #[.pointer (some ⟨b1, 0, none⟩)]] [kI] w2 fun (r6 : Int × Unit) w7 =>
 R [.int .i64 r6.1] w7
theorem tie59 (a0 : Option Addr) (a1 : Int) (R : List Value → World → Prop) (w : World) : compF Pg Try.f59 ⟨[], [], [], []⟩ [.pointer a0, .int .i64 a1] R w = sh59 a0 a1 R w := by kernel_rfl
theorem call59 {a0 : Option Addr} {a1 : Int} {w : World} {K : TK [kI] → World → Prop} (h : sh59 a0 a1 (fun vs w' => ∃ t, encK [kI] t = vs ∧ K t w') w) : cl Pg 59 [.pointer a0, .int .i64 a1] [kI] w K := cl_of Try.func59 (tie59 ..) h
/-- (*detent/order.Line).Has -/
def sh49 (a0 : Option Addr) (a1 : Int) (R : List Value → World → Prop) (w : World) : Prop :=
 cl Pg 59 [.pointer a0, .int .i64 a1] [kI] w fun (r1 : Int × Unit) w2 =>
 R [.bool (decide ((r1.1 : Int) ≥ (0 : Int)))] w2
theorem tie49 (a0 : Option Addr) (a1 : Int) (R : List Value → World → Prop) (w : World) : compF Pg Try.f49 ⟨[], [], [], []⟩ [.pointer a0, .int .i64 a1] R w = sh49 a0 a1 R w := by kernel_rfl
theorem call49 {a0 : Option Addr} {a1 : Int} {w : World} {K : TK [kB] → World → Prop} (h : sh49 a0 a1 (fun vs w' => ∃ t, encK [kB] t = vs ∧ K t w') w) : cl Pg 49 [.pointer a0, .int .i64 a1] [kB] w K := cl_of Try.func49 (tie49 ..) h
/-- slices.IndexFunc[[]detent/por.open,detent/por.open] -/
def sh46 (a0 : Sl) (a1 : Fv) (R : List Value → World → Prop) (w : World) : Prop :=
 lp [kI] w ((0 : Int), ()) fun (t1 : Int × Unit) J2 w3 =>
 cs (decide ((t1.1 : Int) < ((a0.len : Int) : Int))) (
 ix a0 t1.1 3 fun b4 o5 =>
 ldI w3 .i64 b4 o5 fun n6 =>
 ldI w3 .i64 b4 (o5 + 1) fun n7 =>
 ldI w3 .i64 b4 (o5 + 2) fun n8 =>
 ob (enterable Pg a1.fid = true) (
 cl Pg a1.fid (a1.pre ++ ([.agg #[.int .i64 n6, .int .i64 n7, .int .i64 n8]] ++ a1.post)) [kB] w3 fun (r9 : Bool × Unit) w10 =>
 cs r9.1 (
 R [.int .i64 t1.1] w10) (
 J2 (w64 (t1.1 + 1), ()) w10))) (
 R [.int .i64 (-1)] w3)
theorem tie46 (a0 : Sl) (a1 : Fv) (R : List Value → World → Prop) (w : World) : compF Pg Try.f46 ⟨[(1, ⟨[(8, kI)], [4, 5, 9, 10, 11, 12, 13, 14, 15, 16, 17, 18]⟩)], [], [], []⟩ [vS a0, vF a1] R w = sh46 a0 a1 R w := by kernel_rfl
theorem call46 {a0 : Sl} {a1 : Fv} {w : World} {K : TK [kI] → World → Prop} (h : sh46 a0 a1 (fun vs w' => ∃ t, encK [kI] t = vs ∧ K t w') w) : cl Pg 46 [vS a0, vF a1] [kI] w K := cl_of Try.func46 (tie46 ..) h
/-- slices.ContainsFunc[[]detent/por.open,detent/por.open] -/
def sh50 (a0 : Sl) (a1 : Fv) (R : List Value → World → Prop) (w : World) : Prop :=
 cl Pg 46 [vS a0, vF a1] [kI] w fun (r1 : Int × Unit) w2 =>
 R [.bool (decide ((r1.1 : Int) ≥ (0 : Int)))] w2
theorem tie50 (a0 : Sl) (a1 : Fv) (R : List Value → World → Prop) (w : World) : compF Pg Try.f50 ⟨[], [], [], []⟩ [vS a0, vF a1] R w = sh50 a0 a1 R w := by kernel_rfl
theorem call50 {a0 : Sl} {a1 : Fv} {w : World} {K : TK [kB] → World → Prop} (h : sh50 a0 a1 (fun vs w' => ∃ t, encK [kB] t = vs ∧ K t w') w) : cl Pg 50 [vS a0, vF a1] [kB] w K := cl_of Try.func50 (tie50 ..) h
/-- (*detent/por.Port).in$1 -/
def sh51 (a0 : (Int × Int × Int × Unit)) (c0 : Nat) (R : List Value → World → Prop) (w : World) : Prop :=
 al w 92 [.int .i64 a0.1, .int .i64 a0.2.1, .int .i64 a0.2.2.1] fun b1 w2 =>
 ldI w2 .i64 b1 (0 + 1) fun n3 =>
 ldI w2 .i64 c0 0 fun n4 =>
 R [.bool ((n3 : Int) == (n4 : Int))] w2
theorem tie51 (a0 : (Int × Int × Int × Unit)) (c0 : Nat) (R : List Value → World → Prop) (w : World) : compF Pg Try.f51 ⟨[], [], [], []⟩ [.agg #[.int .i64 a0.1, .int .i64 a0.2.1, .int .i64 a0.2.2.1], .pointer (some ⟨c0, 0, none⟩)] R w = sh51 a0 c0 R w := by kernel_rfl
theorem call51 {a0 : (Int × Int × Int × Unit)} {c0 : Nat} {w : World} {K : TK [kB] → World → Prop} (h : sh51 a0 c0 (fun vs w' => ∃ t, encK [kB] t = vs ∧ K t w') w) : cl Pg 51 [.agg #[.int .i64 a0.1, .int .i64 a0.2.1, .int .i64 a0.2.2.1], .pointer (some ⟨c0, 0, none⟩)] [kB] w K := cl_of Try.func51 (tie51 ..) h
/-- (*detent/por.Port).in -/
def sh29 (a0 : Option Addr) (a1 : Int) (R : List Value → World → Prop) (w : World) : Prop :=
 al w 3 [.int .i64 a1] fun b1 w2 =>
 dr w2 fun w3 =>
 jn [kB] w3 (fun (t5 : Bool × Unit) w6 =>
 R [.bool t5.1] w6) fun J4 w7 =>
 nn a0 fun b8 o9 =>
 ldP w7 b8 o9 fun p10 =>
 nn p10 fun b11 o12 =>
 ldI w7 .i64 b1 0 fun n13 =>
 cl Pg 49 [.pointer (some ⟨b11, o12, none⟩), .int .i64 n13] [kB] w7 fun (r14 : Bool × Unit) w15 =>
 cs r14.1 (
 J4 (true, ()) w15) (
 nn a0 fun b16 o17 =>
 ldP w15 b16 (o17 + 2) fun p18 =>
 nn p18 fun b19 o20 =>
 ldI w15 .i64 b1 0 fun n21 =>
 cl Pg 49 [.pointer (some ⟨b19, o20, none⟩), .int .i64 n21] [kB] w15 fun (r22 : Bool × Unit) w23 =>
 cs r22.1 (
 J4 (true, ()) w23) (
 nn a0 fun b24 o25 =>
 ldS w23 b24 (o25 + 6) fun s26 =>
 cl Pg 50 [vS s26, .func (.func 51) #[] #[.pointer (some ⟨b1, 0, none⟩)]] [kB] w23 fun (r27 : Bool × Unit) w28 =>
 J4 (r27.1, ()) w28))
theorem tie29 (a0 : Option Addr) (a1 : Int) (R : List Value → World → Prop) (w : World) : compF Pg Try.f29 ⟨[], [(1, ⟨[(4, kB)], [5, 6, 7, 8, 9, 10, 11, 12, 13, 14, 15, 16, 17, 18, 19, 20, 21, 22, 23, 24, 25, 26, 27, 28, 29, 30, 31, 32, 33, 34]⟩)], [(1, .l [(0, []), (1, []), (2, []), (3, []), (4, []), (5, []), (6, []), (7, []), (8, []), (9, [7, 8, 6, 5, 4, 3, 2, 1, 0]), (10, []), (11, []), (12, []), (13, []), (14, []), (15, []), (16, []), (17, []), (18, []), (19, []), (20, [18, 19, 10, 17, 9, 16, 7, 8, 15, 6, 14, 5, 13, 4, 12, 3, 11, 2, 1, 0]), (21, []), (22, []), (23, []), (24, []), (25, []), (26, []), (27, []), (28, [26, 27, 22, 25, 21, 20, 24, 10, 18, 19, 23, 9, 17, 7, 8, 16, 6, 15, 5, 14, 4, 13, 3, 12, 2, 11, 1, 0]), (29, []), (30, [])])], []⟩ [.pointer a0, .int .i64 a1] R w = sh29 a0 a1 R w := by kernel_rfl
theorem call29 {a0 : Option Addr} {a1 : Int} {w : World} {K : TK [kB] → World → Prop} (h : sh29 a0 a1 (fun vs w' => ∃ t, encK [kB] t = vs ∧ K t w') w) : cl Pg 29 [.pointer a0, .int .i64 a1] [kB] w K := cl_of Try.func29 (tie29 ..) h
/-- slices.Clip[[]byte,byte] -/
def sh30 (a0 : Sl) (R : List Value → World → Prop) (w : World) : Prop :=
 sb a0 0 (a0.len : Int) (a0.len : Int) 1 fun s1 =>
 R [vS s1] w
theorem tie30 (a0 : Sl) (R : List Value → World → Prop) (w : World) : compF Pg Try.f30 ⟨[], [], [], []⟩ [vS a0] R w = sh30 a0 R w := by kernel_rfl
theorem call30 {a0 : Sl} {w : World} {K : TK [kS] → World → Prop} (h : sh30 a0 (fun vs w' => ∃ t, encK [kS] t = vs ∧ K t w') w) : cl Pg 30 [vS a0] [kS] w K := cl_of Try.func30 (tie30 ..) h
/-- slices.Clone[[]byte,byte] -/
def sh31 (a0 : Sl) (R : List Value → World → Prop) (w : World) : Prop :=
 cs a0.a.isNone (
 R [.slice none 0 0] w) (
 al w 5 [] fun b1 w2 =>
 ef Pg (Builtin.append_ #[27, 27] 27 #[vS ⟨some ⟨b1, 0, none⟩, 0, 0⟩, vS a0]) [kS] w2 fun (r3 : Sl × Unit) w4 =>
 R [vS r3.1] w4)
theorem tie31 (a0 : Sl) (R : List Value → World → Prop) (w : World) : compF Pg Try.f31 ⟨[], [], [], []⟩ [vS a0] R w = sh31 a0 R w := by kernel_rfl
theorem call31 {a0 : Sl} {w : World} {K : TK [kS] → World → Prop} (h : sh31 a0 (fun vs w' => ∃ t, encK [kS] t = vs ∧ K t w') w) : cl Pg 31 [vS a0] [kS] w K := cl_of Try.func31 (tie31 ..) h
/-- slices.Delete[[]detent/order.Item,detent/order.Item] -/
def sh64 (a0 : Sl) (a1 : Int) (a2 : Int) (R : List Value → World → Prop) (w : World) : Prop :=
 sb a0 a1 a2 (a0.len : Int) 2 fun s1 =>
 cs ((a1 : Int) == (a2 : Int)) (
 R [vS a0] w) (
 dr w fun w2 =>
 sb a0 0 a1 a0.cap 2 fun s3 =>
 sb a0 a2 a0.len a0.cap 2 fun s4 =>
 ef Pg (Builtin.append_ #[103, 103] 103 #[vS s3, vS s4]) [kS] w2 fun (r5 : Sl × Unit) w6 =>
 sb r5.1 (r5.1.len : Int) (a0.len : Int) r5.1.cap 2 fun s7 =>
 ef Pg (Builtin.clear_ #[103] 0 #[vS s7]) [] w6 fun (r8 : Unit) w9 =>
 R [vS r5.1] w9)
theorem tie64 (a0 : Sl) (a1 : Int) (a2 : Int) (R : List Value → World → Prop) (w : World) : compF Pg Try.f64 ⟨[], [], [(5, .l [(0, []), (1, []), (2, []), (3, []), (4, []), (5, []), (6, [2, 5, 0, 1, 3, 4]), (7, [])])], []⟩ [vS a0, .int .i64 a1, .int .i64 a2] R w = sh64 a0 a1 a2 R w := by kernel_rfl
theorem call64 {a0 : Sl} {a1 : Int} {a2 : Int} {w : World} {K : TK [kS] → World → Prop} (h : sh64 a0 a1 a2 (fun vs w' => ∃ t, encK [kS] t = vs ∧ K t w') w) : cl Pg 64 [vS a0, .int .i64 a1, .int .i64 a2] [kS] w K := cl_of Try.func64 (tie64 ..) h
/-- (*detent/order.Line).Remove -/
def sh58 (a0 : Option Addr) (a1 : Int) (R : List Value → World → Prop) (w : World) : Prop :=
 cl Pg 59 [.pointer a0, .int .i64 a1] [kI] w fun (r1 : Int × Unit) w2 =>
 cs (decide ((r1.1 : Int) < (0 : Int))) (
 R [.bool false] w2) (
 nn a0 fun b3 o4 =>
 ldS w2 b3 o4 fun s5 =>
 cl Pg 64 [vS s5, .int .i64 r1.1, .int .i64 (w64 (r1.1 + 1))] [kS] w2 fun (r6 : Sl × Unit) w7 =>
 nn a0 fun b8 o9 =>
 st1 w7 b8 o9 (vS r6.1) fun w10 =>
 R [.bool true] w10)
theorem tie58 (a0 : Option Addr) (a1 : Int) (R : List Value → World → Prop) (w : World) : compF Pg Try.f58 ⟨[], [], [], []⟩ [.pointer a0, .int .i64 a1] R w = sh58 a0 a1 R w := by kernel_rfl
theorem call58 {a0 : Option Addr} {a1 : Int} {w : World} {K : TK [kB] → World → Prop} (h : sh58 a0 a1 (fun vs w' => ∃ t, encK [kB] t = vs ∧ K t w') w) : cl Pg 58 [.pointer a0, .int .i64 a1] [kB] w K := cl_of Try.func58 (tie58 ..) h
/-- (detent/por.line).drop -/
def sh48 (a0 : (Option Addr × Option Nat × Unit)) (a1 : Int) (R : List Value → World → Prop) (w : World) : Prop :=
 al w 73 [.pointer a0.1, .map a0.2.1] fun b1 w2 =>
 ldM w2 b1 (0 + 1) fun m3 =>
 ef Pg (Builtin.delete_ #[71, 3] 0 #[.map m3, .int .i64 a1]) [] w2 fun (r4 : Unit) w5 =>
 ldP w5 b1 0 fun p6 =>
 nn p6 fun b7 o8 =>
 cl Pg 58 [.pointer (some ⟨b7, o8, none⟩), .int .i64 a1] [kB] w5 fun (r9 : Bool × Unit) w10 =>
 R [.bool r9.1] w10
theorem tie48 (a0 : (Option Addr × Option Nat × Unit)) (a1 : Int) (R : List Value → World → Prop) (w : World) : compF Pg Try.f48 ⟨[], [], [], []⟩ [.agg #[.pointer a0.1, .map a0.2.1], .int .i64 a1] R w = sh48 a0 a1 R w := by kernel_rfl
theorem call48 {a0 : (Option Addr × Option Nat × Unit)} {a1 : Int} {w : World} {K : TK [kB] → World → Prop} (h : sh48 a0 a1 (fun vs w' => ∃ t, encK [kB] t = vs ∧ K t w') w) : cl Pg 48 [.agg #[.pointer a0.1, .map a0.2.1], .int .i64 a1] [kB] w K := cl_of Try.func48 (tie48 ..) h
/-- slices.Clip[[]detent/order.Item,detent/order.Item] -/
def sh60 (a0 : Sl) (R : List Value → World → Prop) (w : World) : Prop :=
 sb a0 0 (a0.len : Int) (a0.len : Int) 2 fun s1 =>
 R [vS s1] w
theorem tie60 (a0 : Sl) (R : List Value → World → Prop) (w : World) : compF Pg Try.f60 ⟨[], [], [], []⟩ [vS a0] R w = sh60 a0 R w := by kernel_rfl
theorem call60 {a0 : Sl} {w : World} {K : TK [kS] → World → Prop} (h : sh60 a0 (fun vs w' => ∃ t, encK [kS] t = vs ∧ K t w') w) : cl Pg 60 [vS a0] [kS] w K := cl_of Try.func60 (tie60 ..) h
/-- slices.Clone[[]detent/order.Item,detent/order.Item] -/
def sh61 (a0 : Sl) (R : List Value → World → Prop) (w : World) : Prop :=
 cs a0.a.isNone (
 R [.slice none 0 0] w) (
 al w 83 [] fun b1 w2 =>
 ef Pg (Builtin.append_ #[103, 103] 103 #[vS ⟨some ⟨b1, 0, none⟩, 0, 0⟩, vS a0]) [kS] w2 fun (r3 : Sl × Unit) w4 =>
 R [vS r3.1] w4)
theorem tie61 (a0 : Sl) (R : List Value → World → Prop) (w : World) : compF Pg Try.f61 ⟨[], [], [], []⟩ [vS a0] R w = sh61 a0 R w := by kernel_rfl
theorem call61 {a0 : Sl} {w : World} {K : TK [kS] → World → Prop} (h : sh61 a0 (fun vs w' => ∃ t, encK [kS] t = vs ∧ K t w') w) : cl Pg 61 [vS a0] [kS] w K := cl_of Try.func61 (tie61 ..) h
/-- (*detent/order.Line).Row -/
def sh52 (a0 : Option Addr) (R : List Value → World → Prop) (w : World) : Prop :=
 nn a0 fun b1 o2 =>
 ldS w b1 o2 fun s3 =>
 cl Pg 61 [vS s3] [kS] w fun (r4 : Sl × Unit) w5 =>
 cl Pg 60 [vS r4.1] [kS] w5 fun (r6 : Sl × Unit) w7 =>
 R [vS r6.1] w7
theorem tie52 (a0 : Option Addr) (R : List Value → World → Prop) (w : World) : compF Pg Try.f52 ⟨[], [], [], []⟩ [.pointer a0] R w = sh52 a0 R w := by kernel_rfl
theorem call52 {a0 : Option Addr} {w : World} {K : TK [kS] → World → Prop} (h : sh52 a0 (fun vs w' => ∃ t, encK [kS] t = vs ∧ K t w') w) : cl Pg 52 [.pointer a0] [kS] w K := cl_of Try.func52 (tie52 ..) h
/-- (detent/por.line).meet -/
def sh32 (a0 : (Option Addr × Option Nat × Unit)) (a1 : Int) (R : List Value → World → Prop) (w : World) : Prop :=
 al w 73 [.pointer a0.1, .map a0.2.1] fun b1 w2 =>
 al w2 83 [.int .i64 0, .int .i64 0] fun b3 w4 =>
 al w4 85 [.int .u32 0, .slice none 0 0] fun b5 w6 =>
 ldP w6 b1 0 fun p7 =>
 nn p7 fun b8 o9 =>
 cl Pg 52 [.pointer (some ⟨b8, o9, none⟩)] [kS] w6 fun (r10 : Sl × Unit) w11 =>
 lp [kI] w11 ((0 : Int), ()) fun (t12 : Int × Unit) J13 w14 =>
 cs (decide ((t12.1 : Int) < ((r10.1.len : Int) : Int))) (
 ix r10.1 t12.1 2 fun b15 o16 =>
 ldI w14 .i64 b15 o16 fun n17 =>
 ldI w14 .i64 b15 (o16 + 1) fun n18 =>
 al w14 83 [.int .i64 0, .int .i64 0] fun b19 w20 =>
 st1 w20 b19 0 (.int .i64 n17) fun w21 =>
 st1 w21 b19 (0 + 1) (.int .i64 n18) fun w22 =>
 ldM w22 b1 (0 + 1) fun m23 =>
 ldI w22 .i64 b19 0 fun n24 =>
 ef Pg (Instr.lookup 71 (.map m23) (.int .i64 n24) false) [.a [(.i .u32), .s]] w22 fun (r25 : (Int × Sl × Unit) × Unit) w26 =>
 al w26 85 [.int .u32 0, .slice none 0 0] fun b27 w28 =>
 st1 w28 b27 0 (.int .u32 r25.1.1) fun w29 =>
 st1 w29 b27 (0 + 1) (vS r25.1.2.1) fun w30 =>
 ldI w30 .u32 b27 0 fun n31 =>
 cs ((bAnd .u32 n31 a1 : Int) != (0 : Int)) (
 ldP w30 b1 0 fun p32 =>
 ldM w30 b1 (0 + 1) fun m33 =>
 ldI w30 .i64 b19 0 fun n34 =>
 cl Pg 48 [.agg #[.pointer p32, .map m33], .int .i64 n34] [kB] w30 fun (r35 : Bool × Unit) w36 =>
 dr w36 fun w37 =>
 ldI w37 .i64 b19 0 fun n38 =>
 ldI w37 .i64 b19 (0 + 1) fun n39 =>
 ldI w37 .u32 b27 0 fun n40 =>
 ldS w37 b27 (0 + 1) fun s41 =>
 st1 w37 b3 0 (.int .i64 n38) fun w42 =>
 st1 w42 b3 (0 + 1) (.int .i64 n39) fun w43 =>
(w43.cell? ⟨b27, 0, none⟩ = some (.int .u32 n40) ∧ w43.cell? ⟨b27, 0 + 1, none⟩ = some (vS s41)) ∧ (
 st1 w43 b5 0 (.int .u32 n40) fun w44 =>
 st1 w44 b5 (0 + 1) (vS s41) fun w45 =>
 ldI w45 .i64 b3 0 fun n46 =>
 ldI w45 .i64 b3 (0 + 1) fun n47 =>
 ldI w45 .u32 b5 0 fun n48 =>
 ldS w45 b5 (0 + 1) fun s49 =>
 R [.agg #[.int .i64 n46, .int .i64 n47], .agg #[.int .u32 n48, vS s49], .bool true] w45)) (
 J13 (w64 (t12.1 + 1), ()) w30)) (
 st1 w14 b3 0 (.int .i64 0) fun w50 =>
 st1 w50 b3 (0 + 1) (.int .i64 0) fun w51 =>
 st1 w51 b5 0 (.int .u32 0) fun w52 =>
 st1 w52 b5 (0 + 1) (.slice none 0 0) fun w53 =>
 ldI w53 .i64 b3 0 fun n54 =>
 ldI w53 .i64 b3 (0 + 1) fun n55 =>
 ldI w53 .u32 b5 0 fun n56 =>
 ldS w53 b5 (0 + 1) fun s57 =>
 R [.agg #[.int .i64 n54, .int .i64 n55], .agg #[.int .u32 n56, vS s57], .bool false] w53)
theorem tie32 (a0 : (Option Addr × Option Nat × Unit)) (a1 : Int) (R : List Value → World → Prop) (w : World) : compF Pg Try.f32 ⟨[(1, ⟨[(16, kI)], [6, 8, 9, 17, 18, 19, 20, 21, 22, 23, 24, 25, 26, 27, 28, 29, 30, 31, 32, 33, 34, 35, 36]⟩)], [], [(7, .l [(0, []), (1, []), (2, [0]), (3, [1, 2, 0]), (4, [])])], []⟩ [.agg #[.pointer a0.1, .map a0.2.1], .int .u32 a1] R w = sh32 a0 a1 R w := by kernel_rfl
theorem call32 {a0 : (Option Addr × Option Nat × Unit)} {a1 : Int} {w : World} {K : TK [.a [(.i .i64), (.i .i64)], .a [(.i .u32), .s], kB] → World → Prop} (h : sh32 a0 a1 (fun vs w' => ∃ t, encK [.a [(.i .i64), (.i .i64)], .a [(.i .u32), .s], kB] t = vs ∧ K t w') w) : cl Pg 32 [.agg #[.pointer a0.1, .map a0.2.1], .int .u32 a1] [.a [(.i .i64), (.i .i64)], .a [(.i .u32), .s], kB] w K := cl_of Try.func32 (tie32 ..) h
/-- (*detent/por.Port).begin -/
def sh33 (a0 : Option Addr) (a1 : Int) (a2 : Int) (R : List Value → World → Prop) (w : World) : Prop :=
 nn a0 fun b1 o2 =>
 ldI w .i64 b1 (o2 + 5) fun n3 =>
 nn a0 fun b4 o5 =>
 st1 w b4 (o5 + 5) (.int .i64 (w64 (n3 + 1))) fun w6 =>
 dr w6 fun w7 =>
 nn a0 fun b8 o9 =>
 ldS w7 b8 (o9 + 6) fun s10 =>
 nn a0 fun b11 o12 =>
 ldI w7 .i64 b11 (o12 + 5) fun n13 =>
 al w7 92 [.int .i64 n13, .int .i64 a1, .int .i64 a2] fun b14 w15 =>
(w15.cell? ⟨b8, o9 + 6, none⟩ = some (vS s10)) ∧ (
 ef Pg (Builtin.append_ #[77, 77] 77 #[vS s10, vS ⟨some ⟨b14, 0, none⟩, 1, 1⟩]) [kS] w15 fun (r16 : Sl × Unit) w17 =>
 nn a0 fun b18 o19 =>
 st1 w17 b18 (o19 + 6) (vS r16.1) fun w20 =>
 nn a0 fun b21 o22 =>
 ldI w20 .i64 b21 (o22 + 5) fun n23 =>
 R [.int .i64 n23] w20)
theorem tie33 (a0 : Option Addr) (a1 : Int) (a2 : Int) (R : List Value → World → Prop) (w : World) : compF Pg Try.f33 ⟨[], [], [(2, .l [(0, []), (1, []), (2, []), (3, []), (4, []), (5, []), (6, []), (7, []), (8, []), (9, []), (10, []), (11, []), (12, [11, 8, 9, 10, 7, 6, 5]), (13, [4, 12, 3, 11, 2, 8, 9, 10, 1, 7, 6, 5]), (14, []), (15, []), (16, [15, 13, 0, 1, 2, 3, 4, 5, 6, 7, 8, 9, 10, 11, 12, 14])])], []⟩ [.pointer a0, .int .i64 a1, .int .i64 a2] R w = sh33 a0 a1 a2 R w := by kernel_rfl
theorem call33 {a0 : Option Addr} {a1 : Int} {a2 : Int} {w : World} {K : TK [kI] → World → Prop} (h : sh33 a0 a1 a2 (fun vs w' => ∃ t, encK [kI] t = vs ∧ K t w') w) : cl Pg 33 [.pointer a0, .int .i64 a1, .int .i64 a2] [kI] w K := cl_of Try.func33 (tie33 ..) h
/-- detent/order.may -/
def sh62 (a0 : Int) (R : List Value → World → Prop) (w : World) : Prop :=
 jn [kB] w (fun (t2 : Bool × Unit) w3 =>
 R [.bool t2.1] w3) fun J1 w4 =>
 cs (decide ((a0 : Int) ≥ (1 : Int))) (
 J1 (decide ((a0 : Int) ≤ (16 : Int)), ()) w4) (
 J1 (false, ()) w4)
theorem tie62 (a0 : Int) (R : List Value → World → Prop) (w : World) : compF Pg Try.f62 ⟨[], [], [], [(1, [(3, 3, ⟨[(8, kB)], [6, 7]⟩)])]⟩ [.int .i64 a0] R w = sh62 a0 R w := by kernel_rfl
theorem call62 {a0 : Int} {w : World} {K : TK [kB] → World → Prop} (h : sh62 a0 (fun vs w' => ∃ t, encK [kB] t = vs ∧ K t w') w) : cl Pg 62 [.int .i64 a0] [kB] w K := cl_of Try.func62 (tie62 ..) h
/-- slices.Reverse[[]detent/order.Item,detent/order.Item] -/
def sh71 (a0 : Sl) (R : List Value → World → Prop) (w : World) : Prop :=
 lp [kI, kI] w ((0 : Int), w64 ((a0.len : Int) - 1), ()) fun (t1 : Int × Int × Unit) J2 w3 =>
 cs (decide ((t1.1 : Int) < (t1.2.1 : Int))) (
 dr w3 fun w4 =>
 ix a0 t1.2.1 2 fun b5 o6 =>
 ldI w4 .i64 b5 o6 fun n7 =>
 ldI w4 .i64 b5 (o6 + 1) fun n8 =>
 ix a0 t1.1 2 fun b9 o10 =>
 ldI w4 .i64 b9 o10 fun n11 =>
 ldI w4 .i64 b9 (o10 + 1) fun n12 =>
 ix a0 t1.1 2 fun b13 o14 =>
 st1 w4 b13 o14 (.int .i64 n7) fun w15 =>
 st1 w15 b13 (o14 + 1) (.int .i64 n8) fun w16 =>
 ix a0 t1.2.1 2 fun b17 o18 =>
 st1 w16 b17 o18 (.int .i64 n11) fun w19 =>
 st1 w19 b17 (o18 + 1) (.int .i64 n12) fun w20 =>
 J2 (w64 (t1.1 + 1), w64 (t1.2.1 - 1), ()) w20) (
 R [] w3)
theorem tie71 (a0 : Sl) (R : List Value → World → Prop) (w : World) : compF Pg Try.f71 ⟨[(1, ⟨[(2, kI), (3, kI)], [7, 8, 9, 10, 11, 12, 13, 14, 15, 16, 17, 18, 19, 20, 21, 22, 23, 24, 25, 26, 27]⟩)], [], [(3, .l [(0, []), (1, []), (2, []), (3, []), (4, []), (5, []), (6, []), (7, []), (8, []), (9, []), (10, []), (11, []), (12, []), (13, [12, 7, 0, 1, 4, 5, 6, 11, 10, 8, 9]), (14, []), (15, [14, 11, 13, 0, 1, 2, 3, 4, 5, 6, 7, 8, 9, 10, 12])])], []⟩ [vS a0] R w = sh71 a0 R w := by kernel_rfl
theorem call71 {a0 : Sl} {w : World} {K : TK [] → World → Prop} (h : sh71 a0 (fun vs w' => ∃ t, encK [] t = vs ∧ K t w') w) : cl Pg 71 [vS a0] [] w K := cl_of Try.func71 (tie71 ..) h
/-- slices.rotateLeft[detent/order.Item] -/
def sh70 (a0 : Sl) (a1 : Int) (R : List Value → World → Prop) (w : World) : Prop :=
 sb a0 0 a1 a0.cap 2 fun s1 =>
 cl Pg 71 [vS s1] [] w fun (r2 : Unit) w3 =>
 sb a0 a1 a0.len a0.cap 2 fun s4 =>
 cl Pg 71 [vS s4] [] w3 fun (r5 : Unit) w6 =>
 cl Pg 71 [vS a0] [] w6 fun (r7 : Unit) w8 =>
 R [] w8
theorem tie70 (a0 : Sl) (a1 : Int) (R : List Value → World → Prop) (w : World) : compF Pg Try.f70 ⟨[], [], [], []⟩ [vS a0, .int .i64 a1] R w = sh70 a0 a1 R w := by kernel_rfl
theorem call70 {a0 : Sl} {a1 : Int} {w : World} {K : TK [] → World → Prop} (h : sh70 a0 a1 (fun vs w' => ∃ t, encK [] t = vs ∧ K t w') w) : cl Pg 70 [vS a0, .int .i64 a1] [] w K := cl_of Try.func70 (tie70 ..) h
/-- slices.rotateRight[detent/order.Item] -/
def sh69 (a0 : Sl) (a1 : Int) (R : List Value → World → Prop) (w : World) : Prop :=
 cl Pg 70 [vS a0, .int .i64 (w64 ((a0.len : Int) - a1))] [] w fun (r1 : Unit) w2 =>
 R [] w2
theorem tie69 (a0 : Sl) (a1 : Int) (R : List Value → World → Prop) (w : World) : compF Pg Try.f69 ⟨[], [], [], []⟩ [vS a0, .int .i64 a1] R w = sh69 a0 a1 R w := by kernel_rfl
theorem call69 {a0 : Sl} {a1 : Int} {w : World} {K : TK [] → World → Prop} (h : sh69 a0 a1 (fun vs w' => ∃ t, encK [] t = vs ∧ K t w') w) : cl Pg 69 [vS a0, .int .i64 a1] [] w K := cl_of Try.func69 (tie69 ..) h
/-- slices.Insert[[]detent/order.Item,detent/order.Item] -/
def sh67 (a0 : Sl) (a1 : Int) (a2 : Sl) (R : List Value → World → Prop) (w : World) : Prop :=
 sb a0 a1 a0.len a0.cap 2 fun s1 =>
 cs (((a2.len : Int) : Int) == (0 : Int)) (
 R [vS a0] w) (
 cs ((a1 : Int) == ((a0.len : Int) : Int)) (
 ef Pg (Builtin.append_ #[103, 103] 103 #[vS a0, vS a2]) [kS] w fun (r2 : Sl × Unit) w3 =>
 R [vS r2.1] w3) (
 cs (decide ((w64 ((a0.len : Int) + (a2.len : Int)) : Int) > ((a0.cap : Int) : Int))) (
 sb a0 0 a1 a0.cap 2 fun s4 =>
 ef Pg (Builtin.append_ #[103, 3] 103 #[vS s4, .int .i64 (w64 ((w64 ((a0.len : Int) + (a2.len : Int))) - a1))]) [kS] w fun (r5 : Sl × Unit) w6 =>
 sb r5.1 a1 r5.1.len r5.1.cap 2 fun s7 =>
 ef Pg (Builtin.copy_ #[103, 103] 3 #[vS s7, vS a2]) [kI] w6 fun (r8 : Int × Unit) w9 =>
 dr w9 fun w10 =>
 sb r5.1 (w64 (a1 + (a2.len : Int))) r5.1.len r5.1.cap 2 fun s11 =>
 sb a0 a1 a0.len a0.cap 2 fun s12 =>
 ef Pg (Builtin.copy_ #[103, 103] 3 #[vS s11, vS s12]) [kI] w10 fun (r13 : Int × Unit) w14 =>
 R [vS r5.1] w14) (
 sb a0 0 (w64 ((a0.len : Int) + (a2.len : Int))) a0.cap 2 fun s15 =>
 sb s15 (w64 (a1 + (a2.len : Int))) s15.len s15.cap 2 fun s16 =>
 xt Pg 68 [vS a2, vS s16] [kB] w fun (r17 : Bool × Unit) w18 =>
 cs (!r17.1) (
 dr w18 fun w19 =>
 sb s15 (w64 (a1 + (a2.len : Int))) s15.len s15.cap 2 fun s20 =>
 sb s15 a1 s15.len s15.cap 2 fun s21 =>
 ef Pg (Builtin.copy_ #[103, 103] 3 #[vS s20, vS s21]) [kI] w19 fun (r22 : Int × Unit) w23 =>
 sb s15 a1 s15.len s15.cap 2 fun s24 =>
 ef Pg (Builtin.copy_ #[103, 103] 3 #[vS s24, vS a2]) [kI] w23 fun (r25 : Int × Unit) w26 =>
 R [vS s15] w26) (
 sb s15 (a0.len : Int) s15.len s15.cap 2 fun s27 =>
 ef Pg (Builtin.copy_ #[103, 103] 3 #[vS s27, vS a2]) [kI] w18 fun (r28 : Int × Unit) w29 =>
 sb s15 a1 s15.len s15.cap 2 fun s30 =>
 cl Pg 69 [vS s30, .int .i64 (a2.len : Int)] [] w29 fun (r31 : Unit) w32 =>
 R [vS s15] w32))))
theorem tie67 (a0 : Sl) (a1 : Int) (a2 : Sl) (R : List Value → World → Prop) (w : World) : compF Pg Try.f67 ⟨[], [], [(11, .l [(0, []), (1, []), (2, []), (3, []), (4, []), (5, []), (6, []), (7, []), (8, [4, 7, 0, 3, 5, 6, 1, 2])]), (15, .l [(0, []), (1, []), (2, []), (3, []), (4, []), (5, []), (6, []), (7, []), (8, [4, 7, 0, 3, 5, 6, 1, 2])])], []⟩ [vS a0, .int .i64 a1, vS a2] R w = sh67 a0 a1 a2 R w := by kernel_rfl
theorem call67 {a0 : Sl} {a1 : Int} {a2 : Sl} {w : World} {K : TK [kS] → World → Prop} (h : sh67 a0 a1 a2 (fun vs w' => ∃ t, encK [kS] t = vs ∧ K t w') w) : cl Pg 67 [vS a0, .int .i64 a1, vS a2] [kS] w K := cl_of Try.func67 (tie67 ..) h
/-- (*detent/order.Queue).put -/
def sh63 (a0 : Option Addr) (a1 : (Int × Int × Unit)) (R : List Value → World → Prop) (w : World) : Prop :=
 al w 83 [.int .i64 a1.1, .int .i64 a1.2.1] fun b1 w2 =>
 nn a0 fun b3 o4 =>
 ldS w2 b3 o4 fun s5 =>
 lp [kI] w2 ((s5.len : Int), ()) fun (t6 : Int × Unit) J7 w8 =>
 dr w8 fun w9 =>
 jn [kB] w9 (fun (t11 : Bool × Unit) w12 =>
 cs t11.1 (
 J7 (w64 (t6.1 - 1), ()) w12) (
 dr w12 fun w14 =>
 nn a0 fun b15 o16 =>
 ldS w14 b15 o16 fun s17 =>
 ldI w14 .i64 b1 0 fun n18 =>
 ldI w14 .i64 b1 (0 + 1) fun n19 =>
 al w14 83 [.int .i64 n18, .int .i64 n19] fun b20 w21 =>
(w21.cell? ⟨b15, o16, none⟩ = some (vS s17)) ∧ (
 cl Pg 67 [vS s17, .int .i64 t6.1, vS ⟨some ⟨b20, 0, none⟩, 1, 1⟩] [kS] w21 fun (r22 : Sl × Unit) w23 =>
 nn a0 fun b24 o25 =>
 st1 w23 b24 o25 (vS r22.1) fun w26 =>
 R [] w26))) fun J10 w13 =>
 nn a0 fun b27 o28 =>
 ldB w13 b27 (o28 + 1) fun b29 =>
 cs b29 (
 cs (decide ((t6.1 : Int) > (0 : Int))) (
 nn a0 fun b30 o31 =>
 ldS w13 b30 o31 fun s32 =>
 ix s32 (w64 (t6.1 - 1)) 2 fun b33 o34 =>
 ldI w13 .i64 b33 (o34 + 1) fun n35 =>
 ldI w13 .i64 b1 (0 + 1) fun n36 =>
 J10 (decide ((n35 : Int) > (n36 : Int)), ()) w13) (
 J10 (false, ()) w13)) (
 J10 (false, ()) w13)
theorem tie63 (a0 : Option Addr) (a1 : (Int × Int × Unit)) (R : List Value → World → Prop) (w : World) : compF Pg Try.f63 ⟨[(1, ⟨[(4, kI)], [11, 12, 13, 14, 15, 16, 17, 18, 19, 20, 21, 22, 23, 24, 25, 26, 27, 28, 29, 30, 31, 32, 33, 34, 35]⟩)], [(2, ⟨[(33, kB)], [11, 12, 13, 14, 15, 16, 17, 18, 19, 20, 21, 22, 23, 24, 25, 26, 27, 28, 29, 30, 31, 32]⟩)], [(2, .l [(0, []), (1, []), (2, []), (3, []), (4, []), (5, []), (6, []), (7, []), (8, []), (9, []), (10, []), (11, []), (12, []), (13, []), (14, []), (15, []), (16, []), (17, []), (18, []), (19, []), (20, []), (21, []), (22, [])]), (4, .l [(0, []), (1, []), (2, []), (3, []), (4, []), (5, []), (6, []), (7, []), (8, [7]), (9, [5, 6, 8, 4, 7, 3, 2, 1]), (10, []), (11, []), (12, []), (13, [12, 9, 0, 1, 2, 3, 4, 5, 6, 7, 8, 11, 10])])], []⟩ [.pointer a0, .agg #[.int .i64 a1.1, .int .i64 a1.2.1]] R w = sh63 a0 a1 R w := by kernel_rfl
theorem call63 {a0 : Option Addr} {a1 : (Int × Int × Unit)} {w : World} {K : TK [] → World → Prop} (h : sh63 a0 a1 (fun vs w' => ∃ t, encK [] t = vs ∧ K t w') w) : cl Pg 63 [.pointer a0, .agg #[.int .i64 a1.1, .int .i64 a1.2.1]] [] w K := cl_of Try.func63 (tie63 ..) h
/-- (*detent/order.Queue).Add -/
def sh53 (a0 : Option Addr) (a1 : Int) (a2 : Int) (R : List Value → World → Prop) (w : World) : Prop :=
 jn [kB] w (fun (t2 : Bool × Unit) w3 =>
 jn [kB] w3 (fun (t6 : Bool × Unit) w7 =>
 cs t6.1 (
 R [.int .i64 (-17)] w7) (
 nn a0 fun b9 o10 =>
 cl Pg 49 [.pointer (some ⟨b9, o10, none⟩), .int .i64 a1] [kB] w7 fun (r11 : Bool × Unit) w12 =>
 cs r11.1 (
 R [.int .i64 (-41)] w12) (
 cl Pg 63 [.pointer a0, .agg #[.int .i64 a1, .int .i64 a2]] [] w12 fun (r13 : Unit) w14 =>
 R [.int .i64 0] w14))) fun J5 w8 =>
 cs t2.1 (
 J5 (true, ()) w8) (
 cl Pg 62 [.int .i64 a2] [kB] w8 fun (r15 : Bool × Unit) w16 =>
 J5 (!r15.1, ()) w16)) fun J1 w4 =>
 cs (decide ((a1 : Int) < (1 : Int))) (
 J1 (true, ()) w4) (
 J1 (decide ((a1 : Int) > (16 : Int)), ()) w4)
theorem tie53 (a0 : Option Addr) (a1 : Int) (a2 : Int) (R : List Value → World → Prop) (w : World) : compF Pg Try.f53 ⟨[], [], [], [(1, [(3, 3, ⟨[(13, kB)], [11, 12]⟩), (7, 4, ⟨[(18, kB)], [15, 16, 17]⟩)])]⟩ [.pointer a0, .int .i64 a1, .int .i64 a2] R w = sh53 a0 a1 a2 R w := by kernel_rfl
theorem call53 {a0 : Option Addr} {a1 : Int} {a2 : Int} {w : World} {K : TK [kI] → World → Prop} (h : sh53 a0 a1 a2 (fun vs w' => ∃ t, encK [kI] t = vs ∧ K t w') w) : cl Pg 53 [.pointer a0, .int .i64 a1, .int .i64 a2] [kI] w K := cl_of Try.func53 (tie53 ..) h
/-- (detent/por.line).wait -/
def sh34 (a0 : (Option Addr × Option Nat × Unit)) (a1 : Int) (a2 : Int) (a3 : (Int × Sl × Unit)) (R : List Value → World → Prop) (w : World) : Prop :=
 al w 73 [.pointer a0.1, .map a0.2.1] fun b1 w2 =>
 al w2 85 [.int .u32 a3.1, vS a3.2.1] fun b3 w4 =>
 ldP w4 b1 0 fun p5 =>
 cl Pg 53 [.pointer p5, .int .i64 a1, .int .i64 a2] [kI] w4 fun (r6 : Int × Unit) w7 =>
 ldM w7 b1 (0 + 1) fun m8 =>
 ldI w7 .u32 b3 0 fun n9 =>
 ldS w7 b3 (0 + 1) fun s10 =>
 efU Pg (Instr.mapUpdate 71 (.map m8) (.int .i64 a1) (.agg #[.int .u32 n9, vS s10])) w7 fun w11 =>
 R [] w11
theorem tie34 (a0 : (Option Addr × Option Nat × Unit)) (a1 : Int) (a2 : Int) (a3 : (Int × Sl × Unit)) (R : List Value → World → Prop) (w : World) : compF Pg Try.f34 ⟨[], [], [], []⟩ [.agg #[.pointer a0.1, .map a0.2.1], .int .i64 a1, .int .i64 a2, .agg #[.int .u32 a3.1, vS a3.2.1]] R w = sh34 a0 a1 a2 a3 R w := by kernel_rfl
theorem call34 {a0 : (Option Addr × Option Nat × Unit)} {a1 : Int} {a2 : Int} {a3 : (Int × Sl × Unit)} {w : World} {K : TK [] → World → Prop} (h : sh34 a0 a1 a2 a3 (fun vs w' => ∃ t, encK [] t = vs ∧ K t w') w) : cl Pg 34 [.agg #[.pointer a0.1, .map a0.2.1], .int .i64 a1, .int .i64 a2, .agg #[.int .u32 a3.1, vS a3.2.1]] [] w K := cl_of Try.func34 (tie34 ..) h
/-- (*detent/por.Port).Call -/
def sh9 (a0 : Option Addr) (a1 : Int) (a2 : Int) (a3 : Int) (a4 : Sl) (R : List Value → World → Prop) (w : World) : Prop :=
 al w 29 [.int .i64 0, .int .i64 0, .slice none 0 0, .bool false] fun b1 w2 =>
 jn [kB] w2 (fun (t4 : Bool × Unit) w5 =>
 jn [kB] w5 (fun (t8 : Bool × Unit) w9 =>
 cs t8.1 (
 st1 w9 b1 0 (.int .i64 0) fun w11 =>
 st1 w11 b1 (0 + 1) (.int .i64 0) fun w12 =>
 st1 w12 b1 (0 + 2) (.slice none 0 0) fun w13 =>
 st1 w13 b1 (0 + 3) (.bool false) fun w14 =>
 ldI w14 .i64 b1 0 fun n15 =>
 ldI w14 .i64 b1 (0 + 1) fun n16 =>
 ldS w14 b1 (0 + 2) fun s17 =>
 ldB w14 b1 (0 + 3) fun b18 =>
 R [.agg #[.int .i64 n15, .int .i64 n16, vS s17, .bool b18], .int .i64 (-17)] w14) (
 cl Pg 29 [.pointer a0, .int .i64 a1] [kB] w9 fun (r19 : Bool × Unit) w20 =>
 cs r19.1 (
 st1 w20 b1 0 (.int .i64 0) fun w21 =>
 st1 w21 b1 (0 + 1) (.int .i64 0) fun w22 =>
 st1 w22 b1 (0 + 2) (.slice none 0 0) fun w23 =>
 st1 w23 b1 (0 + 3) (.bool false) fun w24 =>
 ldI w24 .i64 b1 0 fun n25 =>
 ldI w24 .i64 b1 (0 + 1) fun n26 =>
 ldS w24 b1 (0 + 2) fun s27 =>
 ldB w24 b1 (0 + 3) fun b28 =>
 R [.agg #[.int .i64 n25, .int .i64 n26, vS s27, .bool b28], .int .i64 (-41)] w24) (
 cl Pg 31 [vS a4] [kS] w20 fun (r29 : Sl × Unit) w30 =>
 cl Pg 30 [vS r29.1] [kS] w30 fun (r31 : Sl × Unit) w32 =>
 nn a0 fun b33 o34 =>
 ldP w32 b33 (o34 + 2) fun p35 =>
 ldM w32 b33 (o34 + 2 + 1) fun m36 =>
 cl Pg 32 [.agg #[.pointer p35, .map m36], .int .u32 a3] [.a [(.i .i64), (.i .i64)], .a [(.i .u32), .s], kB] w32 fun (r37 : (Int × Int × Unit) × (Int × Sl × Unit) × Bool × Unit) w38 =>
 al w38 83 [.int .i64 0, .int .i64 0] fun b39 w40 =>
 al w40 85 [.int .u32 0, .slice none 0 0] fun b41 w42 =>
 st1 w42 b39 0 (.int .i64 r37.1.1) fun w43 =>
 st1 w43 b39 (0 + 1) (.int .i64 r37.1.2.1) fun w44 =>
 st1 w44 b41 0 (.int .u32 r37.2.1.1) fun w45 =>
 st1 w45 b41 (0 + 1) (vS r37.2.1.2.1) fun w46 =>
 cs r37.2.2.1 (
 dr w46 fun w47 =>
 ldI w47 .i64 b39 0 fun n48 =>
 cl Pg 33 [.pointer a0, .int .i64 a1, .int .i64 a2] [kI] w47 fun (r49 : Int × Unit) w50 =>
(w50.cell? ⟨b39, 0, none⟩ = some (.int .i64 n48)) ∧ (
 st1 w50 b1 0 (.int .i64 r49.1) fun w51 =>
 st1 w51 b1 (0 + 1) (.int .i64 n48) fun w52 =>
 st1 w52 b1 (0 + 2) (vS r31.1) fun w53 =>
 st1 w53 b1 (0 + 3) (.bool true) fun w54 =>
 ldI w54 .i64 b1 0 fun n55 =>
 ldI w54 .i64 b1 (0 + 1) fun n56 =>
 ldS w54 b1 (0 + 2) fun s57 =>
 ldB w54 b1 (0 + 3) fun b58 =>
 R [.agg #[.int .i64 n55, .int .i64 n56, vS s57, .bool b58], .int .i64 0] w54)) (
 nn a0 fun b59 o60 =>
 ldP w46 b59 o60 fun p61 =>
 ldM w46 b59 (o60 + 1) fun m62 =>
 cl Pg 34 [.agg #[.pointer p61, .map m62], .int .i64 a1, .int .i64 a2, .agg #[.int .u32 a3, vS r31.1]] [] w46 fun (r63 : Unit) w65 =>
 st1 w65 b1 0 (.int .i64 0) fun w66 =>
 st1 w66 b1 (0 + 1) (.int .i64 0) fun w67 =>
 st1 w67 b1 (0 + 2) (.slice none 0 0) fun w68 =>
 st1 w68 b1 (0 + 3) (.bool false) fun w69 =>
 ldI w69 .i64 b1 0 fun n70 =>
 ldI w69 .i64 b1 (0 + 1) fun n71 =>
 ldS w69 b1 (0 + 2) fun s72 =>
 ldB w69 b1 (0 + 3) fun b73 =>
 R [.agg #[.int .i64 n70, .int .i64 n71, vS s72, .bool b73], .int .i64 0] w69)))) fun J7 w10 =>
 cs t4.1 (
 J7 (true, ()) w10) (
 cl Pg 28 [.int .i64 a1, .int .i64 a2] [kB] w10 fun (r74 : Bool × Unit) w75 =>
 J7 (!r74.1, ()) w75)) fun J3 w6 =>
 cs ((a3 : Int) == (0 : Int)) (
 J3 (true, ()) w6) (
 nn a0 fun b76 o77 =>
 ldI w6 .i64 b76 (o77 + 4) fun n78 =>
 J3 (decide (((a4.len : Int) : Int) > (n78 : Int)), ()) w6)
theorem tie9 (a0 : Option Addr) (a1 : Int) (a2 : Int) (a3 : Int) (a4 : Sl) (R : List Value → World → Prop) (w : World) : compF Pg Try.f9 ⟨[], [], [(8, .l [(0, []), (1, []), (2, []), (4, []), (5, []), (6, []), (3, [0, 1, 2]), (7, []), (8, [7, 3, 0, 1, 2, 4, 5, 6]), (9, [])])], [(1, [(3, 8, ⟨[(26, kB)], [19, 20, 21, 22, 23, 24, 25]⟩), (12, 5, ⟨[(32, kB)], [28, 29, 30, 31]⟩)])]⟩ [.pointer a0, .int .i64 a1, .int .i64 a2, .int .u32 a3, vS a4] R w = sh9 a0 a1 a2 a3 a4 R w := by kernel_rfl
theorem call9 {a0 : Option Addr} {a1 : Int} {a2 : Int} {a3 : Int} {a4 : Sl} {w : World} {K : TK [.a [(.i .i64), (.i .i64), .s, .b], kI] → World → Prop} (h : sh9 a0 a1 a2 a3 a4 (fun vs w' => ∃ t, encK [.a [(.i .i64), (.i .i64), .s, .b], kI] t = vs ∧ K t w') w) : cl Pg 9 [.pointer a0, .int .i64 a1, .int .i64 a2, .int .u32 a3, vS a4] [.a [(.i .i64), (.i .i64), .s, .b], kI] w K := cl_of Try.func9 (tie9 ..) h
/-- (*detent/por.Port).Accept -/
def sh10 (a0 : Option Addr) (a1 : Int) (a2 : Int) (a3 : Int) (R : List Value → World → Prop) (w : World) : Prop :=
 al w 29 [.int .i64 0, .int .i64 0, .slice none 0 0, .bool false] fun b1 w2 =>
 jn [kB] w2 (fun (t4 : Bool × Unit) w5 =>
 cs t4.1 (
 st1 w5 b1 0 (.int .i64 0) fun w7 =>
 st1 w7 b1 (0 + 1) (.int .i64 0) fun w8 =>
 st1 w8 b1 (0 + 2) (.slice none 0 0) fun w9 =>
 st1 w9 b1 (0 + 3) (.bool false) fun w10 =>
 ldI w10 .i64 b1 0 fun n11 =>
 ldI w10 .i64 b1 (0 + 1) fun n12 =>
 ldS w10 b1 (0 + 2) fun s13 =>
 ldB w10 b1 (0 + 3) fun b14 =>
 R [.agg #[.int .i64 n11, .int .i64 n12, vS s13, .bool b14], .int .i64 (-17)] w10) (
 cl Pg 29 [.pointer a0, .int .i64 a1] [kB] w5 fun (r15 : Bool × Unit) w16 =>
 cs r15.1 (
 st1 w16 b1 0 (.int .i64 0) fun w17 =>
 st1 w17 b1 (0 + 1) (.int .i64 0) fun w18 =>
 st1 w18 b1 (0 + 2) (.slice none 0 0) fun w19 =>
 st1 w19 b1 (0 + 3) (.bool false) fun w20 =>
 ldI w20 .i64 b1 0 fun n21 =>
 ldI w20 .i64 b1 (0 + 1) fun n22 =>
 ldS w20 b1 (0 + 2) fun s23 =>
 ldB w20 b1 (0 + 3) fun b24 =>
 R [.agg #[.int .i64 n21, .int .i64 n22, vS s23, .bool b24], .int .i64 (-41)] w20) (
 nn a0 fun b25 o26 =>
 ldP w16 b25 o26 fun p27 =>
 ldM w16 b25 (o26 + 1) fun m28 =>
 cl Pg 32 [.agg #[.pointer p27, .map m28], .int .u32 a3] [.a [(.i .i64), (.i .i64)], .a [(.i .u32), .s], kB] w16 fun (r29 : (Int × Int × Unit) × (Int × Sl × Unit) × Bool × Unit) w30 =>
 al w30 83 [.int .i64 0, .int .i64 0] fun b31 w32 =>
 al w32 85 [.int .u32 0, .slice none 0 0] fun b33 w34 =>
 st1 w34 b31 0 (.int .i64 r29.1.1) fun w35 =>
 st1 w35 b31 (0 + 1) (.int .i64 r29.1.2.1) fun w36 =>
 st1 w36 b33 0 (.int .u32 r29.2.1.1) fun w37 =>
 st1 w37 b33 (0 + 1) (vS r29.2.1.2.1) fun w38 =>
 cs r29.2.2.1 (
 dr w38 fun w39 =>
 ldI w39 .i64 b31 0 fun n40 =>
 ldI w39 .i64 b31 (0 + 1) fun n41 =>
 ldI w39 .i64 b31 0 fun n42 =>
 ldS w39 b33 (0 + 1) fun s43 =>
 cl Pg 33 [.pointer a0, .int .i64 n40, .int .i64 n41] [kI] w39 fun (r44 : Int × Unit) w45 =>
(w45.cell? ⟨b33, 0 + 1, none⟩ = some (vS s43)) ∧ (
(w45.cell? ⟨b31, 0, none⟩ = some (.int .i64 n42)) ∧ (
 st1 w45 b1 0 (.int .i64 r44.1) fun w46 =>
 st1 w46 b1 (0 + 1) (.int .i64 n42) fun w47 =>
 st1 w47 b1 (0 + 2) (vS s43) fun w48 =>
 st1 w48 b1 (0 + 3) (.bool true) fun w49 =>
 ldI w49 .i64 b1 0 fun n50 =>
 ldI w49 .i64 b1 (0 + 1) fun n51 =>
 ldS w49 b1 (0 + 2) fun s52 =>
 ldB w49 b1 (0 + 3) fun b53 =>
 R [.agg #[.int .i64 n50, .int .i64 n51, vS s52, .bool b53], .int .i64 0] w49))) (
 nn a0 fun b54 o55 =>
 ldP w38 b54 (o55 + 2) fun p56 =>
 ldM w38 b54 (o55 + 2 + 1) fun m57 =>
 cl Pg 34 [.agg #[.pointer p56, .map m57], .int .i64 a1, .int .i64 a2, .agg #[.int .u32 a3, .slice none 0 0]] [] w38 fun (r58 : Unit) w59 =>
 st1 w59 b1 0 (.int .i64 0) fun w60 =>
 st1 w60 b1 (0 + 1) (.int .i64 0) fun w61 =>
 st1 w61 b1 (0 + 2) (.slice none 0 0) fun w62 =>
 st1 w62 b1 (0 + 3) (.bool false) fun w63 =>
 ldI w63 .i64 b1 0 fun n64 =>
 ldI w63 .i64 b1 (0 + 1) fun n65 =>
 ldS w63 b1 (0 + 2) fun s66 =>
 ldB w63 b1 (0 + 3) fun b67 =>
 R [.agg #[.int .i64 n64, .int .i64 n65, vS s66, .bool b67], .int .i64 0] w63)))) fun J3 w6 =>
 cs ((a3 : Int) == (0 : Int)) (
 J3 (true, ()) w6) (
 cl Pg 28 [.int .i64 a1, .int .i64 a2] [kB] w6 fun (r68 : Bool × Unit) w69 =>
 J3 (!r68.1, ()) w69)
theorem tie10 (a0 : Option Addr) (a1 : Int) (a2 : Int) (a3 : Int) (R : List Value → World → Prop) (w : World) : compF Pg Try.f10 ⟨[], [], [(7, .l [(0, []), (1, []), (2, []), (3, []), (4, []), (6, []), (7, []), (8, []), (9, []), (5, [0, 2, 4, 1, 3]), (10, []), (11, [10, 5, 0, 1, 2, 3, 4, 6, 7, 8, 9]), (12, [])])], [(1, [(3, 5, ⟨[(21, kB)], [17, 18, 19, 20]⟩)])]⟩ [.pointer a0, .int .i64 a1, .int .i64 a2, .int .u32 a3] R w = sh10 a0 a1 a2 a3 R w := by kernel_rfl
theorem call10 {a0 : Option Addr} {a1 : Int} {a2 : Int} {a3 : Int} {w : World} {K : TK [.a [(.i .i64), (.i .i64), .s, .b], kI] → World → Prop} (h : sh10 a0 a1 a2 a3 (fun vs w' => ∃ t, encK [.a [(.i .i64), (.i .i64), .s, .b], kI] t = vs ∧ K t w') w) : cl Pg 10 [.pointer a0, .int .i64 a1, .int .i64 a2, .int .u32 a3] [.a [(.i .i64), (.i .i64), .s, .b], kI] w K := cl_of Try.func10 (tie10 ..) h
/-- (*detent/por.Port).find$1 -/
def sh54 (a0 : (Int × Int × Int × Unit)) (c0 : Nat) (R : List Value → World → Prop) (w : World) : Prop :=
 al w 92 [.int .i64 a0.1, .int .i64 a0.2.1, .int .i64 a0.2.2.1] fun b1 w2 =>
 ldI w2 .i64 b1 0 fun n3 =>
 ldI w2 .i64 c0 0 fun n4 =>
 R [.bool ((n3 : Int) == (n4 : Int))] w2
theorem tie54 (a0 : (Int × Int × Int × Unit)) (c0 : Nat) (R : List Value → World → Prop) (w : World) : compF Pg Try.f54 ⟨[], [], [], []⟩ [.agg #[.int .i64 a0.1, .int .i64 a0.2.1, .int .i64 a0.2.2.1], .pointer (some ⟨c0, 0, none⟩)] R w = sh54 a0 c0 R w := by kernel_rfl
theorem call54 {a0 : (Int × Int × Int × Unit)} {c0 : Nat} {w : World} {K : TK [kB] → World → Prop} (h : sh54 a0 c0 (fun vs w' => ∃ t, encK [kB] t = vs ∧ K t w') w) : cl Pg 54 [.agg #[.int .i64 a0.1, .int .i64 a0.2.1, .int .i64 a0.2.2.1], .pointer (some ⟨c0, 0, none⟩)] [kB] w K := cl_of Try.func54 (tie54 ..) h
/-- (*detent/por.Port).find -/
def sh35 (a0 : Option Addr) (a1 : Int) (R : List Value → World → Prop) (w : World) : Prop :=
 al w 3 [.int .i64 a1] fun b1 w2 =>
 nn a0 fun b3 o4 =>
 ldS w2 b3 (o4 + 6) fun s5 =>
 cl Pg 46 [vS s5, .func (.func 54) #[] #[.pointer (some ⟨b1, 0, none⟩)]] [kI] w2 fun (r6 : Int × Unit) w7 =>
 R [.int .i64 r6.1] w7
theorem tie35 (a0 : Option Addr) (a1 : Int) (R : List Value → World → Prop) (w : World) : compF Pg Try.f35 ⟨[], [], [], []⟩ [.pointer a0, .int .i64 a1] R w = sh35 a0 a1 R w := by kernel_rfl
theorem call35 {a0 : Option Addr} {a1 : Int} {w : World} {K : TK [kI] → World → Prop} (h : sh35 a0 a1 (fun vs w' => ∃ t, encK [kI] t = vs ∧ K t w') w) : cl Pg 35 [.pointer a0, .int .i64 a1] [kI] w K := cl_of Try.func35 (tie35 ..) h
/-- slices.Delete[[]detent/por.open,detent/por.open] -/
def sh55 (a0 : Sl) (a1 : Int) (a2 : Int) (R : List Value → World → Prop) (w : World) : Prop :=
 sb a0 a1 a2 (a0.len : Int) 3 fun s1 =>
 cs ((a1 : Int) == (a2 : Int)) (
 R [vS a0] w) (
 dr w fun w2 =>
 sb a0 0 a1 a0.cap 3 fun s3 =>
 sb a0 a2 a0.len a0.cap 3 fun s4 =>
 ef Pg (Builtin.append_ #[77, 77] 77 #[vS s3, vS s4]) [kS] w2 fun (r5 : Sl × Unit) w6 =>
 sb r5.1 (r5.1.len : Int) (a0.len : Int) r5.1.cap 3 fun s7 =>
 ef Pg (Builtin.clear_ #[77] 0 #[vS s7]) [] w6 fun (r8 : Unit) w9 =>
 R [vS r5.1] w9)
theorem tie55 (a0 : Sl) (a1 : Int) (a2 : Int) (R : List Value → World → Prop) (w : World) : compF Pg Try.f55 ⟨[], [], [(5, .l [(0, []), (1, []), (2, []), (3, []), (4, []), (5, []), (6, [2, 5, 0, 1, 3, 4]), (7, [])])], []⟩ [vS a0, .int .i64 a1, .int .i64 a2] R w = sh55 a0 a1 a2 R w := by kernel_rfl
theorem call55 {a0 : Sl} {a1 : Int} {a2 : Int} {w : World} {K : TK [kS] → World → Prop} (h : sh55 a0 a1 a2 (fun vs w' => ∃ t, encK [kS] t = vs ∧ K t w') w) : cl Pg 55 [vS a0, .int .i64 a1, .int .i64 a2] [kS] w K := cl_of Try.func55 (tie55 ..) h
/-- (*detent/por.Port).end -/
def sh36 (a0 : Option Addr) (a1 : Int) (R : List Value → World → Prop) (w : World) : Prop :=
 nn a0 fun b1 o2 =>
 ldS w b1 (o2 + 6) fun s3 =>
 cl Pg 55 [vS s3, .int .i64 a1, .int .i64 (w64 (a1 + 1))] [kS] w fun (r4 : Sl × Unit) w5 =>
 nn a0 fun b6 o7 =>
 st1 w5 b6 (o7 + 6) (vS r4.1) fun w8 =>
 R [] w8
theorem tie36 (a0 : Option Addr) (a1 : Int) (R : List Value → World → Prop) (w : World) : compF Pg Try.f36 ⟨[], [], [], []⟩ [.pointer a0, .int .i64 a1] R w = sh36 a0 a1 R w := by kernel_rfl
theorem call36 {a0 : Option Addr} {a1 : Int} {w : World} {K : TK [] → World → Prop} (h : sh36 a0 a1 (fun vs w' => ∃ t, encK [] t = vs ∧ K t w') w) : cl Pg 36 [.pointer a0, .int .i64 a1] [] w K := cl_of Try.func36 (tie36 ..) h
/-- (*detent/por.Port).Reply -/
def sh11 (a0 : Option Addr) (a1 : Int) (a2 : Sl) (R : List Value → World → Prop) (w : World) : Prop :=
 cl Pg 35 [.pointer a0, .int .i64 a1] [kI] w fun (r1 : Int × Unit) w2 =>
 cs (decide ((r1.1 : Int) < (0 : Int))) (
 R [.int .i64 0, .int .i64 (-41)] w2) (
 nn a0 fun b3 o4 =>
 ldI w2 .i64 b3 (o4 + 4) fun n5 =>
 cs (decide (((a2.len : Int) : Int) > (n5 : Int))) (
 R [.int .i64 0, .int .i64 (-17)] w2) (
 nn a0 fun b6 o7 =>
 ldS w2 b6 (o7 + 6) fun s8 =>
 ix s8 r1.1 3 fun b9 o10 =>
 ldI w2 .i64 b9 (o10 + 1) fun n11 =>
 cl Pg 36 [.pointer a0, .int .i64 r1.1] [] w2 fun (r12 : Unit) w13 =>
 R [.int .i64 n11, .int .i64 0] w13))
theorem tie11 (a0 : Option Addr) (a1 : Int) (a2 : Sl) (R : List Value → World → Prop) (w : World) : compF Pg Try.f11 ⟨[], [], [], []⟩ [.pointer a0, .int .i64 a1, vS a2] R w = sh11 a0 a1 a2 R w := by kernel_rfl
theorem call11 {a0 : Option Addr} {a1 : Int} {a2 : Sl} {w : World} {K : TK [kI, kI] → World → Prop} (h : sh11 a0 a1 a2 (fun vs w' => ∃ t, encK [kI, kI] t = vs ∧ K t w') w) : cl Pg 11 [.pointer a0, .int .i64 a1, vS a2] [kI, kI] w K := cl_of Try.func11 (tie11 ..) h
/-- slices.Clip[[]int,int] -/
def sh37 (a0 : Sl) (R : List Value → World → Prop) (w : World) : Prop :=
 sb a0 0 (a0.len : Int) (a0.len : Int) 1 fun s1 =>
 R [vS s1] w
theorem tie37 (a0 : Sl) (R : List Value → World → Prop) (w : World) : compF Pg Try.f37 ⟨[], [], [], []⟩ [vS a0] R w = sh37 a0 R w := by kernel_rfl
theorem call37 {a0 : Sl} {w : World} {K : TK [kS] → World → Prop} (h : sh37 a0 (fun vs w' => ∃ t, encK [kS] t = vs ∧ K t w') w) : cl Pg 37 [vS a0] [kS] w K := cl_of Try.func37 (tie37 ..) h
/-- (*detent/por.Port).Open -/
def sh12 (a0 : Option Addr) (R : List Value → World → Prop) (w : World) : Prop :=
 nn a0 fun b1 o2 =>
 ldS w b1 (o2 + 6) fun s3 =>
 lp [kS, kI] w (⟨none, 0, 0⟩, (0 : Int), ()) fun (t4 : Sl × Int × Unit) J5 w6 =>
 cs (decide ((t4.2.1 : Int) < ((s3.len : Int) : Int))) (
 ix s3 t4.2.1 3 fun b7 o8 =>
 ldI w6 .i64 b7 o8 fun n9 =>
 ldI w6 .i64 b7 (o8 + 1) fun n10 =>
 ldI w6 .i64 b7 (o8 + 2) fun n11 =>
 al w6 92 [.int .i64 0, .int .i64 0, .int .i64 0] fun b12 w13 =>
 st1 w13 b12 0 (.int .i64 n9) fun w14 =>
 st1 w14 b12 (0 + 1) (.int .i64 n10) fun w15 =>
 st1 w15 b12 (0 + 2) (.int .i64 n11) fun w16 =>
 ldI w16 .i64 b12 0 fun n17 =>
 al w16 3 [.int .i64 n17] fun b18 w19 =>
 ef Pg (Builtin.append_ #[36, 36] 36 #[vS t4.1, vS ⟨some ⟨b18, 0, none⟩, 1, 1⟩]) [kS] w19 fun (r20 : Sl × Unit) w21 =>
 J5 (r20.1, w64 (t4.2.1 + 1), ()) w21) (
 cl Pg 37 [vS t4.1] [kS] w6 fun (r22 : Sl × Unit) w23 =>
 R [vS r22.1] w23)
theorem tie12 (a0 : Option Addr) (R : List Value → World → Prop) (w : World) : compF Pg Try.f12 ⟨[(1, ⟨[(3, kS), (11, kI)], [5, 12, 13, 14, 15, 16, 17, 18, 19, 20]⟩)], [], [], []⟩ [.pointer a0] R w = sh12 a0 R w := by kernel_rfl
theorem call12 {a0 : Option Addr} {w : World} {K : TK [kS] → World → Prop} (h : sh12 a0 (fun vs w' => ∃ t, encK [kS] t = vs ∧ K t w') w) : cl Pg 12 [.pointer a0] [kS] w K := cl_of Try.func12 (tie12 ..) h
/-- (*detent/por.Port).Forward -/
def sh13 (a0 : Option Addr) (a1 : Int) (a2 : Option Addr) (a3 : Int) (a4 : Sl) (R : List Value → World → Prop) (w : World) : Prop :=
 al w 29 [.int .i64 0, .int .i64 0, .slice none 0 0, .bool false] fun b1 w2 =>
 cl Pg 35 [.pointer a0, .int .i64 a1] [kI] w2 fun (r3 : Int × Unit) w4 =>
 cs (decide ((r3.1 : Int) < (0 : Int))) (
 st1 w4 b1 0 (.int .i64 0) fun w5 =>
 st1 w5 b1 (0 + 1) (.int .i64 0) fun w6 =>
 st1 w6 b1 (0 + 2) (.slice none 0 0) fun w7 =>
 st1 w7 b1 (0 + 3) (.bool false) fun w8 =>
 ldI w8 .i64 b1 0 fun n9 =>
 ldI w8 .i64 b1 (0 + 1) fun n10 =>
 ldS w8 b1 (0 + 2) fun s11 =>
 ldB w8 b1 (0 + 3) fun b12 =>
 R [.agg #[.int .i64 n9, .int .i64 n10, vS s11, .bool b12], .int .i64 (-41)] w8) (
 jn [kB] w4 (fun (t14 : Bool × Unit) w15 =>
 jn [kB] w15 (fun (t18 : Bool × Unit) w19 =>
 cs t18.1 (
 st1 w19 b1 0 (.int .i64 0) fun w21 =>
 st1 w21 b1 (0 + 1) (.int .i64 0) fun w22 =>
 st1 w22 b1 (0 + 2) (.slice none 0 0) fun w23 =>
 st1 w23 b1 (0 + 3) (.bool false) fun w24 =>
 ldI w24 .i64 b1 0 fun n25 =>
 ldI w24 .i64 b1 (0 + 1) fun n26 =>
 ldS w24 b1 (0 + 2) fun s27 =>
 ldB w24 b1 (0 + 3) fun b28 =>
 R [.agg #[.int .i64 n25, .int .i64 n26, vS s27, .bool b28], .int .i64 (-17)] w24) (
 nn a0 fun b29 o30 =>
 ldS w19 b29 (o30 + 6) fun s31 =>
 ix s31 r3.1 3 fun b32 o33 =>
 ldI w19 .i64 b32 o33 fun n34 =>
 ldI w19 .i64 b32 (o33 + 1) fun n35 =>
 ldI w19 .i64 b32 (o33 + 2) fun n36 =>
 al w19 92 [.int .i64 0, .int .i64 0, .int .i64 0] fun b37 w38 =>
 st1 w38 b37 0 (.int .i64 n34) fun w39 =>
 st1 w39 b37 (0 + 1) (.int .i64 n35) fun w40 =>
 st1 w40 b37 (0 + 2) (.int .i64 n36) fun w41 =>
 pq Pg 23 a2 a0 w41 fun c42 =>
 jn [kB] w41 (fun (t44 : Bool × Unit) w45 =>
 cs t44.1 (
 st1 w45 b1 0 (.int .i64 0) fun w47 =>
 st1 w47 b1 (0 + 1) (.int .i64 0) fun w48 =>
 st1 w48 b1 (0 + 2) (.slice none 0 0) fun w49 =>
 st1 w49 b1 (0 + 3) (.bool false) fun w50 =>
 ldI w50 .i64 b1 0 fun n51 =>
 ldI w50 .i64 b1 (0 + 1) fun n52 =>
 ldS w50 b1 (0 + 2) fun s53 =>
 ldB w50 b1 (0 + 3) fun b54 =>
 R [.agg #[.int .i64 n51, .int .i64 n52, vS s53, .bool b54], .int .i64 (-41)] w50) (
 cl Pg 36 [.pointer a0, .int .i64 r3.1] [] w45 fun (r55 : Unit) w56 =>
 ldI w56 .i64 b37 (0 + 1) fun n57 =>
 ldI w56 .i64 b37 (0 + 2) fun n58 =>
 cl Pg 9 [.pointer a2, .int .i64 n57, .int .i64 n58, .int .u32 a3, vS a4] [.a [(.i .i64), (.i .i64), .s, .b], kI] w56 fun (r59 : (Int × Int × Sl × Bool × Unit) × Int × Unit) w60 =>
 st1 w60 b1 0 (.int .i64 r59.1.1) fun w61 =>
 st1 w61 b1 (0 + 1) (.int .i64 r59.1.2.1) fun w62 =>
 st1 w62 b1 (0 + 2) (vS r59.1.2.2.1) fun w63 =>
 st1 w63 b1 (0 + 3) (.bool r59.1.2.2.2.1) fun w65 =>
 ldI w65 .i64 b1 0 fun n66 =>
 ldI w65 .i64 b1 (0 + 1) fun n67 =>
 ldS w65 b1 (0 + 2) fun s68 =>
 ldB w65 b1 (0 + 3) fun b69 =>
 R [.agg #[.int .i64 n66, .int .i64 n67, vS s68, .bool b69], .int .i64 r59.2.1] w65)) fun J43 w46 =>
 cs (!c42) (
 ldI w46 .i64 b37 (0 + 1) fun n70 =>
 cl Pg 29 [.pointer a2, .int .i64 n70] [kB] w46 fun (r71 : Bool × Unit) w72 =>
 J43 (r71.1, ()) w72) (
 J43 (false, ()) w46))) fun J17 w20 =>
 cs t14.1 (
 J17 (true, ()) w20) (
 nn a2 fun b73 o74 =>
 ldI w20 .i64 b73 (o74 + 4) fun n75 =>
 J17 (decide (((a4.len : Int) : Int) > (n75 : Int)), ()) w20)) fun J13 w16 =>
 cs a2.isNone (
 J13 (true, ()) w16) (
 J13 ((a3 : Int) == (0 : Int), ()) w16))
theorem tie13 (a0 : Option Addr) (a1 : Int) (a2 : Option Addr) (a3 : Int) (a4 : Sl) (R : List Value → World → Prop) (w : World) : compF Pg Try.f13 ⟨[], [], [], [(4, [(3, 3, ⟨[(27, kB)], [25, 26]⟩), (7, 8, ⟨[(36, kB)], [29, 30, 31, 32, 33, 34, 35]⟩)]), (7, [(4, 5, ⟨[(53, kB)], [49, 50, 51, 52]⟩)])]⟩ [.pointer a0, .int .i64 a1, .pointer a2, .int .u32 a3, vS a4] R w = sh13 a0 a1 a2 a3 a4 R w := by kernel_rfl
theorem call13 {a0 : Option Addr} {a1 : Int} {a2 : Option Addr} {a3 : Int} {a4 : Sl} {w : World} {K : TK [.a [(.i .i64), (.i .i64), .s, .b], kI] → World → Prop} (h : sh13 a0 a1 a2 a3 a4 (fun vs w' => ∃ t, encK [.a [(.i .i64), (.i .i64), .s, .b], kI] t = vs ∧ K t w') w) : cl Pg 13 [.pointer a0, .int .i64 a1, .pointer a2, .int .u32 a3, vS a4] [.a [(.i .i64), (.i .i64), .s, .b], kI] w K := cl_of Try.func13 (tie13 ..) h
/-- detent/detentlaw17.known -/
def sh7  (R : List Value → World → Prop) (w : World) : Prop :=
 cl Pg 8 [.bool false, .int .i64 8] [kP, kI] w fun (r1 : Option Addr × Int × Unit) w2 =>
 cl Pg 8 [.bool false, .int .i64 8] [kP, kI] w2 fun (r3 : Option Addr × Int × Unit) w4 =>
 jn [kB] w4 (fun (t6 : Bool × Unit) w7 =>
 jn [kB] w7 (fun (t10 : Bool × Unit) w11 =>
 cs t10.1 (
 R [.bool false] w11) (
 al w11 5 [.int .u8 104, .int .u8 105] fun b13 w14 =>
 ef Pg (convert 27 27 (vS ⟨some ⟨b13, 0, none⟩, 2, 2⟩)) [kS] w14 fun (r15 : Sl × Unit) w16 =>
 cl Pg 9 [.pointer r1.1, .int .i64 1, .int .i64 5, .int .u32 3, vS r15.1] [.a [(.i .i64), (.i .i64), .s, .b], kI] w16 fun (r17 : (Int × Int × Sl × Bool × Unit) × Int × Unit) w18 =>
 al w18 29 [.int .i64 0, .int .i64 0, .slice none 0 0, .bool false] fun b19 w20 =>
 st1 w20 b19 0 (.int .i64 r17.1.1) fun w21 =>
 st1 w21 b19 (0 + 1) (.int .i64 r17.1.2.1) fun w22 =>
 st1 w22 b19 (0 + 2) (vS r17.1.2.2.1) fun w23 =>
 st1 w23 b19 (0 + 3) (.bool r17.1.2.2.2.1) fun w24 =>
 cl Pg 10 [.pointer r1.1, .int .i64 2, .int .i64 5, .int .u32 2] [.a [(.i .i64), (.i .i64), .s, .b], kI] w24 fun (r25 : (Int × Int × Sl × Bool × Unit) × Int × Unit) w26 =>
 al w26 29 [.int .i64 0, .int .i64 0, .slice none 0 0, .bool false] fun b27 w28 =>
 st1 w28 b27 0 (.int .i64 r25.1.1) fun w29 =>
 st1 w29 b27 (0 + 1) (.int .i64 r25.1.2.1) fun w30 =>
 st1 w30 b27 (0 + 2) (vS r25.1.2.2.1) fun w31 =>
 st1 w31 b27 (0 + 3) (.bool r25.1.2.2.2.1) fun w32 =>
 ldI w32 .i64 b27 0 fun n33 =>
 al w32 5 [.int .u8 111, .int .u8 110] fun b34 w35 =>
 ef Pg (convert 27 27 (vS ⟨some ⟨b34, 0, none⟩, 2, 2⟩)) [kS] w35 fun (r36 : Sl × Unit) w37 =>
 cl Pg 13 [.pointer r1.1, .int .i64 n33, .pointer r3.1, .int .u32 1, vS r36.1] [.a [(.i .i64), (.i .i64), .s, .b], kI] w37 fun (r38 : (Int × Int × Sl × Bool × Unit) × Int × Unit) w39 =>
 al w39 29 [.int .i64 0, .int .i64 0, .slice none 0 0, .bool false] fun b40 w41 =>
 st1 w41 b40 0 (.int .i64 r38.1.1) fun w42 =>
 st1 w42 b40 (0 + 1) (.int .i64 r38.1.2.1) fun w43 =>
 st1 w43 b40 (0 + 2) (vS r38.1.2.2.1) fun w44 =>
 st1 w44 b40 (0 + 3) (.bool r38.1.2.2.2.1) fun w45 =>
 cl Pg 10 [.pointer r3.1, .int .i64 3, .int .i64 5, .int .u32 1] [.a [(.i .i64), (.i .i64), .s, .b], kI] w45 fun (r46 : (Int × Int × Sl × Bool × Unit) × Int × Unit) w47 =>
 al w47 29 [.int .i64 0, .int .i64 0, .slice none 0 0, .bool false] fun b48 w49 =>
 st1 w49 b48 0 (.int .i64 r46.1.1) fun w50 =>
 st1 w50 b48 (0 + 1) (.int .i64 r46.1.2.1) fun w51 =>
 st1 w51 b48 (0 + 2) (vS r46.1.2.2.1) fun w52 =>
 st1 w52 b48 (0 + 3) (.bool r46.1.2.2.2.1) fun w53 =>
 ldI w53 .i64 b48 0 fun n54 =>
 cl Pg 11 [.pointer r3.1, .int .i64 n54, .slice none 0 0] [kI, kI] w53 fun (r55 : Int × Int × Unit) w56 =>
 ldI w56 .i64 b48 0 fun n57 =>
 cl Pg 11 [.pointer r3.1, .int .i64 n57, .slice none 0 0] [kI, kI] w56 fun (r58 : Int × Int × Unit) w59 =>
 jn [kB] w59 (fun (t61 : Bool × Unit) w62 =>
 jn [kB] w62 (fun (t65 : Bool × Unit) w66 =>
 jn [kB] w66 (fun (t69 : Bool × Unit) w70 =>
 jn [kB] w70 (fun (t73 : Bool × Unit) w74 =>
 jn [kB] w74 (fun (t77 : Bool × Unit) w78 =>
 jn [kB] w78 (fun (t81 : Bool × Unit) w82 =>
 jn [kB] w82 (fun (t85 : Bool × Unit) w86 =>
 jn [kB] w86 (fun (t89 : Bool × Unit) w90 =>
 jn [kB] w90 (fun (t93 : Bool × Unit) w94 =>
 jn [kB] w94 (fun (t97 : Bool × Unit) w98 =>
 jn [kB] w98 (fun (t101 : Bool × Unit) w102 =>
 R [.bool t101.1] w102) fun J100 w103 =>
 cs t97.1 (
 cl Pg 12 [.pointer r3.1] [kS] w103 fun (r104 : Sl × Unit) w105 =>
 J100 (((r104.1.len : Int) : Int) == (0 : Int), ()) w105) (
 J100 (false, ()) w103)) fun J96 w99 =>
 cs t93.1 (
 J96 ((r58.2.1 : Int) == ((-41) : Int), ()) w99) (
 J96 (false, ()) w99)) fun J92 w95 =>
 cs t89.1 (
 J92 ((r55.1 : Int) == (1 : Int), ()) w95) (
 J92 (false, ()) w95)) fun J88 w91 =>
 cs t85.1 (
 ldS w91 b48 (0 + 2) fun s106 =>
 tx Pg 27 9 (vS s106) w91 fun g107 =>
 J88 (g107.toList == (bs [111, 110]).toList, ()) w91) (
 J88 (false, ()) w91)) fun J84 w87 =>
 cs t81.1 (
 ldI w87 .i64 b48 (0 + 1) fun n108 =>
 J84 ((n108 : Int) == (1 : Int), ()) w87) (
 J84 (false, ()) w87)) fun J80 w83 =>
 cs t77.1 (
 ldB w83 b48 (0 + 3) fun b109 =>
 J80 (b109, ()) w83) (
 J80 (false, ()) w83)) fun J76 w79 =>
 cs t73.1 (
 ldB w79 b40 (0 + 3) fun b110 =>
 J76 (!b110, ()) w79) (
 J76 (false, ()) w79)) fun J72 w75 =>
 cs t69.1 (
 ldS w75 b27 (0 + 2) fun s111 =>
 tx Pg 27 9 (vS s111) w75 fun g112 =>
 J72 (g112.toList == (bs [104, 105]).toList, ()) w75) (
 J72 (false, ()) w75)) fun J68 w71 =>
 cs t65.1 (
 ldI w71 .i64 b27 (0 + 1) fun n113 =>
 J68 ((n113 : Int) == (1 : Int), ()) w71) (
 J68 (false, ()) w71)) fun J64 w67 =>
 cs t61.1 (
 ldB w67 b27 (0 + 3) fun b114 =>
 J64 (b114, ()) w67) (
 J64 (false, ()) w67)) fun J60 w63 =>
 cs ((w64 ((w64 ((w64 ((w64 (r17.2.1 + r25.2.1)) + r38.2.1)) + r46.2.1)) + r55.2.1) : Int) == (0 : Int)) (
 ldB w63 b19 (0 + 3) fun b115 =>
 J60 (!b115, ()) w63) (
 J60 (false, ()) w63))) fun J9 w12 =>
 cs t6.1 (
 J9 (true, ()) w12) (
 J9 (r3.1.isNone, ()) w12)) fun J5 w8 =>
 cs ((w64 (r1.2.1 + r3.2.1) : Int) != (0 : Int)) (
 J5 (true, ()) w8) (
 J5 (r1.1.isNone, ()) w8)
theorem tie7  (R : List Value → World → Prop) (w : World) : compF Pg Try.f7 ⟨[], [], [], [(3, [(5, 3, ⟨[(32, kB)], [30, 31]⟩), (9, 3, ⟨[(36, kB)], [34, 35]⟩)]), (11, [(11, 4, ⟨[(92, kB)], [89, 90, 91]⟩), (16, 3, ⟨[(96, kB)], [94, 95]⟩), (20, 4, ⟨[(101, kB)], [98, 99, 100]⟩), (25, 5, ⟨[(107, kB)], [103, 104, 105, 106]⟩), (31, 4, ⟨[(112, kB)], [109, 110, 111]⟩), (36, 3, ⟨[(116, kB)], [114, 115]⟩), (40, 4, ⟨[(121, kB)], [118, 119, 120]⟩), (45, 5, ⟨[(127, kB)], [123, 124, 125, 126]⟩), (51, 3, ⟨[(131, kB)], [129, 130]⟩), (55, 3, ⟨[(135, kB)], [133, 134]⟩), (59, 5, ⟨[(141, kB)], [137, 138, 139, 140]⟩)])]⟩ [] R w = sh7  R w := by kernel_rfl
theorem call7  {w : World} {K : TK [kB] → World → Prop} (h : sh7  (fun vs w' => ∃ t, encK [kB] t = vs ∧ K t w') w) : cl Pg 7 [] [kB] w K := cl_of Try.func7 (tie7 ..) h
/-- detent/detentlaw17.PortOnce -/
def sh3 (a0 : Int) (R : List Value → World → Prop) (w : World) : Prop :=
 cl Pg 7 [] [kB] w fun (r1 : Bool × Unit) w2 =>
 cs (!r1.1) (
 R [.bool false] w2) (
 jn [kB] w2 (fun (t4 : Bool × Unit) w5 =>
 cs t4.1 (
 R [.bool true] w5) (
 cl Pg 8 [.bool false, .int .i64 8] [kP, kI] w5 fun (r7 : Option Addr × Int × Unit) w8 =>
 lp [kI] w8 ((1 : Int), ()) fun (t9 : Int × Unit) J10 w11 =>
 cs (decide ((t9.1 : Int) ≤ (a0 : Int))) (
 al w11 5 [.int .u8 (IntKind.u8.wrap (t9.1))] fun b12 w13 =>
 cl Pg 9 [.pointer r7.1, .int .i64 1, .int .i64 1, .int .u32 1, vS ⟨some ⟨b12, 0, none⟩, 1, 1⟩] [.a [(.i .i64), (.i .i64), .s, .b], kI] w13 fun (r14 : (Int × Int × Sl × Bool × Unit) × Int × Unit) w15 =>
 cl Pg 10 [.pointer r7.1, .int .i64 2, .int .i64 1, .int .u32 1] [.a [(.i .i64), (.i .i64), .s, .b], kI] w15 fun (r16 : (Int × Int × Sl × Bool × Unit) × Int × Unit) w17 =>
 al w17 29 [.int .i64 0, .int .i64 0, .slice none 0 0, .bool false] fun b18 w19 =>
 st1 w19 b18 0 (.int .i64 r16.1.1) fun w20 =>
 st1 w20 b18 (0 + 1) (.int .i64 r16.1.2.1) fun w21 =>
 st1 w21 b18 (0 + 2) (vS r16.1.2.2.1) fun w22 =>
 st1 w22 b18 (0 + 3) (.bool r16.1.2.2.2.1) fun w23 =>
 ldB w23 b18 (0 + 3) fun b24 =>
 jn [kB] w23 (fun (t26 : Bool × Unit) w27 =>
 jn [kB] w27 (fun (t30 : Bool × Unit) w31 =>
 jn [kB] w31 (fun (t34 : Bool × Unit) w35 =>
 jn [kB] w35 (fun (t38 : Bool × Unit) w39 =>
 cs t38.1 (
 R [.bool false] w39) (
 cl Pg 11 [.pointer r7.1, .int .i64 t9.1, .slice none 0 0] [kI, kI] w39 fun (r41 : Int × Int × Unit) w42 =>
 cl Pg 11 [.pointer r7.1, .int .i64 t9.1, .slice none 0 0] [kI, kI] w42 fun (r43 : Int × Int × Unit) w44 =>
 jn [kB] w44 (fun (t46 : Bool × Unit) w47 =>
 jn [kB] w47 (fun (t50 : Bool × Unit) w51 =>
 cs t50.1 (
 R [.bool false] w51) (
 J10 (w64 (t9.1 + 1), ()) w51)) fun J49 w52 =>
 cs t46.1 (
 J49 (true, ()) w52) (
 J49 ((r43.2.1 : Int) != ((-41) : Int), ()) w52)) fun J45 w48 =>
 cs ((r41.1 : Int) != (1 : Int)) (
 J45 (true, ()) w48) (
 J45 ((r41.2.1 : Int) != (0 : Int), ()) w48))) fun J37 w40 =>
 cs t34.1 (
 J37 (true, ()) w40) (
 J37 ((r16.2.1 : Int) != (0 : Int), ()) w40)) fun J33 w36 =>
 cs t30.1 (
 J33 (true, ()) w36) (
 ldS w36 b18 (0 + 2) fun s53 =>
 tx Pg 27 9 (vS s53) w36 fun g54 =>
 al w36 5 [.int .u8 (IntKind.u8.wrap (t9.1))] fun b55 w56 =>
 tx Pg 27 9 (vS ⟨some ⟨b55, 0, none⟩, 1, 1⟩) w56 fun g57 =>
 J33 (!(g54.toList == g57.toList), ()) w56)) fun J29 w32 =>
 cs t26.1 (
 J29 (true, ()) w32) (
 ldI w32 .i64 b18 (0 + 1) fun n58 =>
 J29 ((n58 : Int) != (1 : Int), ()) w32)) fun J25 w28 =>
 cs (!b24) (
 J25 (true, ()) w28) (
 ldI w28 .i64 b18 0 fun n59 =>
 J25 ((n59 : Int) != (t9.1 : Int), ()) w28)) (
 cl Pg 12 [.pointer r7.1] [kS] w11 fun (r60 : Sl × Unit) w61 =>
 R [.bool (((r60.1.len : Int) : Int) == (0 : Int))] w61))) fun J3 w6 =>
 cs (decide ((a0 : Int) < (1 : Int))) (
 J3 (true, ()) w6) (
 J3 (decide ((a0 : Int) > (60 : Int)), ()) w6))
theorem tie3 (a0 : Int) (R : List Value → World → Prop) (w : World) : compF Pg Try.f3 ⟨[(3, ⟨[(5, kI)], [2, 6, 7, 8, 9, 10, 11, 24, 25, 26, 27, 28, 29, 30, 31, 32, 33, 34, 35, 36, 37, 38, 39, 40, 41, 42, 43, 44, 45, 46, 47, 48, 49, 50, 51, 52, 53, 54, 55, 56, 57, 58, 59, 60, 61, 62, 63, 64, 65, 66, 67, 68, 69, 70, 71, 72, 73, 74, 75, 76, 77, 78, 79, 80, 81, 82, 83, 84, 85, 86, 87, 88]⟩)], [], [], [(3, [(3, 3, ⟨[(19, kB)], [17, 18]⟩)]), (11, [(4, 5, ⟨[(47, kB)], [43, 44, 45, 46]⟩), (10, 4, ⟨[(52, kB)], [49, 50, 51]⟩), (15, 9, ⟨[(62, kB)], [54, 55, 56, 57, 58, 59, 60, 61]⟩), (25, 3, ⟨[(66, kB)], [64, 65]⟩)]), (15, [(3, 3, ⟨[(84, kB)], [82, 83]⟩), (7, 3, ⟨[(88, kB)], [86, 87]⟩)])]⟩ [.int .i64 a0] R w = sh3 a0 R w := by kernel_rfl
theorem call3 {a0 : Int} {w : World} {K : TK [kB] → World → Prop} (h : sh3 a0 (fun vs w' => ∃ t, encK [kB] t = vs ∧ K t w') w) : cl Pg 3 [.int .i64 a0] [kB] w K := cl_of Try.func3 (tie3 ..) h
/-- detent/detentlaw17.PortForwards -/
def sh4 (a0 : Sl) (R : List Value → World → Prop) (w : World) : Prop :=
 cl Pg 7 [] [kB] w fun (r1 : Bool × Unit) w2 =>
 cs (!r1.1) (
 R [.bool false] w2) (
 jn [kB] w2 (fun (t4 : Bool × Unit) w5 =>
 cs t4.1 (
 R [.bool true] w5) (
 lp [kS, kI] w5 (⟨none, 0, 0⟩, (0 : Int), ()) fun (t7 : Sl × Int × Unit) J8 w9 =>
 cs (decide ((t7.2.1 : Int) < ((a0.len : Int) : Int))) (
 ix a0 t7.2.1 1 fun b10 o11 =>
 ldS w9 b10 o11 fun s12 =>
 cs (decide (((s12.len : Int) : Int) > (20 : Int))) (
 R [.bool true] w9) (
 cl Pg 8 [.bool false, .int .i64 20] [kP, kI] w9 fun (r13 : Option Addr × Int × Unit) w14 =>
 al w14 23 [.pointer r13.1] fun b15 w16 =>
 ef Pg (Builtin.append_ #[40, 40] 40 #[vS t7.1, vS ⟨some ⟨b15, 0, none⟩, 1, 1⟩]) [kS] w16 fun (r17 : Sl × Unit) w18 =>
 J8 (r17.1, w64 (t7.2.1 + 1), ()) w18)) (
 dr w9 fun w19 =>
 ix t7.1 0 1 fun b20 o21 =>
 ldP w19 b20 o21 fun p22 =>
 ix a0 0 1 fun b23 o24 =>
 ldS w19 b23 o24 fun s25 =>
(
 cl Pg 9 [.pointer p22, .int .i64 1, .int .i64 4, .int .u32 1, vS s25] [.a [(.i .i64), (.i .i64), .s, .b], kI] w19 fun (r26 : (Int × Int × Sl × Bool × Unit) × Int × Unit) w27 =>
 al w27 29 [.int .i64 0, .int .i64 0, .slice none 0 0, .bool false] fun b28 w29 =>
(w29.cell? ⟨b23, o24, none⟩ = some (vS s25)) ∧ (
(w29.cell? ⟨b20, o21, none⟩ = some (.pointer p22)) ∧ (
 st1 w29 b28 0 (.int .i64 r26.1.1) fun w30 =>
 st1 w30 b28 (0 + 1) (.int .i64 r26.1.2.1) fun w31 =>
 st1 w31 b28 (0 + 2) (vS r26.1.2.2.1) fun w32 =>
 st1 w32 b28 (0 + 3) (.bool r26.1.2.2.2.1) fun w33 =>
 ldB w33 b28 (0 + 3) fun b34 =>
 jn [kB] w33 (fun (t36 : Bool × Unit) w37 =>
 cs t36.1 (
 R [.bool false] w37) (
 lp [kI] w37 ((0 : Int), ()) fun (t39 : Int × Unit) J40 w41 =>
 cs (decide ((t39.1 : Int) < ((a0.len : Int) : Int))) (
 ix t7.1 t39.1 1 fun b42 o43 =>
 ldP w41 b42 o43 fun p44 =>
 cl Pg 10 [.pointer p44, .int .i64 2, .int .i64 1, .int .u32 1] [.a [(.i .i64), (.i .i64), .s, .b], kI] w41 fun (r45 : (Int × Int × Sl × Bool × Unit) × Int × Unit) w46 =>
 al w46 29 [.int .i64 0, .int .i64 0, .slice none 0 0, .bool false] fun b47 w48 =>
 st1 w48 b47 0 (.int .i64 r45.1.1) fun w49 =>
 st1 w49 b47 (0 + 1) (.int .i64 r45.1.2.1) fun w50 =>
 st1 w50 b47 (0 + 2) (vS r45.1.2.2.1) fun w51 =>
 st1 w51 b47 (0 + 3) (.bool r45.1.2.2.2.1) fun w52 =>
 dr w52 fun w53 =>
 jn [kB] w53 (fun (t55 : Bool × Unit) w56 =>
 cs t55.1 (
 R [.bool false] w56) (
 cs ((w64 (t39.1 + 1) : Int) == ((a0.len : Int) : Int)) (
 dr w56 fun w58 =>
 ix t7.1 t39.1 1 fun b59 o60 =>
 ldP w58 b59 o60 fun p61 =>
 ldI w58 .i64 b47 0 fun n62 =>
 cl Pg 11 [.pointer p61, .int .i64 n62, .slice none 0 0] [kI, kI] w58 fun (r63 : Int × Int × Unit) w65 =>
 jn [kB] w65 (fun (t67 : Bool × Unit) w68 =>
 R [.bool t67.1] w68) fun J66 w69 =>
 cs ((r63.1 : Int) == (1 : Int)) (
 J66 ((r63.2.1 : Int) == (0 : Int), ()) w69) (
 J66 (false, ()) w69)) (
 dr w56 fun w70 =>
 ix t7.1 t39.1 1 fun b71 o72 =>
 ldP w70 b71 o72 fun p73 =>
 ldI w70 .i64 b47 0 fun n74 =>
 ix t7.1 (w64 (t39.1 + 1)) 1 fun b75 o76 =>
 ldP w70 b75 o76 fun p77 =>
 ix a0 (w64 (t39.1 + 1)) 1 fun b78 o79 =>
 ldS w70 b78 o79 fun s80 =>
(
 cl Pg 13 [.pointer p73, .int .i64 n74, .pointer p77, .int .u32 1, vS s80] [.a [(.i .i64), (.i .i64), .s, .b], kI] w70 fun (r81 : (Int × Int × Sl × Bool × Unit) × Int × Unit) w82 =>
 al w82 29 [.int .i64 0, .int .i64 0, .slice none 0 0, .bool false] fun b83 w84 =>
(w84.cell? ⟨b78, o79, none⟩ = some (vS s80)) ∧ (
(w84.cell? ⟨b75, o76, none⟩ = some (.pointer p77)) ∧ (
(w84.cell? ⟨b47, 0, none⟩ = some (.int .i64 n74)) ∧ (
(w84.cell? ⟨b71, o72, none⟩ = some (.pointer p73)) ∧ (
 st1 w84 b83 0 (.int .i64 r81.1.1) fun w85 =>
 st1 w85 b83 (0 + 1) (.int .i64 r81.1.2.1) fun w86 =>
 st1 w86 b83 (0 + 2) (vS r81.1.2.2.1) fun w87 =>
 st1 w87 b83 (0 + 3) (.bool r81.1.2.2.2.1) fun w88 =>
 ldB w88 b83 (0 + 3) fun b89 =>
 jn [kB] w88 (fun (t91 : Bool × Unit) w92 =>
 jn [kB] w92 (fun (t95 : Bool × Unit) w96 =>
 cs t95.1 (
 R [.bool false] w96) (
 J40 (w64 (t39.1 + 1), ()) w96)) fun J94 w97 =>
 cs t91.1 (
 J94 (true, ()) w97) (
 ix t7.1 t39.1 1 fun b98 o99 =>
 ldP w97 b98 o99 fun p100 =>
 cl Pg 12 [.pointer p100] [kS] w97 fun (r101 : Sl × Unit) w102 =>
 J94 (((r101.1.len : Int) : Int) != (0 : Int), ()) w102)) fun J90 w93 =>
 cs b89 (
 J90 (true, ()) w93) (
 J90 ((r81.2.1 : Int) != (0 : Int), ()) w93)))))) ∧ (
 al w70 29 [.int .i64 0, .int .i64 0, .slice none 0 0, .bool false] fun b103 w104 =>
(w104.cell? ⟨b78, o79, none⟩ = some (vS s80)) ∧ (
(w104.cell? ⟨b75, o76, none⟩ = some (.pointer p77)) ∧ (
(w104.cell? ⟨b47, 0, none⟩ = some (.int .i64 n74)) ∧ (
(w104.cell? ⟨b71, o72, none⟩ = some (.pointer p73)) ∧ (
 cl Pg 13 [.pointer p73, .int .i64 n74, .pointer p77, .int .u32 1, vS s80] [.a [(.i .i64), (.i .i64), .s, .b], kI] w104 fun (r105 : (Int × Int × Sl × Bool × Unit) × Int × Unit) w106 =>
 st1 w106 b103 0 (.int .i64 r105.1.1) fun w107 =>
 st1 w107 b103 (0 + 1) (.int .i64 r105.1.2.1) fun w108 =>
 st1 w108 b103 (0 + 2) (vS r105.1.2.2.1) fun w109 =>
 st1 w109 b103 (0 + 3) (.bool r105.1.2.2.2.1) fun w110 =>
 ldB w110 b103 (0 + 3) fun b111 =>
 jn [kB] w110 (fun (t113 : Bool × Unit) w114 =>
 jn [kB] w114 (fun (t117 : Bool × Unit) w118 =>
 cs t117.1 (
 R [.bool false] w118) (
 J40 (w64 (t39.1 + 1), ()) w118)) fun J116 w119 =>
 cs t113.1 (
 J116 (true, ()) w119) (
 ix t7.1 t39.1 1 fun b120 o121 =>
 ldP w119 b120 o121 fun p122 =>
 cl Pg 12 [.pointer p122] [kS] w119 fun (r123 : Sl × Unit) w124 =>
 J116 (((r123.1.len : Int) : Int) != (0 : Int), ()) w124)) fun J112 w115 =>
 cs b111 (
 J112 (true, ()) w115) (
 J112 ((r105.2.1 : Int) != (0 : Int), ()) w115))))))))) fun J54 w57 =>
 ldB w57 b47 (0 + 3) fun b125 =>
 cs (!b125) (
 J54 (true, ()) w57) (
 ldI w57 .i64 b47 (0 + 1) fun n126 =>
 cs ((n126 : Int) != (1 : Int)) (
 J54 (true, ()) w57) (
 ldS w57 b47 (0 + 2) fun s127 =>
 tx Pg 27 9 (vS s127) w57 fun g128 =>
 ix a0 t39.1 1 fun b129 o130 =>
 ldS w57 b129 o130 fun s131 =>
 tx Pg 27 9 (vS s131) w57 fun g132 =>
 cs (!(g128.toList == g132.toList)) (
 J54 (true, ()) w57) (
 J54 ((r45.2.1 : Int) != (0 : Int), ()) w57)))) (
 R [.bool false] w41))) fun J35 w38 =>
 cs b34 (
 J35 (true, ()) w38) (
 J35 ((r26.2.1 : Int) != (0 : Int), ()) w38)))) ∧ (
 al w19 29 [.int .i64 0, .int .i64 0, .slice none 0 0, .bool false] fun b133 w134 =>
(w134.cell? ⟨b23, o24, none⟩ = some (vS s25)) ∧ (
(w134.cell? ⟨b20, o21, none⟩ = some (.pointer p22)) ∧ (
 cl Pg 9 [.pointer p22, .int .i64 1, .int .i64 4, .int .u32 1, vS s25] [.a [(.i .i64), (.i .i64), .s, .b], kI] w134 fun (r135 : (Int × Int × Sl × Bool × Unit) × Int × Unit) w136 =>
 st1 w136 b133 0 (.int .i64 r135.1.1) fun w137 =>
 st1 w137 b133 (0 + 1) (.int .i64 r135.1.2.1) fun w138 =>
 st1 w138 b133 (0 + 2) (vS r135.1.2.2.1) fun w139 =>
 st1 w139 b133 (0 + 3) (.bool r135.1.2.2.2.1) fun w140 =>
 ldB w140 b133 (0 + 3) fun b141 =>
 jn [kB] w140 (fun (t143 : Bool × Unit) w144 =>
 cs t143.1 (
 R [.bool false] w144) (
 lp [kI] w144 ((0 : Int), ()) fun (t146 : Int × Unit) J147 w148 =>
 cs (decide ((t146.1 : Int) < ((a0.len : Int) : Int))) (
 ix t7.1 t146.1 1 fun b149 o150 =>
 ldP w148 b149 o150 fun p151 =>
 cl Pg 10 [.pointer p151, .int .i64 2, .int .i64 1, .int .u32 1] [.a [(.i .i64), (.i .i64), .s, .b], kI] w148 fun (r152 : (Int × Int × Sl × Bool × Unit) × Int × Unit) w153 =>
 al w153 29 [.int .i64 0, .int .i64 0, .slice none 0 0, .bool false] fun b154 w155 =>
 st1 w155 b154 0 (.int .i64 r152.1.1) fun w156 =>
 st1 w156 b154 (0 + 1) (.int .i64 r152.1.2.1) fun w157 =>
 st1 w157 b154 (0 + 2) (vS r152.1.2.2.1) fun w158 =>
 st1 w158 b154 (0 + 3) (.bool r152.1.2.2.2.1) fun w159 =>
 dr w159 fun w160 =>
 jn [kB] w160 (fun (t162 : Bool × Unit) w163 =>
 cs t162.1 (
 R [.bool false] w163) (
 cs ((w64 (t146.1 + 1) : Int) == ((a0.len : Int) : Int)) (
 dr w163 fun w165 =>
 ix t7.1 t146.1 1 fun b166 o167 =>
 ldP w165 b166 o167 fun p168 =>
 ldI w165 .i64 b154 0 fun n169 =>
 cl Pg 11 [.pointer p168, .int .i64 n169, .slice none 0 0] [kI, kI] w165 fun (r170 : Int × Int × Unit) w171 =>
 jn [kB] w171 (fun (t173 : Bool × Unit) w174 =>
 R [.bool t173.1] w174) fun J172 w175 =>
 cs ((r170.1 : Int) == (1 : Int)) (
 J172 ((r170.2.1 : Int) == (0 : Int), ()) w175) (
 J172 (false, ()) w175)) (
 dr w163 fun w176 =>
 ix t7.1 t146.1 1 fun b177 o178 =>
 ldP w176 b177 o178 fun p179 =>
 ldI w176 .i64 b154 0 fun n180 =>
 ix t7.1 (w64 (t146.1 + 1)) 1 fun b181 o182 =>
 ldP w176 b181 o182 fun p183 =>
 ix a0 (w64 (t146.1 + 1)) 1 fun b184 o185 =>
 ldS w176 b184 o185 fun s186 =>
(
 cl Pg 13 [.pointer p179, .int .i64 n180, .pointer p183, .int .u32 1, vS s186] [.a [(.i .i64), (.i .i64), .s, .b], kI] w176 fun (r187 : (Int × Int × Sl × Bool × Unit) × Int × Unit) w188 =>
 al w188 29 [.int .i64 0, .int .i64 0, .slice none 0 0, .bool false] fun b189 w190 =>
(w190.cell? ⟨b184, o185, none⟩ = some (vS s186)) ∧ (
(w190.cell? ⟨b181, o182, none⟩ = some (.pointer p183)) ∧ (
(w190.cell? ⟨b154, 0, none⟩ = some (.int .i64 n180)) ∧ (
(w190.cell? ⟨b177, o178, none⟩ = some (.pointer p179)) ∧ (
 st1 w190 b189 0 (.int .i64 r187.1.1) fun w191 =>
 st1 w191 b189 (0 + 1) (.int .i64 r187.1.2.1) fun w192 =>
 st1 w192 b189 (0 + 2) (vS r187.1.2.2.1) fun w193 =>
 st1 w193 b189 (0 + 3) (.bool r187.1.2.2.2.1) fun w194 =>
 ldB w194 b189 (0 + 3) fun b195 =>
 jn [kB] w194 (fun (t197 : Bool × Unit) w198 =>
 jn [kB] w198 (fun (t201 : Bool × Unit) w202 =>
 cs t201.1 (
 R [.bool false] w202) (
 J147 (w64 (t146.1 + 1), ()) w202)) fun J200 w203 =>
 cs t197.1 (
 J200 (true, ()) w203) (
 ix t7.1 t146.1 1 fun b204 o205 =>
 ldP w203 b204 o205 fun p206 =>
 cl Pg 12 [.pointer p206] [kS] w203 fun (r207 : Sl × Unit) w208 =>
 J200 (((r207.1.len : Int) : Int) != (0 : Int), ()) w208)) fun J196 w199 =>
 cs b195 (
 J196 (true, ()) w199) (
 J196 ((r187.2.1 : Int) != (0 : Int), ()) w199)))))) ∧ (
 al w176 29 [.int .i64 0, .int .i64 0, .slice none 0 0, .bool false] fun b209 w210 =>
(w210.cell? ⟨b184, o185, none⟩ = some (vS s186)) ∧ (
(w210.cell? ⟨b181, o182, none⟩ = some (.pointer p183)) ∧ (
(w210.cell? ⟨b154, 0, none⟩ = some (.int .i64 n180)) ∧ (
(w210.cell? ⟨b177, o178, none⟩ = some (.pointer p179)) ∧ (
 cl Pg 13 [.pointer p179, .int .i64 n180, .pointer p183, .int .u32 1, vS s186] [.a [(.i .i64), (.i .i64), .s, .b], kI] w210 fun (r211 : (Int × Int × Sl × Bool × Unit) × Int × Unit) w212 =>
 st1 w212 b209 0 (.int .i64 r211.1.1) fun w213 =>
 st1 w213 b209 (0 + 1) (.int .i64 r211.1.2.1) fun w214 =>
 st1 w214 b209 (0 + 2) (vS r211.1.2.2.1) fun w215 =>
 st1 w215 b209 (0 + 3) (.bool r211.1.2.2.2.1) fun w216 =>
 ldB w216 b209 (0 + 3) fun b217 =>
 jn [kB] w216 (fun (t219 : Bool × Unit) w220 =>
 jn [kB] w220 (fun (t223 : Bool × Unit) w224 =>
 cs t223.1 (
 R [.bool false] w224) (
 J147 (w64 (t146.1 + 1), ()) w224)) fun J222 w225 =>
 cs t219.1 (
 J222 (true, ()) w225) (
 ix t7.1 t146.1 1 fun b226 o227 =>
 ldP w225 b226 o227 fun p228 =>
 cl Pg 12 [.pointer p228] [kS] w225 fun (r229 : Sl × Unit) w230 =>
 J222 (((r229.1.len : Int) : Int) != (0 : Int), ()) w230)) fun J218 w221 =>
 cs b217 (
 J218 (true, ()) w221) (
 J218 ((r211.2.1 : Int) != (0 : Int), ()) w221))))))))) fun J161 w164 =>
 ldB w164 b154 (0 + 3) fun b231 =>
 cs (!b231) (
 J161 (true, ()) w164) (
 ldI w164 .i64 b154 (0 + 1) fun n232 =>
 cs ((n232 : Int) != (1 : Int)) (
 J161 (true, ()) w164) (
 ldS w164 b154 (0 + 2) fun s233 =>
 tx Pg 27 9 (vS s233) w164 fun g234 =>
 ix a0 t146.1 1 fun b235 o236 =>
 ldS w164 b235 o236 fun s237 =>
 tx Pg 27 9 (vS s237) w164 fun g238 =>
 cs (!(g234.toList == g238.toList)) (
 J161 (true, ()) w164) (
 J161 ((r152.2.1 : Int) != (0 : Int), ()) w164)))) (
 R [.bool false] w148))) fun J142 w145 =>
 cs b141 (
 J142 (true, ()) w145) (
 J142 ((r135.2.1 : Int) != (0 : Int), ()) w145))))))) fun J3 w6 =>
 cs (((a0.len : Int) : Int) == (0 : Int)) (
 J3 (true, ()) w6) (
 J3 (decide (((a0.len : Int) : Int) > (8 : Int)), ()) w6))
theorem tie4 (a0 : Sl) (R : List Value → World → Prop) (w : World) : compF Pg Try.f4 ⟨[(3, ⟨[(3, kS), (4, kI)], [2, 5, 6, 26, 27, 28, 29, 30, 31, 32, 33, 34, 35, 36, 37, 38, 39, 40, 41, 42, 43, 44, 45]⟩), (9, ⟨[(9, kI)], [2, 10, 11, 12, 13, 14, 15, 62, 63, 64, 65, 66, 67, 68, 69, 70, 71, 72, 73, 74, 75, 76, 77, 78, 79, 80, 81, 82, 83, 84, 85, 86, 87, 88, 89, 90, 91, 92, 93, 94, 95, 96, 97, 98, 99, 100, 101, 102, 103, 104, 105, 106, 107, 108, 109, 110, 111, 112, 113, 114, 115, 116, 117, 118, 119, 120, 121, 122, 123, 124, 125, 126, 127, 128, 129, 130, 131, 132, 133, 134, 135, 136, 137, 138, 139, 140, 141, 142, 143, 144, 145, 146, 147, 148, 149, 150, 151, 152, 153, 154]⟩)], [(20, ⟨[(98, kB)], [76, 77, 78, 79, 80, 81, 82, 83, 84, 85, 86, 87, 88, 89, 90, 91, 92, 93, 94, 95, 96, 97]⟩)], [(13, .t [(0, []), (1, []), (2, []), (3, []), (4, []), (5, [])] 6 [2, 5, 1, 4, 0, 3] (.l [(7, []), (8, []), (9, []), (10, []), (11, [10, 8, 6, 0, 1, 2, 3, 4, 5, 7]), (12, [])]) 10 [] (.l [(6, [2, 5, 1, 4, 0, 3]), (7, []), (8, []), (9, []), (11, [10, 8, 6, 0, 1, 2, 3, 4, 5, 7]), (12, [])])), (20, .l [(0, []), (1, []), (2, []), (3, []), (4, []), (5, []), (6, []), (7, []), (8, []), (9, []), (10, []), (11, []), (12, []), (13, []), (14, []), (15, []), (16, []), (17, []), (18, []), (19, []), (20, []), (21, []), (22, [])]), (23, .l [(0, []), (1, []), (2, []), (3, []), (4, []), (5, []), (6, [3, 5, 2, 4, 0, 1]), (7, []), (8, []), (9, []), (10, []), (11, [])]), (25, .t [(0, []), (1, []), (2, []), (3, []), (4, []), (5, []), (6, []), (7, []), (8, []), (9, []), (10, []), (11, []), (12, []), (13, []), (14, []), (15, [])] 16 [3, 5, 10, 15, 2, 4, 9, 14, 0, 1, 6, 8, 11, 13, 7, 12] (.l [(17, []), (18, []), (19, []), (20, []), (21, [20, 18, 16, 0, 1, 2, 3, 4, 5, 6, 7, 8, 9, 10, 11, 12, 13, 14, 15, 17]), (22, [])]) 20 [] (.l [(16, [3, 5, 10, 15, 2, 4, 9, 14, 0, 1, 6, 8, 11, 13, 7, 12]), (17, []), (18, []), (19, []), (21, [20, 18, 16, 0, 1, 2, 3, 4, 5, 6, 7, 8, 9, 10, 11, 12, 13, 14, 15, 17]), (22, [])]))], [(3, [(4, 4, ⟨[(25, kB)], [22, 23, 24]⟩)]), (14, [(3, 3, ⟨[(61, kB)], [59, 60]⟩)]), (24, [(3, 3, ⟨[(119, kB)], [117, 118]⟩)]), (26, [(3, 3, ⟨[(145, kB)], [143, 144]⟩), (7, 8, ⟨[(154, kB)], [147, 148, 149, 150, 151, 152, 153]⟩)])]⟩ [vS a0] R w = sh4 a0 R w := by kernel_rfl
theorem call4 {a0 : Sl} {w : World} {K : TK [kB] → World → Prop} (h : sh4 a0 (fun vs w' => ∃ t, encK [kB] t = vs ∧ K t w') w) : cl Pg 4 [vS a0] [kB] w K := cl_of Try.func4 (tie4 ..) h
/-- (detent/por.line).ids -/
def sh38 (a0 : (Option Addr × Option Nat × Unit)) (R : List Value → World → Prop) (w : World) : Prop :=
 al w 73 [.pointer a0.1, .map a0.2.1] fun b1 w2 =>
 ldP w2 b1 0 fun p3 =>
 nn p3 fun b4 o5 =>
 cl Pg 52 [.pointer (some ⟨b4, o5, none⟩)] [kS] w2 fun (r6 : Sl × Unit) w7 =>
 lp [kS, kI] w7 (⟨none, 0, 0⟩, (0 : Int), ()) fun (t8 : Sl × Int × Unit) J9 w10 =>
 cs (decide ((t8.2.1 : Int) < ((r6.1.len : Int) : Int))) (
 ix r6.1 t8.2.1 2 fun b11 o12 =>
 ldI w10 .i64 b11 o12 fun n13 =>
 ldI w10 .i64 b11 (o12 + 1) fun n14 =>
 al w10 83 [.int .i64 0, .int .i64 0] fun b15 w16 =>
 st1 w16 b15 0 (.int .i64 n13) fun w17 =>
 st1 w17 b15 (0 + 1) (.int .i64 n14) fun w18 =>
 ldI w18 .i64 b15 0 fun n19 =>
 al w18 3 [.int .i64 n19] fun b20 w21 =>
 ef Pg (Builtin.append_ #[36, 36] 36 #[vS t8.1, vS ⟨some ⟨b20, 0, none⟩, 1, 1⟩]) [kS] w21 fun (r22 : Sl × Unit) w23 =>
 J9 (r22.1, w64 (t8.2.1 + 1), ()) w23) (
 cl Pg 37 [vS t8.1] [kS] w10 fun (r24 : Sl × Unit) w25 =>
 R [vS r24.1] w25)
theorem tie38 (a0 : (Option Addr × Option Nat × Unit)) (R : List Value → World → Prop) (w : World) : compF Pg Try.f38 ⟨[(1, ⟨[(3, kS), (12, kI)], [5, 13, 14, 15, 16, 17, 18, 19, 20, 21]⟩)], [], [], []⟩ [.agg #[.pointer a0.1, .map a0.2.1]] R w = sh38 a0 R w := by kernel_rfl
theorem call38 {a0 : (Option Addr × Option Nat × Unit)} {w : World} {K : TK [kS] → World → Prop} (h : sh38 a0 (fun vs w' => ∃ t, encK [kS] t = vs ∧ K t w') w) : cl Pg 38 [.agg #[.pointer a0.1, .map a0.2.1]] [kS] w K := cl_of Try.func38 (tie38 ..) h
/-- (*detent/por.Port).Acceptors -/
def sh14 (a0 : Option Addr) (R : List Value → World → Prop) (w : World) : Prop :=
 nn a0 fun b1 o2 =>
 ldP w b1 (o2 + 2) fun p3 =>
 ldM w b1 (o2 + 2 + 1) fun m4 =>
 cl Pg 38 [.agg #[.pointer p3, .map m4]] [kS] w fun (r5 : Sl × Unit) w6 =>
 R [vS r5.1] w6
theorem tie14 (a0 : Option Addr) (R : List Value → World → Prop) (w : World) : compF Pg Try.f14 ⟨[], [], [], []⟩ [.pointer a0] R w = sh14 a0 R w := by kernel_rfl
theorem call14 {a0 : Option Addr} {w : World} {K : TK [kS] → World → Prop} (h : sh14 a0 (fun vs w' => ∃ t, encK [kS] t = vs ∧ K t w') w) : cl Pg 14 [.pointer a0] [kS] w K := cl_of Try.func14 (tie14 ..) h
/-- (*detent/por.Port).Callers -/
def sh15 (a0 : Option Addr) (R : List Value → World → Prop) (w : World) : Prop :=
 nn a0 fun b1 o2 =>
 ldP w b1 o2 fun p3 =>
 ldM w b1 (o2 + 1) fun m4 =>
 cl Pg 38 [.agg #[.pointer p3, .map m4]] [kS] w fun (r5 : Sl × Unit) w6 =>
 R [vS r5.1] w6
theorem tie15 (a0 : Option Addr) (R : List Value → World → Prop) (w : World) : compF Pg Try.f15 ⟨[], [], [], []⟩ [.pointer a0] R w = sh15 a0 R w := by kernel_rfl
theorem call15 {a0 : Option Addr} {w : World} {K : TK [kS] → World → Prop} (h : sh15 a0 (fun vs w' => ∃ t, encK [kS] t = vs ∧ K t w') w) : cl Pg 15 [.pointer a0] [kS] w K := cl_of Try.func15 (tie15 ..) h
/-- detent/detentlaw17.PortMeets -/
def sh5 (a0 : Sl) (a1 : Int) (R : List Value → World → Prop) (w : World) : Prop :=
 cl Pg 7 [] [kB] w fun (r1 : Bool × Unit) w2 =>
 cs (!r1.1) (
 R [.bool false] w2) (
 jn [kB] w2 (fun (t4 : Bool × Unit) w5 =>
 cs t4.1 (
 R [.bool true] w5) (
 cl Pg 8 [.bool false, .int .i64 8] [kP, kI] w5 fun (r7 : Option Addr × Int × Unit) w8 =>
 lp [kI, kI] w8 ((0 : Int), (0 : Int), ()) fun (t9 : Int × Int × Unit) J10 w11 =>
 cs (decide ((t9.2.1 : Int) < ((a0.len : Int) : Int))) (
 ix a0 t9.2.1 1 fun b12 o13 =>
 ldI w11 .u8 b12 o13 fun n14 =>
 cs ((n14 : Int) == (0 : Int)) (
 R [.bool true] w11) (
 dr w11 fun w15 =>
 ix a0 t9.2.1 1 fun b16 o17 =>
 ldI w15 .u8 b16 o17 fun n18 =>
 ix a0 t9.2.1 1 fun b19 o20 =>
 ldI w15 .u8 b19 o20 fun n21 =>
(
 al w15 5 [.int .u8 n21] fun b22 w23 =>
(w23.cell? ⟨b16, o17, none⟩ = some (.int .u8 n18)) ∧ (
(
 cl Pg 9 [.pointer r7.1, .int .i64 (w64 (t9.2.1 + 1)), .int .i64 1, .int .u32 (IntKind.u32.wrap (n18)), vS ⟨some ⟨b22, 0, none⟩, 1, 1⟩] [.a [(.i .i64), (.i .i64), .s, .b], kI] w23 fun (r24 : (Int × Int × Sl × Bool × Unit) × Int × Unit) w25 =>
 al w25 29 [.int .i64 0, .int .i64 0, .slice none 0 0, .bool false] fun b26 w27 =>
(w27.cell? ⟨b19, o20, none⟩ = some (.int .u8 n21)) ∧ (
(w27.cell? ⟨b16, o17, none⟩ = some (.int .u8 n18)) ∧ (
 st1 w27 b26 0 (.int .i64 r24.1.1) fun w28 =>
 st1 w28 b26 (0 + 1) (.int .i64 r24.1.2.1) fun w29 =>
 st1 w29 b26 (0 + 2) (vS r24.1.2.2.1) fun w30 =>
 st1 w30 b26 (0 + 3) (.bool r24.1.2.2.2.1) fun w31 =>
 ldB w31 b26 (0 + 3) fun b32 =>
 jn [kB] w31 (fun (t34 : Bool × Unit) w35 =>
 cs t34.1 (
 R [.bool false] w35) (
 jn [kB] w35 (fun (t38 : Bool × Unit) w39 =>
 cs t38.1 (
 J10 (w64 (t9.2.1 + 1), w64 (t9.2.1 + 1), ()) w39) (
 J10 (t9.1, w64 (t9.2.1 + 1), ()) w39)) fun J37 w40 =>
 cs ((t9.1 : Int) == (0 : Int)) (
 ix a0 t9.2.1 1 fun b41 o42 =>
 ldI w40 .u8 b41 o42 fun n43 =>
 J37 ((bAnd .u8 n43 a1 : Int) != (0 : Int), ()) w40) (
 J37 (false, ()) w40))) fun J33 w36 =>
 cs b32 (
 J33 (true, ()) w36) (
 J33 ((r24.2.1 : Int) != (0 : Int), ()) w36)))) ∧ (
 al w23 29 [.int .i64 0, .int .i64 0, .slice none 0 0, .bool false] fun b44 w45 =>
(w45.cell? ⟨b19, o20, none⟩ = some (.int .u8 n21)) ∧ (
(w45.cell? ⟨b16, o17, none⟩ = some (.int .u8 n18)) ∧ (
 cl Pg 9 [.pointer r7.1, .int .i64 (w64 (t9.2.1 + 1)), .int .i64 1, .int .u32 (IntKind.u32.wrap (n18)), vS ⟨some ⟨b22, 0, none⟩, 1, 1⟩] [.a [(.i .i64), (.i .i64), .s, .b], kI] w45 fun (r46 : (Int × Int × Sl × Bool × Unit) × Int × Unit) w47 =>
 st1 w47 b44 0 (.int .i64 r46.1.1) fun w48 =>
 st1 w48 b44 (0 + 1) (.int .i64 r46.1.2.1) fun w49 =>
 st1 w49 b44 (0 + 2) (vS r46.1.2.2.1) fun w50 =>
 st1 w50 b44 (0 + 3) (.bool r46.1.2.2.2.1) fun w51 =>
 ldB w51 b44 (0 + 3) fun b52 =>
 jn [kB] w51 (fun (t54 : Bool × Unit) w55 =>
 cs t54.1 (
 R [.bool false] w55) (
 jn [kB] w55 (fun (t58 : Bool × Unit) w59 =>
 cs t58.1 (
 J10 (w64 (t9.2.1 + 1), w64 (t9.2.1 + 1), ()) w59) (
 J10 (t9.1, w64 (t9.2.1 + 1), ()) w59)) fun J57 w60 =>
 cs ((t9.1 : Int) == (0 : Int)) (
 ix a0 t9.2.1 1 fun b61 o62 =>
 ldI w60 .u8 b61 o62 fun n63 =>
 J57 ((bAnd .u8 n63 a1 : Int) != (0 : Int), ()) w60) (
 J57 (false, ()) w60))) fun J53 w56 =>
 cs b52 (
 J53 (true, ()) w56) (
 J53 ((r46.2.1 : Int) != (0 : Int), ()) w56)))))) ∧ (
 al w15 29 [.int .i64 0, .int .i64 0, .slice none 0 0, .bool false] fun b64 w65 =>
(w65.cell? ⟨b19, o20, none⟩ = some (.int .u8 n21)) ∧ (
(w65.cell? ⟨b16, o17, none⟩ = some (.int .u8 n18)) ∧ (
 al w65 5 [.int .u8 n21] fun b66 w67 =>
(w67.cell? ⟨b16, o17, none⟩ = some (.int .u8 n18)) ∧ (
 cl Pg 9 [.pointer r7.1, .int .i64 (w64 (t9.2.1 + 1)), .int .i64 1, .int .u32 (IntKind.u32.wrap (n18)), vS ⟨some ⟨b66, 0, none⟩, 1, 1⟩] [.a [(.i .i64), (.i .i64), .s, .b], kI] w67 fun (r68 : (Int × Int × Sl × Bool × Unit) × Int × Unit) w69 =>
 st1 w69 b64 0 (.int .i64 r68.1.1) fun w70 =>
 st1 w70 b64 (0 + 1) (.int .i64 r68.1.2.1) fun w71 =>
 st1 w71 b64 (0 + 2) (vS r68.1.2.2.1) fun w72 =>
 st1 w72 b64 (0 + 3) (.bool r68.1.2.2.2.1) fun w73 =>
 ldB w73 b64 (0 + 3) fun b74 =>
 jn [kB] w73 (fun (t76 : Bool × Unit) w77 =>
 cs t76.1 (
 R [.bool false] w77) (
 jn [kB] w77 (fun (t80 : Bool × Unit) w81 =>
 cs t80.1 (
 J10 (w64 (t9.2.1 + 1), w64 (t9.2.1 + 1), ()) w81) (
 J10 (t9.1, w64 (t9.2.1 + 1), ()) w81)) fun J79 w82 =>
 cs ((t9.1 : Int) == (0 : Int)) (
 ix a0 t9.2.1 1 fun b83 o84 =>
 ldI w82 .u8 b83 o84 fun n85 =>
 J79 ((bAnd .u8 n85 a1 : Int) != (0 : Int), ()) w82) (
 J79 (false, ()) w82))) fun J75 w78 =>
 cs b74 (
 J75 (true, ()) w78) (
 J75 ((r68.2.1 : Int) != (0 : Int), ()) w78))))))) (
 cl Pg 10 [.pointer r7.1, .int .i64 16, .int .i64 1, .int .u32 (IntKind.u32.wrap (a1))] [.a [(.i .i64), (.i .i64), .s, .b], kI] w11 fun (r86 : (Int × Int × Sl × Bool × Unit) × Int × Unit) w87 =>
 al w87 29 [.int .i64 0, .int .i64 0, .slice none 0 0, .bool false] fun b88 w89 =>
 st1 w89 b88 0 (.int .i64 r86.1.1) fun w90 =>
 st1 w90 b88 (0 + 1) (.int .i64 r86.1.2.1) fun w91 =>
 st1 w91 b88 (0 + 2) (vS r86.1.2.2.1) fun w92 =>
 st1 w92 b88 (0 + 3) (.bool r86.1.2.2.2.1) fun w93 =>
 jn [kB] w93 (fun (t95 : Bool × Unit) w96 =>
 cs t95.1 (
 R [.bool false] w96) (
 ldB w96 b88 (0 + 3) fun b98 =>
 cs (!b98) (
 cl Pg 14 [.pointer r7.1] [kS] w96 fun (r99 : Sl × Unit) w100 =>
 jn [kB] w100 (fun (t102 : Bool × Unit) w103 =>
 R [.bool t102.1] w103) fun J101 w104 =>
 cs (((r99.1.len : Int) : Int) == (1 : Int)) (
 cl Pg 15 [.pointer r7.1] [kS] w104 fun (r105 : Sl × Unit) w106 =>
 J101 (((r105.1.len : Int) : Int) == ((a0.len : Int) : Int), ()) w106) (
 J101 (false, ()) w104)) (
 dr w96 fun w107 =>
 jn [kB] w107 (fun (t109 : Bool × Unit) w110 =>
 R [.bool t109.1] w110) fun J108 w111 =>
 ldI w111 .i64 b88 (0 + 1) fun n112 =>
 cs ((n112 : Int) == (t9.1 : Int)) (
 ldS w111 b88 (0 + 2) fun s113 =>
 cs (((s113.len : Int) : Int) == (1 : Int)) (
 ldS w111 b88 (0 + 2) fun s114 =>
 ix s114 0 1 fun b115 o116 =>
 ldI w111 .u8 b115 o116 fun n117 =>
 ix a0 (w64 (t9.1 - 1)) 1 fun b118 o119 =>
 ldI w111 .u8 b118 o119 fun n120 =>
 cs ((n117 : Int) == (n120 : Int)) (
 cl Pg 15 [.pointer r7.1] [kS] w111 fun (r121 : Sl × Unit) w122 =>
 cs (((r121.1.len : Int) : Int) == (w64 ((a0.len : Int) - 1) : Int)) (
 cl Pg 12 [.pointer r7.1] [kS] w122 fun (r123 : Sl × Unit) w124 =>
 J108 (((r123.1.len : Int) : Int) == (1 : Int), ()) w124) (
 J108 (false, ()) w122)) (
 J108 (false, ()) w111)) (
 J108 (false, ()) w111)) (
 J108 (false, ()) w111)))) fun J94 w97 =>
 cs ((r86.2.1 : Int) != (0 : Int)) (
 J94 (true, ()) w97) (
 ldB w97 b88 (0 + 3) fun b125 =>
 J94 (!(b125 == (decide ((t9.1 : Int) > (0 : Int)))), ()) w97)))) fun J3 w6 =>
 cs (decide (((a0.len : Int) : Int) > (15 : Int))) (
 J3 (true, ()) w6) (
 J3 ((a1 : Int) == (0 : Int), ()) w6))
theorem tie5 (a0 : Sl) (a1 : Int) (R : List Value → World → Prop) (w : World) : compF Pg Try.f5 ⟨[(3, ⟨[(7, kI), (8, kI)], [4, 9, 10, 26, 27, 28, 29, 30, 31, 32, 33, 34, 35, 36, 37, 38, 39, 40, 41, 42, 43, 44, 45, 46, 47, 48, 49, 50, 51, 52, 53, 54, 55, 56, 57, 58, 59, 60, 61, 62, 63, 64, 65, 66, 67, 68, 69, 70, 71, 72]⟩)], [(22, ⟨[(4, kB)], [104, 105, 106, 107, 108, 109, 110, 111, 112, 113, 114, 115, 116, 117, 118, 119, 120, 121, 122, 123, 124, 125, 126, 127, 128, 129, 130, 131, 132, 133, 134, 135, 136, 137, 138, 139, 140]⟩)], [(12, .t [(0, []), (1, []), (2, []), (3, []), (4, []), (5, []), (6, []), (7, []), (8, []), (9, []), (10, []), (11, [])] 12 [11, 10, 8, 9] (.t [] 13 [0, 2, 7, 12, 1, 6, 11, 5, 10, 3, 4, 8, 9] (.l [(14, []), (15, []), (16, []), (17, []), (18, [17, 15, 13, 0, 1, 2, 3, 4, 5, 6, 7, 8, 9, 10, 11, 12, 14]), (19, [])]) 17 [] (.l [(13, [0, 2, 7, 12, 1, 6, 11, 5, 10, 3, 4, 8, 9]), (14, []), (15, []), (16, []), (18, [17, 15, 13, 0, 1, 2, 3, 4, 5, 6, 7, 8, 9, 10, 11, 12, 14]), (19, [])])) 17 [] (.l [(12, [11, 10, 8, 9]), (13, [0, 2, 7, 12, 1, 6, 11, 5, 10, 3, 4, 8, 9]), (14, []), (15, []), (16, []), (18, [17, 15, 13, 0, 1, 2, 3, 4, 5, 6, 7, 8, 9, 10, 11, 12, 14]), (19, [])])), (22, .l [(0, []), (1, []), (2, []), (3, []), (4, []), (5, []), (6, []), (7, []), (8, []), (9, []), (10, []), (11, []), (12, []), (13, []), (14, []), (15, []), (16, []), (17, []), (18, []), (19, []), (20, []), (21, []), (22, []), (23, []), (26, []), (27, []), (28, []), (24, [23, 22, 21, 10, 20, 9, 4, 14, 19, 8, 3, 13, 18, 7, 1, 2, 12, 15, 17, 6, 0, 11, 16, 5]), (25, []), (29, []), (30, []), (31, []), (32, []), (33, [32, 31, 30, 24, 22, 29, 23, 21, 10, 25, 28, 20, 9, 4, 27, 14, 19, 8, 3, 26, 13, 18, 7, 1, 2, 12, 15, 17, 6, 0, 11, 16, 5]), (34, []), (35, []), (36, []), (37, [])])], [(3, [(4, 3, ⟨[(21, kB)], [19, 20]⟩)]), (13, [(3, 3, ⟨[(59, kB)], [57, 58]⟩)]), (15, [(3, 8, ⟨[(70, kB)], [63, 64, 65, 66, 67, 68, 69]⟩)]), (18, [(3, 6, ⟨[(88, kB)], [83, 84, 85, 86, 87]⟩)]), (21, [(5, 7, ⟨[(103, kB)], [97, 98, 99, 100, 101, 102]⟩)])]⟩ [vS a0, .int .u8 a1] R w = sh5 a0 a1 R w := by kernel_rfl
theorem call5 {a0 : Sl} {a1 : Int} {w : World} {K : TK [kB] → World → Prop} (h : sh5 a0 a1 (fun vs w' => ∃ t, encK [kB] t = vs ∧ K t w') w) : cl Pg 5 [vS a0, .int .u8 a1] [kB] w K := cl_of Try.func5 (tie5 ..) h
/-- detent/detentref17.New -/
def sh16 (a0 : Bool) (a1 : Int) (R : List Value → World → Prop) (w : World) : Prop :=
 jn [kB] w (fun (t2 : Bool × Unit) w3 =>
 cs t2.1 (
 R [.pointer none, .int .i64 (-17)] w3) (
 al w3 97 [.bool a0, .slice none 0 0] fun b5 w6 =>
 al w6 97 [.bool false, .slice none 0 0] fun b7 w8 =>
 al w8 67 [.pointer (some ⟨b5, 0, none⟩), .pointer (some ⟨b7, 0, none⟩), .int .u32 0, .int .u32 0, .int .u32 0, .int .u32 0, .int .u32 0, .int .u32 0, .int .u32 0, .int .u32 0, .int .u32 0, .int .u32 0, .int .u32 0, .int .u32 0, .int .u32 0, .int .u32 0, .int .u32 0, .int .u32 0, .int .u32 0, .string ByteArray.empty, .string ByteArray.empty, .string ByteArray.empty, .string ByteArray.empty, .string ByteArray.empty, .string ByteArray.empty, .string ByteArray.empty, .string ByteArray.empty, .string ByteArray.empty, .string ByteArray.empty, .string ByteArray.empty, .string ByteArray.empty, .string ByteArray.empty, .string ByteArray.empty, .string ByteArray.empty, .string ByteArray.empty, .string ByteArray.empty, .slice none 0 0, .int .i64 0, .int .i64 a1] fun b9 w10 =>
 R [.pointer (some ⟨b9, 0, none⟩), .int .i64 0] w10)) fun J1 w4 =>
 cs (decide ((a1 : Int) < (0 : Int))) (
 J1 (true, ()) w4) (
 J1 (decide ((a1 : Int) > (1024 : Int)), ()) w4)
theorem tie16 (a0 : Bool) (a1 : Int) (R : List Value → World → Prop) (w : World) : compF Pg Try.f16 ⟨[], [], [], [(1, [(3, 3, ⟨[(11, kB)], [9, 10]⟩)])]⟩ [.bool a0, .int .i64 a1] R w = sh16 a0 a1 R w := by kernel_rfl
theorem call16 {a0 : Bool} {a1 : Int} {w : World} {K : TK [kP, kI] → World → Prop} (h : sh16 a0 a1 (fun vs w' => ∃ t, encK [kP, kI] t = vs ∧ K t w') w) : cl Pg 16 [.bool a0, .int .i64 a1] [kP, kI] w K := cl_of Try.func16 (tie16 ..) h
/-- detent/detentref4.Good -/
def sh39 (a0 : Int) (a1 : Int) (R : List Value → World → Prop) (w : World) : Prop :=
 jn [kB] w (fun (t2 : Bool × Unit) w3 =>
 jn [kB] w3 (fun (t6 : Bool × Unit) w7 =>
 jn [kB] w7 (fun (t10 : Bool × Unit) w11 =>
 R [.bool t10.1] w11) fun J9 w12 =>
 cs t6.1 (
 J9 (decide ((a1 : Int) ≤ (16 : Int)), ()) w12) (
 J9 (false, ()) w12)) fun J5 w8 =>
 cs t2.1 (
 J5 (decide ((a1 : Int) ≥ (1 : Int)), ()) w8) (
 J5 (false, ()) w8)) fun J1 w4 =>
 cs (decide ((a0 : Int) ≥ (1 : Int))) (
 J1 (decide ((a0 : Int) ≤ (16 : Int)), ()) w4) (
 J1 (false, ()) w4)
theorem tie39 (a0 : Int) (a1 : Int) (R : List Value → World → Prop) (w : World) : compF Pg Try.f39 ⟨[], [], [], [(1, [(3, 3, ⟨[(10, kB)], [8, 9]⟩), (7, 3, ⟨[(14, kB)], [12, 13]⟩), (11, 3, ⟨[(18, kB)], [16, 17]⟩)])]⟩ [.int .i64 a0, .int .i64 a1] R w = sh39 a0 a1 R w := by kernel_rfl
theorem call39 {a0 : Int} {a1 : Int} {w : World} {K : TK [kB] → World → Prop} (h : sh39 a0 a1 (fun vs w' => ∃ t, encK [kB] t = vs ∧ K t w') w) : cl Pg 39 [.int .i64 a0, .int .i64 a1] [kB] w K := cl_of Try.func39 (tie39 ..) h
/-- (*detent/detentref4.Queue).At -/
def sh56 (a0 : Option Addr) (a1 : Int) (R : List Value → World → Prop) (w : World) : Prop :=
 lp [kI] w ((0 : Int), ()) fun (t1 : Int × Unit) J2 w3 =>
 nn a0 fun b4 o5 =>
 ldS w3 b4 (o5 + 1) fun s6 =>
 cs (decide ((t1.1 : Int) < ((s6.len : Int) : Int))) (
 nn a0 fun b7 o8 =>
 ldS w3 b7 (o8 + 1) fun s9 =>
 ix s9 t1.1 2 fun b10 o11 =>
 ldI w3 .i64 b10 o11 fun n12 =>
 cs ((n12 : Int) == (a1 : Int)) (
 R [.int .i64 t1.1] w3) (
 J2 (w64 (t1.1 + 1), ()) w3)) (
 R [.int .i64 (-1)] w3)
theorem tie56 (a0 : Option Addr) (a1 : Int) (R : List Value → World → Prop) (w : World) : compF Pg Try.f56 ⟨[(1, ⟨[(5, kI)], [4, 6, 7, 8, 9, 10, 11, 12, 13, 14, 15, 16, 17, 18, 19, 20, 21, 22, 23, 24, 25]⟩)], [], [], []⟩ [.pointer a0, .int .i64 a1] R w = sh56 a0 a1 R w := by kernel_rfl
theorem call56 {a0 : Option Addr} {a1 : Int} {w : World} {K : TK [kI] → World → Prop} (h : sh56 a0 a1 (fun vs w' => ∃ t, encK [kI] t = vs ∧ K t w') w) : cl Pg 56 [.pointer a0, .int .i64 a1] [kI] w K := cl_of Try.func56 (tie56 ..) h
/-- (*detent/detentref17.Port).In -/
def sh40 (a0 : Option Addr) (a1 : Int) (R : List Value → World → Prop) (w : World) : Prop :=
 lp [kI] w ((0 : Int), ()) fun (t1 : Int × Unit) J2 w3 =>
 nn a0 fun b4 o5 =>
 ldS w3 b4 (o5 + 36) fun s6 =>
 cs (decide ((t1.1 : Int) < ((s6.len : Int) : Int))) (
 nn a0 fun b7 o8 =>
 ldS w3 b7 (o8 + 36) fun s9 =>
 ix s9 t1.1 3 fun b10 o11 =>
 ldI w3 .i64 b10 (o11 + 1) fun n12 =>
 cs ((n12 : Int) == (a1 : Int)) (
 R [.bool true] w3) (
 J2 (w64 (t1.1 + 1), ()) w3)) (
 nn a0 fun b13 o14 =>
 ldP w3 b13 o14 fun p15 =>
 cl Pg 56 [.pointer p15, .int .i64 a1] [kI] w3 fun (r16 : Int × Unit) w17 =>
 jn [kB] w17 (fun (t19 : Bool × Unit) w20 =>
 R [.bool t19.1] w20) fun J18 w21 =>
 cs (decide ((r16.1 : Int) ≥ (0 : Int))) (
 J18 (true, ()) w21) (
 nn a0 fun b22 o23 =>
 ldP w21 b22 (o23 + 1) fun p24 =>
 cl Pg 56 [.pointer p24, .int .i64 a1] [kI] w21 fun (r25 : Int × Unit) w26 =>
 J18 (decide ((r25.1 : Int) ≥ (0 : Int)), ()) w26))
theorem tie40 (a0 : Option Addr) (a1 : Int) (R : List Value → World → Prop) (w : World) : compF Pg Try.f40 ⟨[(1, ⟨[(5, kI)], [4, 6, 7, 8, 9, 10, 11, 12, 13, 14, 15, 16, 17, 18, 19, 20, 21, 22, 23, 24]⟩)], [], [], [(6, [(8, 8, ⟨[(40, kB)], [33, 34, 35, 36, 37, 38, 39]⟩)])]⟩ [.pointer a0, .int .i64 a1] R w = sh40 a0 a1 R w := by kernel_rfl
theorem call40 {a0 : Option Addr} {a1 : Int} {w : World} {K : TK [kB] → World → Prop} (h : sh40 a0 a1 (fun vs w' => ∃ t, encK [kB] t = vs ∧ K t w') w) : cl Pg 40 [.pointer a0, .int .i64 a1] [kB] w K := cl_of Try.func40 (tie40 ..) h
/-- (*detent/detentref4.Queue).Remove -/
def sh41 (a0 : Option Addr) (a1 : Int) (R : List Value → World → Prop) (w : World) : Prop :=
 cl Pg 56 [.pointer a0, .int .i64 a1] [kI] w fun (r1 : Int × Unit) w2 =>
 cs (decide ((r1.1 : Int) < (0 : Int))) (
 R [.bool false] w2) (
 al w2 98 [] fun b3 w4 =>
 nn a0 fun b5 o6 =>
 ldS w4 b5 (o6 + 1) fun s7 =>
 sb s7 0 r1.1 s7.cap 2 fun s8 =>
 ef Pg (Builtin.append_ #[95, 95] 95 #[vS ⟨some ⟨b3, 0, none⟩, 0, 0⟩, vS s8]) [kS] w4 fun (r9 : Sl × Unit) w10 =>
 nn a0 fun b11 o12 =>
 ldS w10 b11 (o12 + 1) fun s13 =>
 sb s13 (w64 (r1.1 + 1)) s13.len s13.cap 2 fun s14 =>
 ef Pg (Builtin.append_ #[95, 95] 95 #[vS r9.1, vS s14]) [kS] w10 fun (r15 : Sl × Unit) w16 =>
 nn a0 fun b17 o18 =>
 st1 w16 b17 (o18 + 1) (vS r15.1) fun w19 =>
 R [.bool true] w19)
theorem tie41 (a0 : Option Addr) (a1 : Int) (R : List Value → World → Prop) (w : World) : compF Pg Try.f41 ⟨[], [], [], []⟩ [.pointer a0, .int .i64 a1] R w = sh41 a0 a1 R w := by kernel_rfl
theorem call41 {a0 : Option Addr} {a1 : Int} {w : World} {K : TK [kB] → World → Prop} (h : sh41 a0 a1 (fun vs w' => ∃ t, encK [kB] t = vs ∧ K t w') w) : cl Pg 41 [.pointer a0, .int .i64 a1] [kB] w K := cl_of Try.func41 (tie41 ..) h
/-- (*detent/detentref17.Port).meet -/
def sh42 (a0 : Option Addr) (a1 : Int) (a2 : Int) (R : List Value → World → Prop) (w : World) : Prop :=
 nn a0 fun b1 o2 =>
 ldI w .i64 b1 (o2 + 37) fun n3 =>
 nn a0 fun b4 o5 =>
 st1 w b4 (o5 + 37) (.int .i64 (w64 (n3 + 1))) fun w6 =>
 dr w6 fun w7 =>
 nn a0 fun b8 o9 =>
 ldS w7 b8 (o9 + 36) fun s10 =>
 nn a0 fun b11 o12 =>
 ldI w7 .i64 b11 (o12 + 37) fun n13 =>
(
 al w7 100 [] fun b14 w15 =>
(w15.cell? ⟨b11, o12 + 37, none⟩ = some (.int .i64 n13)) ∧ (
(w15.cell? ⟨b8, o9 + 36, none⟩ = some (vS s10)) ∧ (
(
 ef Pg (Builtin.append_ #[65, 65] 65 #[vS ⟨some ⟨b14, 0, none⟩, 0, 0⟩, vS s10]) [kS] w15 fun (r16 : Sl × Unit) w17 =>
(w17.cell? ⟨b11, o12 + 37, none⟩ = some (.int .i64 n13)) ∧ (
 al w17 100 [.int .i64 n13, .int .i64 a1, .int .i64 a2] fun b18 w19 =>
(w19.cell? ⟨b8, o9 + 36, none⟩ = some (vS s10)) ∧ (
 ef Pg (Builtin.append_ #[65, 65] 65 #[vS r16.1, vS ⟨some ⟨b18, 0, none⟩, 1, 1⟩]) [kS] w19 fun (r20 : Sl × Unit) w21 =>
 nn a0 fun b22 o23 =>
 st1 w21 b22 (o23 + 36) (vS r20.1) fun w24 =>
 nn a0 fun b25 o26 =>
 ldI w24 .i64 b25 (o26 + 37) fun n27 =>
 R [.int .i64 n27] w24))) ∧ (
 al w15 100 [.int .i64 n13, .int .i64 a1, .int .i64 a2] fun b28 w29 =>
(w29.cell? ⟨b8, o9 + 36, none⟩ = some (vS s10)) ∧ (
 ef Pg (Builtin.append_ #[65, 65] 65 #[vS ⟨some ⟨b14, 0, none⟩, 0, 0⟩, vS s10]) [kS] w29 fun (r30 : Sl × Unit) w31 =>
(w31.cell? ⟨b11, o12 + 37, none⟩ = some (.int .i64 n13)) ∧ (
 ef Pg (Builtin.append_ #[65, 65] 65 #[vS r30.1, vS ⟨some ⟨b28, 0, none⟩, 1, 1⟩]) [kS] w31 fun (r32 : Sl × Unit) w33 =>
 nn a0 fun b34 o35 =>
 st1 w33 b34 (o35 + 36) (vS r32.1) fun w36 =>
 nn a0 fun b37 o38 =>
 ldI w36 .i64 b37 (o38 + 37) fun n39 =>
 R [.int .i64 n39] w36)))))) ∧ (
 al w7 100 [.int .i64 n13, .int .i64 a1, .int .i64 a2] fun b40 w41 =>
(w41.cell? ⟨b8, o9 + 36, none⟩ = some (vS s10)) ∧ (
 al w41 100 [] fun b42 w43 =>
(w43.cell? ⟨b11, o12 + 37, none⟩ = some (.int .i64 n13)) ∧ (
(w43.cell? ⟨b8, o9 + 36, none⟩ = some (vS s10)) ∧ (
 ef Pg (Builtin.append_ #[65, 65] 65 #[vS ⟨some ⟨b42, 0, none⟩, 0, 0⟩, vS s10]) [kS] w43 fun (r44 : Sl × Unit) w45 =>
(w45.cell? ⟨b11, o12 + 37, none⟩ = some (.int .i64 n13)) ∧ (
 ef Pg (Builtin.append_ #[65, 65] 65 #[vS r44.1, vS ⟨some ⟨b40, 0, none⟩, 1, 1⟩]) [kS] w45 fun (r46 : Sl × Unit) w47 =>
 nn a0 fun b48 o49 =>
 st1 w47 b48 (o49 + 36) (vS r46.1) fun w50 =>
 nn a0 fun b51 o52 =>
 ldI w50 .i64 b51 (o52 + 37) fun n53 =>
 R [.int .i64 n53] w50)))))
theorem tie42 (a0 : Option Addr) (a1 : Int) (a2 : Int) (R : List Value → World → Prop) (w : World) : compF Pg Try.f42 ⟨[], [], [(2, .t [(0, []), (2, []), (3, []), (4, []), (5, []), (7, []), (8, []), (9, []), (10, []), (11, []), (12, []), (13, [])] 1 [] (.t [] 6 [1, 5, 4, 3, 2] (.l [(14, [13, 10, 11, 12, 9, 8, 7]), (15, [6, 14, 1, 5, 13, 4, 10, 11, 12, 3, 9, 2, 8, 7]), (16, []), (17, []), (18, [17, 15, 0, 1, 2, 3, 4, 5, 6, 7, 8, 9, 10, 11, 12, 13, 14, 16])]) 14 [13, 10, 11, 12, 9, 8, 7] (.l [(6, [1, 5, 4, 3, 2]), (15, [6, 14, 1, 5, 13, 4, 10, 11, 12, 3, 9, 2, 8, 7]), (16, []), (17, []), (18, [17, 15, 0, 1, 2, 3, 4, 5, 6, 7, 8, 9, 10, 11, 12, 13, 14, 16])])) 14 [13, 10, 11, 12, 9, 8, 7] (.l [(1, []), (6, [1, 5, 4, 3, 2]), (15, [6, 14, 1, 5, 13, 4, 10, 11, 12, 3, 9, 2, 8, 7]), (16, []), (17, []), (18, [17, 15, 0, 1, 2, 3, 4, 5, 6, 7, 8, 9, 10, 11, 12, 13, 14, 16])]))], []⟩ [.pointer a0, .int .i64 a1, .int .i64 a2] R w = sh42 a0 a1 a2 R w := by kernel_rfl
theorem call42 {a0 : Option Addr} {a1 : Int} {a2 : Int} {w : World} {K : TK [kI] → World → Prop} (h : sh42 a0 a1 a2 (fun vs w' => ∃ t, encK [kI] t = vs ∧ K t w') w) : cl Pg 42 [.pointer a0, .int .i64 a1, .int .i64 a2] [kI] w K := cl_of Try.func42 (tie42 ..) h
/-- (*detent/detentref4.Queue).put -/
def sh57 (a0 : Option Addr) (a1 : (Int × Int × Unit)) (R : List Value → World → Prop) (w : World) : Prop :=
 al w 98 [.int .i64 a1.1, .int .i64 a1.2.1] fun b1 w2 =>
 nn a0 fun b3 o4 =>
 ldS w2 b3 (o4 + 1) fun s5 =>
 nn a0 fun b6 o7 =>
 ldB w2 b6 o7 fun b8 =>
 jn [kI] w2 (fun (t10 : Int × Unit) w11 =>
 dr w11 fun w13 =>
 nn a0 fun b14 o15 =>
 ldS w13 b14 (o15 + 1) fun s16 =>
 sb s16 0 t10.1 s16.cap 2 fun s17 =>
 ldI w13 .i64 b1 0 fun n18 =>
 ldI w13 .i64 b1 (0 + 1) fun n19 =>
(
 al w13 98 [] fun b20 w21 =>
(w21.cell? ⟨b1, 0, none⟩ = some (.int .i64 n18) ∧ w21.cell? ⟨b1, 0 + 1, none⟩ = some (.int .i64 n19)) ∧ (
(w21.cell? ⟨b14, o15 + 1, none⟩ = some (vS s16)) ∧ (
(
 ef Pg (Builtin.append_ #[95, 95] 95 #[vS ⟨some ⟨b20, 0, none⟩, 0, 0⟩, vS s17]) [kS] w21 fun (r22 : Sl × Unit) w23 =>
(w23.cell? ⟨b1, 0, none⟩ = some (.int .i64 n18) ∧ w23.cell? ⟨b1, 0 + 1, none⟩ = some (.int .i64 n19)) ∧ (
 al w23 98 [.int .i64 n18, .int .i64 n19] fun b24 w25 =>
(w25.cell? ⟨b14, o15 + 1, none⟩ = some (vS s16)) ∧ (
 ef Pg (Builtin.append_ #[95, 95] 95 #[vS r22.1, vS ⟨some ⟨b24, 0, none⟩, 1, 1⟩]) [kS] w25 fun (r26 : Sl × Unit) w27 =>
 nn a0 fun b28 o29 =>
 ldS w27 b28 (o29 + 1) fun s30 =>
 sb s30 t10.1 s30.len s30.cap 2 fun s31 =>
 ef Pg (Builtin.append_ #[95, 95] 95 #[vS r26.1, vS s31]) [kS] w27 fun (r32 : Sl × Unit) w33 =>
 nn a0 fun b34 o35 =>
 st1 w33 b34 (o35 + 1) (vS r32.1) fun w36 =>
 R [] w36))) ∧ (
 al w21 98 [.int .i64 n18, .int .i64 n19] fun b37 w38 =>
(w38.cell? ⟨b14, o15 + 1, none⟩ = some (vS s16)) ∧ (
 ef Pg (Builtin.append_ #[95, 95] 95 #[vS ⟨some ⟨b20, 0, none⟩, 0, 0⟩, vS s17]) [kS] w38 fun (r39 : Sl × Unit) w40 =>
(w40.cell? ⟨b1, 0, none⟩ = some (.int .i64 n18) ∧ w40.cell? ⟨b1, 0 + 1, none⟩ = some (.int .i64 n19)) ∧ (
 ef Pg (Builtin.append_ #[95, 95] 95 #[vS r39.1, vS ⟨some ⟨b37, 0, none⟩, 1, 1⟩]) [kS] w40 fun (r41 : Sl × Unit) w42 =>
 nn a0 fun b43 o44 =>
 ldS w42 b43 (o44 + 1) fun s45 =>
 sb s45 t10.1 s45.len s45.cap 2 fun s46 =>
 ef Pg (Builtin.append_ #[95, 95] 95 #[vS r41.1, vS s46]) [kS] w42 fun (r47 : Sl × Unit) w48 =>
 nn a0 fun b49 o50 =>
 st1 w48 b49 (o50 + 1) (vS r47.1) fun w51 =>
 R [] w51)))))) ∧ (
 al w13 98 [.int .i64 n18, .int .i64 n19] fun b52 w53 =>
(w53.cell? ⟨b14, o15 + 1, none⟩ = some (vS s16)) ∧ (
 al w53 98 [] fun b54 w55 =>
(w55.cell? ⟨b1, 0, none⟩ = some (.int .i64 n18) ∧ w55.cell? ⟨b1, 0 + 1, none⟩ = some (.int .i64 n19)) ∧ (
(w55.cell? ⟨b14, o15 + 1, none⟩ = some (vS s16)) ∧ (
 ef Pg (Builtin.append_ #[95, 95] 95 #[vS ⟨some ⟨b54, 0, none⟩, 0, 0⟩, vS s17]) [kS] w55 fun (r56 : Sl × Unit) w57 =>
(w57.cell? ⟨b1, 0, none⟩ = some (.int .i64 n18) ∧ w57.cell? ⟨b1, 0 + 1, none⟩ = some (.int .i64 n19)) ∧ (
 ef Pg (Builtin.append_ #[95, 95] 95 #[vS r56.1, vS ⟨some ⟨b52, 0, none⟩, 1, 1⟩]) [kS] w57 fun (r58 : Sl × Unit) w59 =>
 nn a0 fun b60 o61 =>
 ldS w59 b60 (o61 + 1) fun s62 =>
 sb s62 t10.1 s62.len s62.cap 2 fun s63 =>
 ef Pg (Builtin.append_ #[95, 95] 95 #[vS r58.1, vS s63]) [kS] w59 fun (r64 : Sl × Unit) w65 =>
 nn a0 fun b66 o67 =>
 st1 w65 b66 (o67 + 1) (vS r64.1) fun w68 =>
 R [] w68)))))) fun J9 w12 =>
 cs b8 (
 lp [kI] w12 ((s5.len : Int), ()) fun (t69 : Int × Unit) J70 w71 =>
 dr w71 fun w72 =>
 jn [kB] w72 (fun (t74 : Bool × Unit) w75 =>
 cs t74.1 (
 J70 (w64 (t69.1 - 1), ()) w75) (
 J9 (t69.1, ()) w75)) fun J73 w76 =>
 cs (decide ((t69.1 : Int) > (0 : Int))) (
 nn a0 fun b77 o78 =>
 ldS w76 b77 (o78 + 1) fun s79 =>
 ix s79 (w64 (t69.1 - 1)) 2 fun b80 o81 =>
 ldI w76 .i64 b80 (o81 + 1) fun n82 =>
 ldI w76 .i64 b1 (0 + 1) fun n83 =>
 J73 (decide ((n82 : Int) > (n83 : Int)), ()) w76) (
 J73 (false, ()) w76)) (
 J9 ((s5.len : Int), ()) w12)
theorem tie57 (a0 : Option Addr) (a1 : (Int × Int × Unit)) (R : List Value → World → Prop) (w : World) : compF Pg Try.f57 ⟨[(0, ⟨[(4, kI)], [15, 16, 17, 18, 19, 20, 21, 22, 23, 24, 25, 26, 27, 28, 29, 30, 31, 32]⟩), (2, ⟨[(4, kI)], [15, 16, 17, 18, 19, 20, 21, 22, 23, 24, 25, 26, 27, 28, 29, 30, 31, 32]⟩)], [(3, ⟨[(30, kB)], [15, 16, 17, 18, 19, 20, 21, 22, 23, 24, 25, 26, 27, 28, 29]⟩)], [(5, .t [(1, []), (2, []), (3, []), (4, []), (5, []), (6, []), (8, [])] 0 [] (.t [] 7 [0, 6, 4, 5, 3, 2, 1] (.l [(9, [8]), (10, [7, 9, 0, 6, 8, 4, 5, 3, 2, 1]), (11, [])]) 9 [8] (.l [(7, [0, 6, 4, 5, 3, 2, 1]), (10, [7, 9, 0, 6, 8, 4, 5, 3, 2, 1]), (11, [])])) 9 [8] (.l [(0, []), (7, [0, 6, 4, 5, 3, 2, 1]), (10, [7, 9, 0, 6, 8, 4, 5, 3, 2, 1]), (11, [])])), (3, .l [(0, []), (1, []), (2, []), (3, []), (4, []), (5, []), (6, []), (7, []), (8, []), (9, []), (10, []), (11, []), (12, []), (13, []), (14, []), (15, [])])], []⟩ [.pointer a0, .agg #[.int .i64 a1.1, .int .i64 a1.2.1]] R w = sh57 a0 a1 R w := by kernel_rfl
theorem call57 {a0 : Option Addr} {a1 : (Int × Int × Unit)} {w : World} {K : TK [] → World → Prop} (h : sh57 a0 a1 (fun vs w' => ∃ t, encK [] t = vs ∧ K t w') w) : cl Pg 57 [.pointer a0, .agg #[.int .i64 a1.1, .int .i64 a1.2.1]] [] w K := cl_of Try.func57 (tie57 ..) h
/-- (*detent/detentref4.Queue).Add -/
def sh43 (a0 : Option Addr) (a1 : Int) (a2 : Int) (R : List Value → World → Prop) (w : World) : Prop :=
 cl Pg 39 [.int .i64 a1, .int .i64 a2] [kB] w fun (r1 : Bool × Unit) w2 =>
 cs (!r1.1) (
 R [.int .i64 (-17)] w2) (
 cl Pg 56 [.pointer a0, .int .i64 a1] [kI] w2 fun (r3 : Int × Unit) w4 =>
 cs (decide ((r3.1 : Int) ≥ (0 : Int))) (
 R [.int .i64 (-41)] w4) (
 cl Pg 57 [.pointer a0, .agg #[.int .i64 a1, .int .i64 a2]] [] w4 fun (r5 : Unit) w6 =>
 R [.int .i64 0] w6))
theorem tie43 (a0 : Option Addr) (a1 : Int) (a2 : Int) (R : List Value → World → Prop) (w : World) : compF Pg Try.f43 ⟨[], [], [], []⟩ [.pointer a0, .int .i64 a1, .int .i64 a2] R w = sh43 a0 a1 a2 R w := by kernel_rfl
theorem call43 {a0 : Option Addr} {a1 : Int} {a2 : Int} {w : World} {K : TK [kI] → World → Prop} (h : sh43 a0 a1 a2 (fun vs w' => ∃ t, encK [kI] t = vs ∧ K t w') w) : cl Pg 43 [.pointer a0, .int .i64 a1, .int .i64 a2] [kI] w K := cl_of Try.func43 (tie43 ..) h
/-- (*detent/detentref17.Port).Call -/
def sh17 (a0 : Option Addr) (a1 : Int) (a2 : Int) (a3 : Int) (a4 : Sl) (R : List Value → World → Prop) (w : World) : Prop :=
 al w 53 [.int .i64 0, .int .i64 0, .string ByteArray.empty, .bool false] fun b1 w2 =>
 jn [kB] w2 (fun (t4 : Bool × Unit) w5 =>
 jn [kB] w5 (fun (t8 : Bool × Unit) w9 =>
 cs t8.1 (
 st1 w9 b1 0 (.int .i64 0) fun w11 =>
 st1 w11 b1 (0 + 1) (.int .i64 0) fun w12 =>
 st1 w12 b1 (0 + 2) (.string ByteArray.empty) fun w13 =>
 st1 w13 b1 (0 + 3) (.bool false) fun w14 =>
 ldI w14 .i64 b1 0 fun n15 =>
 ldI w14 .i64 b1 (0 + 1) fun n16 =>
 ldG w14 b1 (0 + 2) fun g17 =>
 ldB w14 b1 (0 + 3) fun b18 =>
 R [.agg #[.int .i64 n15, .int .i64 n16, .string g17, .bool b18], .int .i64 (-17)] w14) (
 cl Pg 40 [.pointer a0, .int .i64 a1] [kB] w9 fun (r19 : Bool × Unit) w20 =>
 cs r19.1 (
 st1 w20 b1 0 (.int .i64 0) fun w21 =>
 st1 w21 b1 (0 + 1) (.int .i64 0) fun w22 =>
 st1 w22 b1 (0 + 2) (.string ByteArray.empty) fun w23 =>
 st1 w23 b1 (0 + 3) (.bool false) fun w24 =>
 ldI w24 .i64 b1 0 fun n25 =>
 ldI w24 .i64 b1 (0 + 1) fun n26 =>
 ldG w24 b1 (0 + 2) fun g27 =>
 ldB w24 b1 (0 + 3) fun b28 =>
 R [.agg #[.int .i64 n25, .int .i64 n26, .string g27, .bool b28], .int .i64 (-41)] w24) (
 lp [kI] w20 ((0 : Int), ()) fun (t29 : Int × Unit) J30 w31 =>
 nn a0 fun b32 o33 =>
 ldP w31 b32 (o33 + 1) fun p34 =>
 nn p34 fun b35 o36 =>
 ldS w31 b35 (o36 + 1) fun s37 =>
 cs (decide ((t29.1 : Int) < ((s37.len : Int) : Int))) (
 nn a0 fun b38 o39 =>
 ldP w31 b38 (o39 + 1) fun p40 =>
 nn p40 fun b41 o42 =>
 ldS w31 b41 (o42 + 1) fun s43 =>
 ix s43 t29.1 2 fun b44 o45 =>
 ldI w31 .i64 b44 o45 fun n46 =>
 nn a0 fun b47 o48 =>
 ixA b47 (o48 + 2) 17 n46 1 fun b49 o50 =>
 ldI w31 .u32 b49 o50 fun n51 =>
 cs ((bAnd .u32 n51 a3 : Int) != (0 : Int)) (
 nn a0 fun b52 o53 =>
 ldP w31 b52 (o53 + 1) fun p54 =>
 cl Pg 41 [.pointer p54, .int .i64 n46] [kB] w31 fun (r55 : Bool × Unit) w56 =>
 dr w56 fun w57 =>
 tx Pg 27 9 (vS a4) w57 fun g58 =>
 cl Pg 42 [.pointer a0, .int .i64 a1, .int .i64 a2] [kI] w57 fun (r59 : Int × Unit) w60 =>
((convert 27 9 (vS a4)).run Pg w60 = .ok (.string g58) w60) ∧ (
 st1 w60 b1 0 (.int .i64 r59.1) fun w61 =>
 st1 w61 b1 (0 + 1) (.int .i64 n46) fun w62 =>
 st1 w62 b1 (0 + 2) (.string g58) fun w63 =>
 st1 w63 b1 (0 + 3) (.bool true) fun w65 =>
 ldI w65 .i64 b1 0 fun n66 =>
 ldI w65 .i64 b1 (0 + 1) fun n67 =>
 ldG w65 b1 (0 + 2) fun g68 =>
 ldB w65 b1 (0 + 3) fun b69 =>
 R [.agg #[.int .i64 n66, .int .i64 n67, .string g68, .bool b69], .int .i64 0] w65)) (
 J30 (w64 (t29.1 + 1), ()) w31)) (
 nn a0 fun b70 o71 =>
 ldP w31 b70 o71 fun p72 =>
 cl Pg 43 [.pointer p72, .int .i64 a1, .int .i64 a2] [kI] w31 fun (r73 : Int × Unit) w74 =>
 nn a0 fun b75 o76 =>
 ixA b75 (o76 + 2) 17 a1 1 fun b77 o78 =>
 st1 w74 b77 o78 (.int .u32 a3) fun w79 =>
 dr w79 fun w80 =>
 tx Pg 27 9 (vS a4) w80 fun g81 =>
 nn a0 fun b82 o83 =>
 ixA b82 (o83 + 19) 17 a1 1 fun b84 o85 =>
 st1 w80 b84 o85 (.string g81) fun w86 =>
 st1 w86 b1 0 (.int .i64 0) fun w87 =>
 st1 w87 b1 (0 + 1) (.int .i64 0) fun w88 =>
 st1 w88 b1 (0 + 2) (.string ByteArray.empty) fun w89 =>
 st1 w89 b1 (0 + 3) (.bool false) fun w90 =>
 ldI w90 .i64 b1 0 fun n91 =>
 ldI w90 .i64 b1 (0 + 1) fun n92 =>
 ldG w90 b1 (0 + 2) fun g93 =>
 ldB w90 b1 (0 + 3) fun b94 =>
 R [.agg #[.int .i64 n91, .int .i64 n92, .string g93, .bool b94], .int .i64 0] w90)))) fun J7 w10 =>
 cs t4.1 (
 J7 (true, ()) w10) (
 cl Pg 39 [.int .i64 a1, .int .i64 a2] [kB] w10 fun (r95 : Bool × Unit) w96 =>
 J7 (!r95.1, ()) w96)) fun J3 w6 =>
 cs ((a3 : Int) == (0 : Int)) (
 J3 (true, ()) w6) (
 nn a0 fun b97 o98 =>
 ldI w6 .i64 b97 (o98 + 38) fun n99 =>
 J3 (decide (((a4.len : Int) : Int) > (n99 : Int)), ()) w6)
theorem tie17 (a0 : Option Addr) (a1 : Int) (a2 : Int) (a3 : Int) (a4 : Sl) (R : List Value → World → Prop) (w : World) : compF Pg Try.f17 ⟨[(3, ⟨[(12, kI)], [11, 13, 36, 37, 38, 39, 40, 41, 42, 43, 44, 45, 46, 47, 48, 49, 50, 51, 52, 53, 54, 55, 56, 57, 58, 59, 60, 61, 62, 63, 64, 65, 66, 67, 68, 69, 70, 71, 72, 73, 74, 75, 76, 77, 78, 79, 80, 81]⟩)], [], [(11, .l [(0, []), (1, []), (2, []), (4, []), (5, []), (6, []), (3, [0, 1, 2]), (7, []), (8, [7, 3, 0, 1, 2, 4, 5, 6]), (9, [])]), (14, .l [(0, []), (1, []), (2, []), (3, []), (4, []), (5, []), (6, []), (7, [6, 3, 0, 1, 2, 5, 4])])], [(1, [(3, 8, ⟨[(24, kB)], [17, 18, 19, 20, 21, 22, 23]⟩), (12, 5, ⟨[(30, kB)], [26, 27, 28, 29]⟩)])]⟩ [.pointer a0, .int .i64 a1, .int .i64 a2, .int .u32 a3, vS a4] R w = sh17 a0 a1 a2 a3 a4 R w := by kernel_rfl
theorem call17 {a0 : Option Addr} {a1 : Int} {a2 : Int} {a3 : Int} {a4 : Sl} {w : World} {K : TK [.a [(.i .i64), (.i .i64), .g, .b], kI] → World → Prop} (h : sh17 a0 a1 a2 a3 a4 (fun vs w' => ∃ t, encK [.a [(.i .i64), (.i .i64), .g, .b], kI] t = vs ∧ K t w') w) : cl Pg 17 [.pointer a0, .int .i64 a1, .int .i64 a2, .int .u32 a3, vS a4] [.a [(.i .i64), (.i .i64), .g, .b], kI] w K := cl_of Try.func17 (tie17 ..) h
/-- detent/detentlaw17.met -/
def sh18 (a0 : (Int × Int × Sl × Bool × Unit)) (a1 : (Int × Int × ByteArray × Bool × Unit)) (R : List Value → World → Prop) (w : World) : Prop :=
 al w 29 [.int .i64 a0.1, .int .i64 a0.2.1, vS a0.2.2.1, .bool a0.2.2.2.1] fun b1 w2 =>
 al w2 53 [.int .i64 a1.1, .int .i64 a1.2.1, .string a1.2.2.1, .bool a1.2.2.2.1] fun b3 w4 =>
 ldI w4 .i64 b1 0 fun n5 =>
 ldI w4 .i64 b3 0 fun n6 =>
 jn [kB] w4 (fun (t8 : Bool × Unit) w9 =>
 jn [kB] w9 (fun (t12 : Bool × Unit) w13 =>
 jn [kB] w13 (fun (t16 : Bool × Unit) w17 =>
 R [.bool t16.1] w17) fun J15 w18 =>
 cs t12.1 (
 ldB w18 b1 (0 + 3) fun b19 =>
 ldB w18 b3 (0 + 3) fun b20 =>
 J15 (b19 == b20, ()) w18) (
 J15 (false, ()) w18)) fun J11 w14 =>
 cs t8.1 (
 ldS w14 b1 (0 + 2) fun s21 =>
 tx Pg 27 9 (vS s21) w14 fun g22 =>
 ldG w14 b3 (0 + 2) fun g23 =>
 J11 (g22.toList == g23.toList, ()) w14) (
 J11 (false, ()) w14)) fun J7 w10 =>
 cs ((n5 : Int) == (n6 : Int)) (
 ldI w10 .i64 b1 (0 + 1) fun n24 =>
 ldI w10 .i64 b3 (0 + 1) fun n25 =>
 J7 ((n24 : Int) == (n25 : Int), ()) w10) (
 J7 (false, ()) w10)
theorem tie18 (a0 : (Int × Int × Sl × Bool × Unit)) (a1 : (Int × Int × ByteArray × Bool × Unit)) (R : List Value → World → Prop) (w : World) : compF Pg Try.f18 ⟨[], [], [], [(1, [(6, 6, ⟨[(16, kB)], [11, 12, 13, 14, 15]⟩), (13, 7, ⟨[(24, kB)], [18, 19, 20, 21, 22, 23]⟩), (21, 6, ⟨[(31, kB)], [26, 27, 28, 29, 30]⟩)])]⟩ [.agg #[.int .i64 a0.1, .int .i64 a0.2.1, vS a0.2.2.1, .bool a0.2.2.2.1], .agg #[.int .i64 a1.1, .int .i64 a1.2.1, .string a1.2.2.1, .bool a1.2.2.2.1]] R w = sh18 a0 a1 R w := by kernel_rfl
theorem call18 {a0 : (Int × Int × Sl × Bool × Unit)} {a1 : (Int × Int × ByteArray × Bool × Unit)} {w : World} {K : TK [kB] → World → Prop} (h : sh18 a0 a1 (fun vs w' => ∃ t, encK [kB] t = vs ∧ K t w') w) : cl Pg 18 [.agg #[.int .i64 a0.1, .int .i64 a0.2.1, vS a0.2.2.1, .bool a0.2.2.2.1], .agg #[.int .i64 a1.1, .int .i64 a1.2.1, .string a1.2.2.1, .bool a1.2.2.2.1]] [kB] w K := cl_of Try.func18 (tie18 ..) h
/-- (*detent/detentref17.Port).Accept -/
def sh19 (a0 : Option Addr) (a1 : Int) (a2 : Int) (a3 : Int) (R : List Value → World → Prop) (w : World) : Prop :=
 al w 53 [.int .i64 0, .int .i64 0, .string ByteArray.empty, .bool false] fun b1 w2 =>
 jn [kB] w2 (fun (t4 : Bool × Unit) w5 =>
 cs t4.1 (
 st1 w5 b1 0 (.int .i64 0) fun w7 =>
 st1 w7 b1 (0 + 1) (.int .i64 0) fun w8 =>
 st1 w8 b1 (0 + 2) (.string ByteArray.empty) fun w9 =>
 st1 w9 b1 (0 + 3) (.bool false) fun w10 =>
 ldI w10 .i64 b1 0 fun n11 =>
 ldI w10 .i64 b1 (0 + 1) fun n12 =>
 ldG w10 b1 (0 + 2) fun g13 =>
 ldB w10 b1 (0 + 3) fun b14 =>
 R [.agg #[.int .i64 n11, .int .i64 n12, .string g13, .bool b14], .int .i64 (-17)] w10) (
 cl Pg 40 [.pointer a0, .int .i64 a1] [kB] w5 fun (r15 : Bool × Unit) w16 =>
 cs r15.1 (
 st1 w16 b1 0 (.int .i64 0) fun w17 =>
 st1 w17 b1 (0 + 1) (.int .i64 0) fun w18 =>
 st1 w18 b1 (0 + 2) (.string ByteArray.empty) fun w19 =>
 st1 w19 b1 (0 + 3) (.bool false) fun w20 =>
 ldI w20 .i64 b1 0 fun n21 =>
 ldI w20 .i64 b1 (0 + 1) fun n22 =>
 ldG w20 b1 (0 + 2) fun g23 =>
 ldB w20 b1 (0 + 3) fun b24 =>
 R [.agg #[.int .i64 n21, .int .i64 n22, .string g23, .bool b24], .int .i64 (-41)] w20) (
 lp [kI] w16 ((0 : Int), ()) fun (t25 : Int × Unit) J26 w27 =>
 nn a0 fun b28 o29 =>
 ldP w27 b28 o29 fun p30 =>
 nn p30 fun b31 o32 =>
 ldS w27 b31 (o32 + 1) fun s33 =>
 cs (decide ((t25.1 : Int) < ((s33.len : Int) : Int))) (
 nn a0 fun b34 o35 =>
 ldP w27 b34 o35 fun p36 =>
 nn p36 fun b37 o38 =>
 ldS w27 b37 (o38 + 1) fun s39 =>
 ix s39 t25.1 2 fun b40 o41 =>
 ldI w27 .i64 b40 o41 fun n42 =>
 ldI w27 .i64 b40 (o41 + 1) fun n43 =>
 al w27 98 [.int .i64 0, .int .i64 0] fun b44 w45 =>
 st1 w45 b44 0 (.int .i64 n42) fun w46 =>
 st1 w46 b44 (0 + 1) (.int .i64 n43) fun w47 =>
 dr w47 fun w48 =>
 ldI w48 .i64 b44 0 fun n49 =>
 nn a0 fun b50 o51 =>
 ixA b50 (o51 + 2) 17 n49 1 fun b52 o53 =>
 ldI w48 .u32 b52 o53 fun n54 =>
 cs ((bAnd .u32 n54 a3 : Int) != (0 : Int)) (
 dr w48 fun w55 =>
 nn a0 fun b56 o57 =>
 ldP w55 b56 o57 fun p58 =>
 ldI w55 .i64 b44 0 fun n59 =>
 cl Pg 41 [.pointer p58, .int .i64 n59] [kB] w55 fun (r60 : Bool × Unit) w61 =>
 dr w61 fun w62 =>
 ldI w62 .i64 b44 0 fun n63 =>
 ldI w62 .i64 b44 (0 + 1) fun n64 =>
 ldI w62 .i64 b44 0 fun n65 =>
 ldI w62 .i64 b44 0 fun n66 =>
 nn a0 fun b67 o68 =>
 ixA b67 (o68 + 19) 17 n66 1 fun b69 o70 =>
 ldG w62 b69 o70 fun g71 =>
 cl Pg 42 [.pointer a0, .int .i64 n63, .int .i64 n64] [kI] w62 fun (r72 : Int × Unit) w73 =>
(w73.cell? ⟨b69, o70, none⟩ = some (.string g71)) ∧ (
(w73.cell? ⟨b44, 0, none⟩ = some (.int .i64 n66)) ∧ (
(w73.cell? ⟨b44, 0, none⟩ = some (.int .i64 n65)) ∧ (
 st1 w73 b1 0 (.int .i64 r72.1) fun w74 =>
 st1 w74 b1 (0 + 1) (.int .i64 n65) fun w75 =>
 st1 w75 b1 (0 + 2) (.string g71) fun w76 =>
 st1 w76 b1 (0 + 3) (.bool true) fun w77 =>
 ldI w77 .i64 b1 0 fun n78 =>
 ldI w77 .i64 b1 (0 + 1) fun n79 =>
 ldG w77 b1 (0 + 2) fun g80 =>
 ldB w77 b1 (0 + 3) fun b81 =>
 R [.agg #[.int .i64 n78, .int .i64 n79, .string g80, .bool b81], .int .i64 0] w77)))) (
 J26 (w64 (t25.1 + 1), ()) w48)) (
 nn a0 fun b82 o83 =>
 ldP w27 b82 (o83 + 1) fun p84 =>
 cl Pg 43 [.pointer p84, .int .i64 a1, .int .i64 a2] [kI] w27 fun (r85 : Int × Unit) w86 =>
 nn a0 fun b87 o88 =>
 ixA b87 (o88 + 2) 17 a1 1 fun b89 o90 =>
 st1 w86 b89 o90 (.int .u32 a3) fun w91 =>
 st1 w91 b1 0 (.int .i64 0) fun w92 =>
 st1 w92 b1 (0 + 1) (.int .i64 0) fun w93 =>
 st1 w93 b1 (0 + 2) (.string ByteArray.empty) fun w94 =>
 st1 w94 b1 (0 + 3) (.bool false) fun w95 =>
 ldI w95 .i64 b1 0 fun n96 =>
 ldI w95 .i64 b1 (0 + 1) fun n97 =>
 ldG w95 b1 (0 + 2) fun g98 =>
 ldB w95 b1 (0 + 3) fun b99 =>
 R [.agg #[.int .i64 n96, .int .i64 n97, .string g98, .bool b99], .int .i64 0] w95)))) fun J3 w6 =>
 cs ((a3 : Int) == (0 : Int)) (
 J3 (true, ()) w6) (
 cl Pg 39 [.int .i64 a1, .int .i64 a2] [kB] w6 fun (r100 : Bool × Unit) w101 =>
 J3 (!r100.1, ()) w101)
theorem tie19 (a0 : Option Addr) (a1 : Int) (a2 : Int) (a3 : Int) (R : List Value → World → Prop) (w : World) : compF Pg Try.f19 ⟨[(3, ⟨[(10, kI)], [9, 11, 25, 26, 27, 28, 29, 30, 31, 32, 33, 34, 35, 36, 37, 38, 39, 40, 41, 42, 43, 44, 45, 46, 47, 48, 49, 50, 51, 52, 53, 54, 55, 56, 57, 58, 59, 60, 61, 62, 63, 64, 65, 66, 67, 68, 69, 70, 71, 72, 73, 74, 75, 76, 77, 78, 79]⟩)], [], [(9, .l [(0, []), (1, []), (2, []), (3, []), (4, []), (5, []), (6, []), (7, []), (8, []), (9, [])]), (10, .l [(0, []), (1, []), (2, []), (3, []), (4, []), (5, []), (6, [3, 5, 2, 4, 1, 0])]), (11, .l [(0, []), (1, []), (2, []), (3, []), (4, []), (6, []), (7, []), (8, []), (9, []), (10, []), (11, []), (12, []), (13, []), (14, []), (5, [0, 2, 4, 1, 3]), (15, []), (16, [15, 5, 0, 1, 2, 3, 4, 6, 7, 8, 9, 10, 11, 12, 13, 14]), (17, [])])], [(1, [(3, 5, ⟨[(19, kB)], [15, 16, 17, 18]⟩)])]⟩ [.pointer a0, .int .i64 a1, .int .i64 a2, .int .u32 a3] R w = sh19 a0 a1 a2 a3 R w := by kernel_rfl
theorem call19 {a0 : Option Addr} {a1 : Int} {a2 : Int} {a3 : Int} {w : World} {K : TK [.a [(.i .i64), (.i .i64), .g, .b], kI] → World → Prop} (h : sh19 a0 a1 a2 a3 (fun vs w' => ∃ t, encK [.a [(.i .i64), (.i .i64), .g, .b], kI] t = vs ∧ K t w') w) : cl Pg 19 [.pointer a0, .int .i64 a1, .int .i64 a2, .int .u32 a3] [.a [(.i .i64), (.i .i64), .g, .b], kI] w K := cl_of Try.func19 (tie19 ..) h
/-- (*detent/detentref17.Port).at -/
def sh44 (a0 : Option Addr) (a1 : Int) (R : List Value → World → Prop) (w : World) : Prop :=
 lp [kI] w ((0 : Int), ()) fun (t1 : Int × Unit) J2 w3 =>
 nn a0 fun b4 o5 =>
 ldS w3 b4 (o5 + 36) fun s6 =>
 cs (decide ((t1.1 : Int) < ((s6.len : Int) : Int))) (
 nn a0 fun b7 o8 =>
 ldS w3 b7 (o8 + 36) fun s9 =>
 ix s9 t1.1 3 fun b10 o11 =>
 ldI w3 .i64 b10 o11 fun n12 =>
 cs ((n12 : Int) == (a1 : Int)) (
 R [.int .i64 t1.1] w3) (
 J2 (w64 (t1.1 + 1), ()) w3)) (
 R [.int .i64 (-1)] w3)
theorem tie44 (a0 : Option Addr) (a1 : Int) (R : List Value → World → Prop) (w : World) : compF Pg Try.f44 ⟨[(1, ⟨[(5, kI)], [4, 6, 7, 8, 9, 10, 11, 12, 13, 14, 15, 16, 17, 18, 19, 20, 21, 22, 23, 24, 25]⟩)], [], [], []⟩ [.pointer a0, .int .i64 a1] R w = sh44 a0 a1 R w := by kernel_rfl
theorem call44 {a0 : Option Addr} {a1 : Int} {w : World} {K : TK [kI] → World → Prop} (h : sh44 a0 a1 (fun vs w' => ∃ t, encK [kI] t = vs ∧ K t w') w) : cl Pg 44 [.pointer a0, .int .i64 a1] [kI] w K := cl_of Try.func44 (tie44 ..) h
/-- (*detent/detentref17.Port).end -/
def sh45 (a0 : Option Addr) (a1 : Int) (R : List Value → World → Prop) (w : World) : Prop :=
 al w 100 [] fun b1 w2 =>
 nn a0 fun b3 o4 =>
 ldS w2 b3 (o4 + 36) fun s5 =>
 sb s5 0 a1 s5.cap 3 fun s6 =>
 ef Pg (Builtin.append_ #[65, 65] 65 #[vS ⟨some ⟨b1, 0, none⟩, 0, 0⟩, vS s6]) [kS] w2 fun (r7 : Sl × Unit) w8 =>
 nn a0 fun b9 o10 =>
 ldS w8 b9 (o10 + 36) fun s11 =>
 sb s11 (w64 (a1 + 1)) s11.len s11.cap 3 fun s12 =>
 ef Pg (Builtin.append_ #[65, 65] 65 #[vS r7.1, vS s12]) [kS] w8 fun (r13 : Sl × Unit) w14 =>
 nn a0 fun b15 o16 =>
 st1 w14 b15 (o16 + 36) (vS r13.1) fun w17 =>
 R [] w17
theorem tie45 (a0 : Option Addr) (a1 : Int) (R : List Value → World → Prop) (w : World) : compF Pg Try.f45 ⟨[], [], [], []⟩ [.pointer a0, .int .i64 a1] R w = sh45 a0 a1 R w := by kernel_rfl
theorem call45 {a0 : Option Addr} {a1 : Int} {w : World} {K : TK [] → World → Prop} (h : sh45 a0 a1 (fun vs w' => ∃ t, encK [] t = vs ∧ K t w') w) : cl Pg 45 [.pointer a0, .int .i64 a1] [] w K := cl_of Try.func45 (tie45 ..) h
/-- (*detent/detentref17.Port).Reply -/
def sh20 (a0 : Option Addr) (a1 : Int) (a2 : Sl) (R : List Value → World → Prop) (w : World) : Prop :=
 cl Pg 44 [.pointer a0, .int .i64 a1] [kI] w fun (r1 : Int × Unit) w2 =>
 cs (decide ((r1.1 : Int) < (0 : Int))) (
 R [.int .i64 0, .int .i64 (-41)] w2) (
 nn a0 fun b3 o4 =>
 ldI w2 .i64 b3 (o4 + 38) fun n5 =>
 cs (decide (((a2.len : Int) : Int) > (n5 : Int))) (
 R [.int .i64 0, .int .i64 (-17)] w2) (
 nn a0 fun b6 o7 =>
 ldS w2 b6 (o7 + 36) fun s8 =>
 ix s8 r1.1 3 fun b9 o10 =>
 ldI w2 .i64 b9 (o10 + 1) fun n11 =>
 cl Pg 45 [.pointer a0, .int .i64 r1.1] [] w2 fun (r12 : Unit) w13 =>
 R [.int .i64 n11, .int .i64 0] w13))
theorem tie20 (a0 : Option Addr) (a1 : Int) (a2 : Sl) (R : List Value → World → Prop) (w : World) : compF Pg Try.f20 ⟨[], [], [], []⟩ [.pointer a0, .int .i64 a1, vS a2] R w = sh20 a0 a1 a2 R w := by kernel_rfl
theorem call20 {a0 : Option Addr} {a1 : Int} {a2 : Sl} {w : World} {K : TK [kI, kI] → World → Prop} (h : sh20 a0 a1 a2 (fun vs w' => ∃ t, encK [kI, kI] t = vs ∧ K t w') w) : cl Pg 20 [.pointer a0, .int .i64 a1, vS a2] [kI, kI] w K := cl_of Try.func20 (tie20 ..) h
/-- (*detent/detentref17.Port).Forward -/
def sh21 (a0 : Option Addr) (a1 : Int) (a2 : Option Addr) (a3 : Int) (a4 : Sl) (R : List Value → World → Prop) (w : World) : Prop :=
 al w 53 [.int .i64 0, .int .i64 0, .string ByteArray.empty, .bool false] fun b1 w2 =>
 cl Pg 44 [.pointer a0, .int .i64 a1] [kI] w2 fun (r3 : Int × Unit) w4 =>
 cs (decide ((r3.1 : Int) < (0 : Int))) (
 st1 w4 b1 0 (.int .i64 0) fun w5 =>
 st1 w5 b1 (0 + 1) (.int .i64 0) fun w6 =>
 st1 w6 b1 (0 + 2) (.string ByteArray.empty) fun w7 =>
 st1 w7 b1 (0 + 3) (.bool false) fun w8 =>
 ldI w8 .i64 b1 0 fun n9 =>
 ldI w8 .i64 b1 (0 + 1) fun n10 =>
 ldG w8 b1 (0 + 2) fun g11 =>
 ldB w8 b1 (0 + 3) fun b12 =>
 R [.agg #[.int .i64 n9, .int .i64 n10, .string g11, .bool b12], .int .i64 (-41)] w8) (
 nn a0 fun b13 o14 =>
 ldS w4 b13 (o14 + 36) fun s15 =>
 ix s15 r3.1 3 fun b16 o17 =>
 ldI w4 .i64 b16 o17 fun n18 =>
 ldI w4 .i64 b16 (o17 + 1) fun n19 =>
 ldI w4 .i64 b16 (o17 + 2) fun n20 =>
 al w4 100 [.int .i64 0, .int .i64 0, .int .i64 0] fun b21 w22 =>
 st1 w22 b21 0 (.int .i64 n18) fun w23 =>
 st1 w23 b21 (0 + 1) (.int .i64 n19) fun w24 =>
 st1 w24 b21 (0 + 2) (.int .i64 n20) fun w25 =>
 jn [kB] w25 (fun (t27 : Bool × Unit) w28 =>
 cs t27.1 (
 st1 w28 b1 0 (.int .i64 0) fun w30 =>
 st1 w30 b1 (0 + 1) (.int .i64 0) fun w31 =>
 st1 w31 b1 (0 + 2) (.string ByteArray.empty) fun w32 =>
 st1 w32 b1 (0 + 3) (.bool false) fun w33 =>
 ldI w33 .i64 b1 0 fun n34 =>
 ldI w33 .i64 b1 (0 + 1) fun n35 =>
 ldG w33 b1 (0 + 2) fun g36 =>
 ldB w33 b1 (0 + 3) fun b37 =>
 R [.agg #[.int .i64 n34, .int .i64 n35, .string g36, .bool b37], .int .i64 (-17)] w33) (
 pq Pg 45 a2 a0 w28 fun c38 =>
 jn [kB] w28 (fun (t40 : Bool × Unit) w41 =>
 cs t40.1 (
 st1 w41 b1 0 (.int .i64 0) fun w43 =>
 st1 w43 b1 (0 + 1) (.int .i64 0) fun w44 =>
 st1 w44 b1 (0 + 2) (.string ByteArray.empty) fun w45 =>
 st1 w45 b1 (0 + 3) (.bool false) fun w46 =>
 ldI w46 .i64 b1 0 fun n47 =>
 ldI w46 .i64 b1 (0 + 1) fun n48 =>
 ldG w46 b1 (0 + 2) fun g49 =>
 ldB w46 b1 (0 + 3) fun b50 =>
 R [.agg #[.int .i64 n47, .int .i64 n48, .string g49, .bool b50], .int .i64 (-41)] w46) (
 cl Pg 45 [.pointer a0, .int .i64 r3.1] [] w41 fun (r51 : Unit) w52 =>
 ldI w52 .i64 b21 (0 + 1) fun n53 =>
 ldI w52 .i64 b21 (0 + 2) fun n54 =>
 cl Pg 17 [.pointer a2, .int .i64 n53, .int .i64 n54, .int .u32 a3, vS a4] [.a [(.i .i64), (.i .i64), .g, .b], kI] w52 fun (r55 : (Int × Int × ByteArray × Bool × Unit) × Int × Unit) w56 =>
 st1 w56 b1 0 (.int .i64 r55.1.1) fun w57 =>
 st1 w57 b1 (0 + 1) (.int .i64 r55.1.2.1) fun w58 =>
 st1 w58 b1 (0 + 2) (.string r55.1.2.2.1) fun w59 =>
 st1 w59 b1 (0 + 3) (.bool r55.1.2.2.2.1) fun w60 =>
 ldI w60 .i64 b1 0 fun n61 =>
 ldI w60 .i64 b1 (0 + 1) fun n62 =>
 ldG w60 b1 (0 + 2) fun g63 =>
 ldB w60 b1 (0 + 3) fun b64 =>
 R [.agg #[.int .i64 n61, .int .i64 n62, .string g63, .bool b64], .int .i64 r55.2.1] w60)) fun J39 w42 =>
 cs (!c38) (
 ldI w42 .i64 b21 (0 + 1) fun n65 =>
 cl Pg 40 [.pointer a2, .int .i64 n65] [kB] w42 fun (r66 : Bool × Unit) w67 =>
 J39 (r66.1, ()) w67) (
 J39 (false, ()) w42))) fun J26 w29 =>
 cs ((a3 : Int) == (0 : Int)) (
 J26 (true, ()) w29) (
 nn a2 fun b68 o69 =>
 ldI w29 .i64 b68 (o69 + 38) fun n70 =>
 J26 (decide (((a4.len : Int) : Int) > (n70 : Int)), ()) w29))
theorem tie21 (a0 : Option Addr) (a1 : Int) (a2 : Option Addr) (a3 : Int) (a4 : Sl) (R : List Value → World → Prop) (w : World) : compF Pg Try.f21 ⟨[], [], [], [(5, [(3, 8, ⟨[(37, kB)], [30, 31, 32, 33, 34, 35, 36]⟩)]), (7, [(4, 5, ⟨[(47, kB)], [43, 44, 45, 46]⟩)])]⟩ [.pointer a0, .int .i64 a1, .pointer a2, .int .u32 a3, vS a4] R w = sh21 a0 a1 a2 a3 a4 R w := by kernel_rfl
theorem call21 {a0 : Option Addr} {a1 : Int} {a2 : Option Addr} {a3 : Int} {a4 : Sl} {w : World} {K : TK [.a [(.i .i64), (.i .i64), .g, .b], kI] → World → Prop} (h : sh21 a0 a1 a2 a3 a4 (fun vs w' => ∃ t, encK [.a [(.i .i64), (.i .i64), .g, .b], kI] t = vs ∧ K t w') w) : cl Pg 21 [.pointer a0, .int .i64 a1, .pointer a2, .int .u32 a3, vS a4] [.a [(.i .i64), (.i .i64), .g, .b], kI] w K := cl_of Try.func21 (tie21 ..) h
/-- (*detent/por.Port).Drop$1 -/
def sh47 (a0 : (Int × Int × Int × Unit)) (c0 : Nat) (R : List Value → World → Prop) (w : World) : Prop :=
 al w 92 [.int .i64 a0.1, .int .i64 a0.2.1, .int .i64 a0.2.2.1] fun b1 w2 =>
 ldI w2 .i64 b1 (0 + 1) fun n3 =>
 ldI w2 .i64 c0 0 fun n4 =>
 R [.bool ((n3 : Int) == (n4 : Int))] w2
theorem tie47 (a0 : (Int × Int × Int × Unit)) (c0 : Nat) (R : List Value → World → Prop) (w : World) : compF Pg Try.f47 ⟨[], [], [], []⟩ [.agg #[.int .i64 a0.1, .int .i64 a0.2.1, .int .i64 a0.2.2.1], .pointer (some ⟨c0, 0, none⟩)] R w = sh47 a0 c0 R w := by kernel_rfl
theorem call47 {a0 : (Int × Int × Int × Unit)} {c0 : Nat} {w : World} {K : TK [kB] → World → Prop} (h : sh47 a0 c0 (fun vs w' => ∃ t, encK [kB] t = vs ∧ K t w') w) : cl Pg 47 [.agg #[.int .i64 a0.1, .int .i64 a0.2.1, .int .i64 a0.2.2.1], .pointer (some ⟨c0, 0, none⟩)] [kB] w K := cl_of Try.func47 (tie47 ..) h
/-- (*detent/por.Port).Drop -/
def sh22 (a0 : Option Addr) (a1 : Int) (R : List Value → World → Prop) (w : World) : Prop :=
 al w 3 [.int .i64 a1] fun b1 w2 =>
 nn a0 fun b3 o4 =>
 ldS w2 b3 (o4 + 6) fun s5 =>
 cl Pg 46 [vS s5, .func (.func 47) #[] #[.pointer (some ⟨b1, 0, none⟩)]] [kI] w2 fun (r6 : Int × Unit) w7 =>
 cs (decide ((r6.1 : Int) ≥ (0 : Int))) (
 cl Pg 36 [.pointer a0, .int .i64 r6.1] [] w7 fun (r8 : Unit) w9 =>
 R [.bool true] w9) (
 dr w7 fun w10 =>
 jn [kB] w10 (fun (t12 : Bool × Unit) w13 =>
 R [.bool t12.1] w13) fun J11 w14 =>
 nn a0 fun b15 o16 =>
 ldP w14 b15 o16 fun p17 =>
 ldM w14 b15 (o16 + 1) fun m18 =>
 ldI w14 .i64 b1 0 fun n19 =>
 cl Pg 48 [.agg #[.pointer p17, .map m18], .int .i64 n19] [kB] w14 fun (r20 : Bool × Unit) w21 =>
 cs r20.1 (
 J11 (true, ()) w21) (
 nn a0 fun b22 o23 =>
 ldP w21 b22 (o23 + 2) fun p24 =>
 ldM w21 b22 (o23 + 2 + 1) fun m25 =>
 ldI w21 .i64 b1 0 fun n26 =>
 cl Pg 48 [.agg #[.pointer p24, .map m25], .int .i64 n26] [kB] w21 fun (r27 : Bool × Unit) w28 =>
 J11 (r27.1, ()) w28))
theorem tie22 (a0 : Option Addr) (a1 : Int) (R : List Value → World → Prop) (w : World) : compF Pg Try.f22 ⟨[], [(5, ⟨[(4, kB)], [17, 18, 19, 20, 21, 22, 23, 24, 25, 26, 27, 28, 29, 30, 31, 32]⟩)], [(5, .l [(0, []), (1, []), (2, []), (3, []), (4, []), (5, []), (6, [4, 5, 3, 2, 1, 0]), (7, []), (8, []), (9, []), (10, []), (11, []), (12, []), (13, []), (14, [12, 13, 7, 11, 6, 10, 4, 5, 9, 3, 8, 2, 1, 0]), (15, []), (16, [])])], []⟩ [.pointer a0, .int .i64 a1] R w = sh22 a0 a1 R w := by kernel_rfl
theorem call22 {a0 : Option Addr} {a1 : Int} {w : World} {K : TK [kB] → World → Prop} (h : sh22 a0 a1 (fun vs w' => ∃ t, encK [kB] t = vs ∧ K t w') w) : cl Pg 22 [.pointer a0, .int .i64 a1] [kB] w K := cl_of Try.func22 (tie22 ..) h
/-- (*detent/detentref17.Port).Drop -/
def sh23 (a0 : Option Addr) (a1 : Int) (R : List Value → World → Prop) (w : World) : Prop :=
 lp [kI] w ((0 : Int), ()) fun (t1 : Int × Unit) J2 w3 =>
 nn a0 fun b4 o5 =>
 ldS w3 b4 (o5 + 36) fun s6 =>
 cs (decide ((t1.1 : Int) < ((s6.len : Int) : Int))) (
 nn a0 fun b7 o8 =>
 ldS w3 b7 (o8 + 36) fun s9 =>
 ix s9 t1.1 3 fun b10 o11 =>
 ldI w3 .i64 b10 (o11 + 1) fun n12 =>
 cs ((n12 : Int) == (a1 : Int)) (
 cl Pg 45 [.pointer a0, .int .i64 t1.1] [] w3 fun (r13 : Unit) w14 =>
 R [.bool true] w14) (
 J2 (w64 (t1.1 + 1), ()) w3)) (
 nn a0 fun b15 o16 =>
 ldP w3 b15 o16 fun p17 =>
 cl Pg 41 [.pointer p17, .int .i64 a1] [kB] w3 fun (r18 : Bool × Unit) w19 =>
 jn [kB] w19 (fun (t21 : Bool × Unit) w22 =>
 R [.bool t21.1] w22) fun J20 w23 =>
 cs r18.1 (
 J20 (true, ()) w23) (
 nn a0 fun b24 o25 =>
 ldP w23 b24 (o25 + 1) fun p26 =>
 cl Pg 41 [.pointer p26, .int .i64 a1] [kB] w23 fun (r27 : Bool × Unit) w28 =>
 J20 (r27.1, ()) w28))
theorem tie23 (a0 : Option Addr) (a1 : Int) (R : List Value → World → Prop) (w : World) : compF Pg Try.f23 ⟨[(1, ⟨[(5, kI)], [4, 6, 7, 8, 9, 10, 11, 12, 13, 14, 15, 16, 17, 18, 19, 20, 21, 22, 23, 24, 25, 26, 27]⟩)], [], [], [(7, [(7, 7, ⟨[(41, kB)], [35, 36, 37, 38, 39, 40]⟩)])]⟩ [.pointer a0, .int .i64 a1] R w = sh23 a0 a1 R w := by kernel_rfl
theorem call23 {a0 : Option Addr} {a1 : Int} {w : World} {K : TK [kB] → World → Prop} (h : sh23 a0 a1 (fun vs w' => ∃ t, encK [kB] t = vs ∧ K t w') w) : cl Pg 23 [.pointer a0, .int .i64 a1] [kB] w K := cl_of Try.func23 (tie23 ..) h
/-- detent/detentlaw3.Same -/
def sh24 (a0 : Sl) (a1 : Sl) (R : List Value → World → Prop) (w : World) : Prop :=
 cs (((a0.len : Int) : Int) != ((a1.len : Int) : Int)) (
 R [.bool false] w) (
 lp [kI] w ((0 : Int), ()) fun (t1 : Int × Unit) J2 w3 =>
 cs (decide ((t1.1 : Int) < ((a0.len : Int) : Int))) (
 dr w3 fun w4 =>
 ix a0 t1.1 1 fun b5 o6 =>
 ldI w4 .i64 b5 o6 fun n7 =>
 ix a1 t1.1 1 fun b8 o9 =>
 ldI w4 .i64 b8 o9 fun n10 =>
 cs ((n7 : Int) != (n10 : Int)) (
 R [.bool false] w4) (
 J2 (w64 (t1.1 + 1), ()) w4)) (
 R [.bool true] w3))
theorem tie24 (a0 : Sl) (a1 : Sl) (R : List Value → World → Prop) (w : World) : compF Pg Try.f24 ⟨[(2, ⟨[(5, kI)], [4, 11, 12, 13, 14, 15, 16, 17, 18, 19, 20, 21, 22, 23, 24, 25]⟩)], [], [(6, .l [(0, []), (1, []), (2, []), (3, []), (4, []), (5, []), (6, []), (7, []), (8, [])])], []⟩ [vS a0, vS a1] R w = sh24 a0 a1 R w := by kernel_rfl
theorem call24 {a0 : Sl} {a1 : Sl} {w : World} {K : TK [kB] → World → Prop} (h : sh24 a0 a1 (fun vs w' => ∃ t, encK [kB] t = vs ∧ K t w') w) : cl Pg 24 [vS a0, vS a1] [kB] w K := cl_of Try.func24 (tie24 ..) h
/-- (*detent/detentref4.Queue).IDs -/
def sh25 (a0 : Option Addr) (R : List Value → World → Prop) (w : World) : Prop :=
 lp [kS, kI] w (⟨none, 0, 0⟩, (0 : Int), ()) fun (t1 : Sl × Int × Unit) J2 w3 =>
 nn a0 fun b4 o5 =>
 ldS w3 b4 (o5 + 1) fun s6 =>
 cs (decide ((t1.2.1 : Int) < ((s6.len : Int) : Int))) (
 nn a0 fun b7 o8 =>
 ldS w3 b7 (o8 + 1) fun s9 =>
 ix s9 t1.2.1 2 fun b10 o11 =>
 ldI w3 .i64 b10 o11 fun n12 =>
 al w3 3 [.int .i64 n12] fun b13 w14 =>
 ef Pg (Builtin.append_ #[36, 36] 36 #[vS t1.1, vS ⟨some ⟨b13, 0, none⟩, 1, 1⟩]) [kS] w14 fun (r15 : Sl × Unit) w16 =>
 J2 (r15.1, w64 (t1.2.1 + 1), ()) w16) (
 R [vS t1.1] w3)
theorem tie25 (a0 : Option Addr) (R : List Value → World → Prop) (w : World) : compF Pg Try.f25 ⟨[(1, ⟨[(3, kS), (4, kI)], [5, 6, 7, 8, 9, 10, 11, 12, 13, 14, 15, 16, 17, 18, 19, 20, 21, 22, 23, 24]⟩)], [], [], []⟩ [.pointer a0] R w = sh25 a0 R w := by kernel_rfl
theorem call25 {a0 : Option Addr} {w : World} {K : TK [kS] → World → Prop} (h : sh25 a0 (fun vs w' => ∃ t, encK [kS] t = vs ∧ K t w') w) : cl Pg 25 [.pointer a0] [kS] w K := cl_of Try.func25 (tie25 ..) h
/-- (*detent/detentref17.Port).Numbers -/
def sh26 (a0 : Option Addr) (R : List Value → World → Prop) (w : World) : Prop :=
 lp [kS, kI] w (⟨none, 0, 0⟩, (0 : Int), ()) fun (t1 : Sl × Int × Unit) J2 w3 =>
 nn a0 fun b4 o5 =>
 ldS w3 b4 (o5 + 36) fun s6 =>
 cs (decide ((t1.2.1 : Int) < ((s6.len : Int) : Int))) (
 nn a0 fun b7 o8 =>
 ldS w3 b7 (o8 + 36) fun s9 =>
 ix s9 t1.2.1 3 fun b10 o11 =>
 ldI w3 .i64 b10 o11 fun n12 =>
 al w3 3 [.int .i64 n12] fun b13 w14 =>
 ef Pg (Builtin.append_ #[36, 36] 36 #[vS t1.1, vS ⟨some ⟨b13, 0, none⟩, 1, 1⟩]) [kS] w14 fun (r15 : Sl × Unit) w16 =>
 J2 (r15.1, w64 (t1.2.1 + 1), ()) w16) (
 R [vS t1.1] w3)
theorem tie26 (a0 : Option Addr) (R : List Value → World → Prop) (w : World) : compF Pg Try.f26 ⟨[(1, ⟨[(3, kS), (4, kI)], [5, 6, 7, 8, 9, 10, 11, 12, 13, 14, 15, 16, 17, 18, 19, 20, 21, 22, 23, 24]⟩)], [], [], []⟩ [.pointer a0] R w = sh26 a0 R w := by kernel_rfl
theorem call26 {a0 : Option Addr} {w : World} {K : TK [kS] → World → Prop} (h : sh26 a0 (fun vs w' => ∃ t, encK [kS] t = vs ∧ K t w') w) : cl Pg 26 [.pointer a0] [kS] w K := cl_of Try.func26 (tie26 ..) h
/-- detent/detentlaw17.PortPlays -/
def sh6 (a0 : Bool) (a1 : Int) (a2 : Int) (a3 : Sl) (R : List Value → World → Prop) (w : World) : Prop :=
 cl Pg 7 [] [kB] w fun (r1 : Bool × Unit) w2 =>
 cs (!r1.1) (
 R [.bool false] w2) (
 cs (decide (((a3.len : Int) : Int) > (80 : Int))) (
 R [.bool true] w2) (
 cl Pg 8 [.bool a0, .int .i64 a1] [kP, kI] w2 fun (r3 : Option Addr × Int × Unit) w4 =>
 cl Pg 16 [.bool a0, .int .i64 a1] [kP, kI] w4 fun (r5 : Option Addr × Int × Unit) w6 =>
 cl Pg 8 [.bool (!a0), .int .i64 a2] [kP, kI] w6 fun (r7 : Option Addr × Int × Unit) w8 =>
 cl Pg 16 [.bool (!a0), .int .i64 a2] [kP, kI] w8 fun (r9 : Option Addr × Int × Unit) w10 =>
 jn [kB] w10 (fun (t12 : Bool × Unit) w13 =>
 jn [kB] w13 (fun (t16 : Bool × Unit) w17 =>
 jn [kB] w17 (fun (t20 : Bool × Unit) w21 =>
 cs t20.1 (
 R [.bool false] w21) (
 jn [kB] w21 (fun (t24 : Bool × Unit) w25 =>
 cs t24.1 (
 R [.bool true] w25) (
 al w25 48 [.pointer none, .pointer none] fun b27 w28 =>
 st1 w28 b27 0 (.pointer r3.1) fun w29 =>
 st1 w29 b27 (0 + 1) (.pointer r7.1) fun w30 =>
 al w30 49 [.pointer none, .pointer none] fun b31 w32 =>
 st1 w32 b31 0 (.pointer r5.1) fun w33 =>
 st1 w33 b31 (0 + 1) (.pointer r9.1) fun w34 =>
 lp [kI] w34 ((0 : Int), ()) fun (t35 : Int × Unit) J36 w37 =>
 cs (decide ((t35.1 : Int) < ((a3.len : Int) : Int))) (
 ix a3 t35.1 8 fun b38 o39 =>
 ldI w37 .i64 b38 o39 fun n40 =>
 ldI w37 .i64 b38 (o39 + 1) fun n41 =>
 ldI w37 .i64 b38 (o39 + 2) fun n42 =>
 ldI w37 .i64 b38 (o39 + 3) fun n43 =>
 ldI w37 .i64 b38 (o39 + 4) fun n44 =>
 ldI w37 .u32 b38 (o39 + 5) fun n45 =>
 ldS w37 b38 (o39 + 6) fun s46 =>
 ldB w37 b38 (o39 + 7) fun b47 =>
 al w37 51 [.int .i64 0, .int .i64 0, .int .i64 0, .int .i64 0, .int .i64 0, .int .u32 0, .slice none 0 0, .bool false] fun b48 w49 =>
 st1 w49 b48 0 (.int .i64 n40) fun w50 =>
 st1 w50 b48 (0 + 1) (.int .i64 n41) fun w51 =>
 st1 w51 b48 (0 + 2) (.int .i64 n42) fun w52 =>
 st1 w52 b48 (0 + 3) (.int .i64 n43) fun w53 =>
 st1 w53 b48 (0 + 4) (.int .i64 n44) fun w54 =>
 st1 w54 b48 (0 + 5) (.int .u32 n45) fun w55 =>
 st1 w55 b48 (0 + 6) (vS s46) fun w56 =>
 st1 w56 b48 (0 + 7) (.bool b47) fun w57 =>
 ldS w57 b48 (0 + 6) fun s58 =>
 cs (decide (((s58.len : Int) : Int) > (1100 : Int))) (
 R [.bool true] w57) (
 ldI w57 .i64 b48 (0 + 1) fun n59 =>
 ldI w57 .i64 b48 0 fun n60 =>
 jn [] w57 (fun (t62 : Unit) w63 =>
 lp [kI] w63 ((0 : Int), ()) fun (t66 : Int × Unit) J67 w68 =>
 cs (decide ((t66.1 : Int) < (2 : Int))) (
 dr w68 fun w69 =>
 jn [kB] w69 (fun (t71 : Bool × Unit) w72 =>
 cs t71.1 (
 R [.bool false] w72) (
 J67 (w64 (t66.1 + 1), ()) w72)) fun J70 w73 =>
 ixA b27 0 2 t66.1 1 fun b74 o75 =>
 ldP w73 b74 o75 fun p76 =>
 ixA b31 0 2 t66.1 1 fun b77 o78 =>
 ldP w73 b77 o78 fun p79 =>
 nn p79 fun b80 o81 =>
 ldP w73 b80 o81 fun p82 =>
 cl Pg 15 [.pointer p76] [kS] w73 fun (r83 : Sl × Unit) w84 =>
(w84.cell? ⟨b80, o81, none⟩ = some (.pointer p82)) ∧ (
(w84.cell? ⟨b77, o78, none⟩ = some (.pointer p79)) ∧ (
 cl Pg 25 [.pointer p82] [kS] w84 fun (r85 : Sl × Unit) w86 =>
 cl Pg 24 [vS r83.1, vS r85.1] [kB] w86 fun (r87 : Bool × Unit) w88 =>
 cs (!r87.1) (
 J70 (true, ()) w88) (
 ixA b27 0 2 t66.1 1 fun b89 o90 =>
 ldP w88 b89 o90 fun p91 =>
 ixA b31 0 2 t66.1 1 fun b92 o93 =>
 ldP w88 b92 o93 fun p94 =>
 nn p94 fun b95 o96 =>
 ldP w88 b95 (o96 + 1) fun p97 =>
 cl Pg 14 [.pointer p91] [kS] w88 fun (r98 : Sl × Unit) w99 =>
(w99.cell? ⟨b95, o96 + 1, none⟩ = some (.pointer p97)) ∧ (
(w99.cell? ⟨b92, o93, none⟩ = some (.pointer p94)) ∧ (
 cl Pg 25 [.pointer p97] [kS] w99 fun (r100 : Sl × Unit) w101 =>
 cl Pg 24 [vS r98.1, vS r100.1] [kB] w101 fun (r102 : Bool × Unit) w103 =>
 cs (!r102.1) (
 J70 (true, ()) w103) (
 ixA b27 0 2 t66.1 1 fun b104 o105 =>
 ldP w103 b104 o105 fun p106 =>
 ixA b31 0 2 t66.1 1 fun b107 o108 =>
 ldP w103 b107 o108 fun p109 =>
 cl Pg 12 [.pointer p106] [kS] w103 fun (r110 : Sl × Unit) w111 =>
(w111.cell? ⟨b107, o108, none⟩ = some (.pointer p109)) ∧ (
 cl Pg 26 [.pointer p109] [kS] w111 fun (r112 : Sl × Unit) w113 =>
 cl Pg 24 [vS r110.1, vS r112.1] [kB] w113 fun (r114 : Bool × Unit) w115 =>
 J70 (!r114.1, ()) w115)))))))) (
 J36 (w64 (t35.1 + 1), ()) w68)) fun J61 w65 =>
 cs ((n60 : Int) == (1 : Int)) (
 dr w65 fun w116 =>
 ixA b27 0 2 (bAnd .i64 n59 1) 1 fun b117 o118 =>
 ldP w116 b117 o118 fun p119 =>
 ldI w116 .i64 b48 (0 + 2) fun n120 =>
 ldI w116 .i64 b48 (0 + 3) fun n121 =>
 ldI w116 .u32 b48 (0 + 5) fun n122 =>
 ldS w116 b48 (0 + 6) fun s123 =>
(
 cl Pg 9 [.pointer p119, .int .i64 n120, .int .i64 n121, .int .u32 n122, vS s123] [.a [(.i .i64), (.i .i64), .s, .b], kI] w116 fun (r124 : (Int × Int × Sl × Bool × Unit) × Int × Unit) w125 =>
 al w125 29 [.int .i64 0, .int .i64 0, .slice none 0 0, .bool false] fun b126 w127 =>
(w127.cell? ⟨b48, 0 + 6, none⟩ = some (vS s123)) ∧ (
(w127.cell? ⟨b48, 0 + 5, none⟩ = some (.int .u32 n122)) ∧ (
(w127.cell? ⟨b48, 0 + 3, none⟩ = some (.int .i64 n121)) ∧ (
(w127.cell? ⟨b48, 0 + 2, none⟩ = some (.int .i64 n120)) ∧ (
(w127.cell? ⟨b117, o118, none⟩ = some (.pointer p119)) ∧ (
 st1 w127 b126 0 (.int .i64 r124.1.1) fun w128 =>
 st1 w128 b126 (0 + 1) (.int .i64 r124.1.2.1) fun w129 =>
 st1 w129 b126 (0 + 2) (vS r124.1.2.2.1) fun w130 =>
 st1 w130 b126 (0 + 3) (.bool r124.1.2.2.2.1) fun w131 =>
 dr w131 fun w132 =>
 ixA b31 0 2 (bAnd .i64 n59 1) 1 fun b133 o134 =>
 ldP w132 b133 o134 fun p135 =>
 ldI w132 .i64 b48 (0 + 2) fun n136 =>
 ldI w132 .i64 b48 (0 + 3) fun n137 =>
 ldI w132 .u32 b48 (0 + 5) fun n138 =>
 ldS w132 b48 (0 + 6) fun s139 =>
(
 cl Pg 17 [.pointer p135, .int .i64 n136, .int .i64 n137, .int .u32 n138, vS s139] [.a [(.i .i64), (.i .i64), .g, .b], kI] w132 fun (r140 : (Int × Int × ByteArray × Bool × Unit) × Int × Unit) w141 =>
 al w141 53 [.int .i64 0, .int .i64 0, .string ByteArray.empty, .bool false] fun b142 w143 =>
(w143.cell? ⟨b48, 0 + 6, none⟩ = some (vS s139)) ∧ (
(w143.cell? ⟨b48, 0 + 5, none⟩ = some (.int .u32 n138)) ∧ (
(w143.cell? ⟨b48, 0 + 3, none⟩ = some (.int .i64 n137)) ∧ (
(w143.cell? ⟨b48, 0 + 2, none⟩ = some (.int .i64 n136)) ∧ (
(w143.cell? ⟨b133, o134, none⟩ = some (.pointer p135)) ∧ (
 st1 w143 b142 0 (.int .i64 r140.1.1) fun w144 =>
 st1 w144 b142 (0 + 1) (.int .i64 r140.1.2.1) fun w145 =>
 st1 w145 b142 (0 + 2) (.string r140.1.2.2.1) fun w146 =>
 st1 w146 b142 (0 + 3) (.bool r140.1.2.2.2.1) fun w147 =>
 ldI w147 .i64 b126 0 fun n148 =>
 ldI w147 .i64 b126 (0 + 1) fun n149 =>
 ldS w147 b126 (0 + 2) fun s150 =>
 ldB w147 b126 (0 + 3) fun b151 =>
 ldI w147 .i64 b142 0 fun n152 =>
 ldI w147 .i64 b142 (0 + 1) fun n153 =>
 ldG w147 b142 (0 + 2) fun g154 =>
 ldB w147 b142 (0 + 3) fun b155 =>
 cl Pg 18 [.agg #[.int .i64 n148, .int .i64 n149, vS s150, .bool b151], .agg #[.int .i64 n152, .int .i64 n153, .string g154, .bool b155]] [kB] w147 fun (r156 : Bool × Unit) w157 =>
 jn [kB] w157 (fun (t159 : Bool × Unit) w160 =>
 cs t159.1 (
 R [.bool false] w160) (
 J61 () w160)) fun J158 w161 =>
 cs (!r156.1) (
 J158 (true, ()) w161) (
 J158 ((r124.2.1 : Int) != (r140.2.1 : Int), ()) w161))))))) ∧ (
 al w132 53 [.int .i64 0, .int .i64 0, .string ByteArray.empty, .bool false] fun b162 w163 =>
(w163.cell? ⟨b48, 0 + 6, none⟩ = some (vS s139)) ∧ (
(w163.cell? ⟨b48, 0 + 5, none⟩ = some (.int .u32 n138)) ∧ (
(w163.cell? ⟨b48, 0 + 3, none⟩ = some (.int .i64 n137)) ∧ (
(w163.cell? ⟨b48, 0 + 2, none⟩ = some (.int .i64 n136)) ∧ (
(w163.cell? ⟨b133, o134, none⟩ = some (.pointer p135)) ∧ (
 cl Pg 17 [.pointer p135, .int .i64 n136, .int .i64 n137, .int .u32 n138, vS s139] [.a [(.i .i64), (.i .i64), .g, .b], kI] w163 fun (r164 : (Int × Int × ByteArray × Bool × Unit) × Int × Unit) w165 =>
 st1 w165 b162 0 (.int .i64 r164.1.1) fun w166 =>
 st1 w166 b162 (0 + 1) (.int .i64 r164.1.2.1) fun w167 =>
 st1 w167 b162 (0 + 2) (.string r164.1.2.2.1) fun w168 =>
 st1 w168 b162 (0 + 3) (.bool r164.1.2.2.2.1) fun w169 =>
 ldI w169 .i64 b126 0 fun n170 =>
 ldI w169 .i64 b126 (0 + 1) fun n171 =>
 ldS w169 b126 (0 + 2) fun s172 =>
 ldB w169 b126 (0 + 3) fun b173 =>
 ldI w169 .i64 b162 0 fun n174 =>
 ldI w169 .i64 b162 (0 + 1) fun n175 =>
 ldG w169 b162 (0 + 2) fun g176 =>
 ldB w169 b162 (0 + 3) fun b177 =>
 cl Pg 18 [.agg #[.int .i64 n170, .int .i64 n171, vS s172, .bool b173], .agg #[.int .i64 n174, .int .i64 n175, .string g176, .bool b177]] [kB] w169 fun (r178 : Bool × Unit) w179 =>
 jn [kB] w179 (fun (t181 : Bool × Unit) w182 =>
 cs t181.1 (
 R [.bool false] w182) (
 J61 () w182)) fun J180 w183 =>
 cs (!r178.1) (
 J180 (true, ()) w183) (
 J180 ((r124.2.1 : Int) != (r164.2.1 : Int), ()) w183))))))))))))) ∧ (
 al w116 29 [.int .i64 0, .int .i64 0, .slice none 0 0, .bool false] fun b184 w185 =>
(w185.cell? ⟨b48, 0 + 6, none⟩ = some (vS s123)) ∧ (
(w185.cell? ⟨b48, 0 + 5, none⟩ = some (.int .u32 n122)) ∧ (
(w185.cell? ⟨b48, 0 + 3, none⟩ = some (.int .i64 n121)) ∧ (
(w185.cell? ⟨b48, 0 + 2, none⟩ = some (.int .i64 n120)) ∧ (
(w185.cell? ⟨b117, o118, none⟩ = some (.pointer p119)) ∧ (
 cl Pg 9 [.pointer p119, .int .i64 n120, .int .i64 n121, .int .u32 n122, vS s123] [.a [(.i .i64), (.i .i64), .s, .b], kI] w185 fun (r186 : (Int × Int × Sl × Bool × Unit) × Int × Unit) w187 =>
 st1 w187 b184 0 (.int .i64 r186.1.1) fun w188 =>
 st1 w188 b184 (0 + 1) (.int .i64 r186.1.2.1) fun w189 =>
 st1 w189 b184 (0 + 2) (vS r186.1.2.2.1) fun w190 =>
 st1 w190 b184 (0 + 3) (.bool r186.1.2.2.2.1) fun w191 =>
 dr w191 fun w192 =>
 ixA b31 0 2 (bAnd .i64 n59 1) 1 fun b193 o194 =>
 ldP w192 b193 o194 fun p195 =>
 ldI w192 .i64 b48 (0 + 2) fun n196 =>
 ldI w192 .i64 b48 (0 + 3) fun n197 =>
 ldI w192 .u32 b48 (0 + 5) fun n198 =>
 ldS w192 b48 (0 + 6) fun s199 =>
(
 cl Pg 17 [.pointer p195, .int .i64 n196, .int .i64 n197, .int .u32 n198, vS s199] [.a [(.i .i64), (.i .i64), .g, .b], kI] w192 fun (r200 : (Int × Int × ByteArray × Bool × Unit) × Int × Unit) w201 =>
 al w201 53 [.int .i64 0, .int .i64 0, .string ByteArray.empty, .bool false] fun b202 w203 =>
(w203.cell? ⟨b48, 0 + 6, none⟩ = some (vS s199)) ∧ (
(w203.cell? ⟨b48, 0 + 5, none⟩ = some (.int .u32 n198)) ∧ (
(w203.cell? ⟨b48, 0 + 3, none⟩ = some (.int .i64 n197)) ∧ (
(w203.cell? ⟨b48, 0 + 2, none⟩ = some (.int .i64 n196)) ∧ (
(w203.cell? ⟨b193, o194, none⟩ = some (.pointer p195)) ∧ (
 st1 w203 b202 0 (.int .i64 r200.1.1) fun w204 =>
 st1 w204 b202 (0 + 1) (.int .i64 r200.1.2.1) fun w205 =>
 st1 w205 b202 (0 + 2) (.string r200.1.2.2.1) fun w206 =>
 st1 w206 b202 (0 + 3) (.bool r200.1.2.2.2.1) fun w207 =>
 ldI w207 .i64 b184 0 fun n208 =>
 ldI w207 .i64 b184 (0 + 1) fun n209 =>
 ldS w207 b184 (0 + 2) fun s210 =>
 ldB w207 b184 (0 + 3) fun b211 =>
 ldI w207 .i64 b202 0 fun n212 =>
 ldI w207 .i64 b202 (0 + 1) fun n213 =>
 ldG w207 b202 (0 + 2) fun g214 =>
 ldB w207 b202 (0 + 3) fun b215 =>
 cl Pg 18 [.agg #[.int .i64 n208, .int .i64 n209, vS s210, .bool b211], .agg #[.int .i64 n212, .int .i64 n213, .string g214, .bool b215]] [kB] w207 fun (r216 : Bool × Unit) w217 =>
 jn [kB] w217 (fun (t219 : Bool × Unit) w220 =>
 cs t219.1 (
 R [.bool false] w220) (
 J61 () w220)) fun J218 w221 =>
 cs (!r216.1) (
 J218 (true, ()) w221) (
 J218 ((r186.2.1 : Int) != (r200.2.1 : Int), ()) w221))))))) ∧ (
 al w192 53 [.int .i64 0, .int .i64 0, .string ByteArray.empty, .bool false] fun b222 w223 =>
(w223.cell? ⟨b48, 0 + 6, none⟩ = some (vS s199)) ∧ (
(w223.cell? ⟨b48, 0 + 5, none⟩ = some (.int .u32 n198)) ∧ (
(w223.cell? ⟨b48, 0 + 3, none⟩ = some (.int .i64 n197)) ∧ (
(w223.cell? ⟨b48, 0 + 2, none⟩ = some (.int .i64 n196)) ∧ (
(w223.cell? ⟨b193, o194, none⟩ = some (.pointer p195)) ∧ (
 cl Pg 17 [.pointer p195, .int .i64 n196, .int .i64 n197, .int .u32 n198, vS s199] [.a [(.i .i64), (.i .i64), .g, .b], kI] w223 fun (r224 : (Int × Int × ByteArray × Bool × Unit) × Int × Unit) w225 =>
 st1 w225 b222 0 (.int .i64 r224.1.1) fun w226 =>
 st1 w226 b222 (0 + 1) (.int .i64 r224.1.2.1) fun w227 =>
 st1 w227 b222 (0 + 2) (.string r224.1.2.2.1) fun w228 =>
 st1 w228 b222 (0 + 3) (.bool r224.1.2.2.2.1) fun w229 =>
 ldI w229 .i64 b184 0 fun n230 =>
 ldI w229 .i64 b184 (0 + 1) fun n231 =>
 ldS w229 b184 (0 + 2) fun s232 =>
 ldB w229 b184 (0 + 3) fun b233 =>
 ldI w229 .i64 b222 0 fun n234 =>
 ldI w229 .i64 b222 (0 + 1) fun n235 =>
 ldG w229 b222 (0 + 2) fun g236 =>
 ldB w229 b222 (0 + 3) fun b237 =>
 cl Pg 18 [.agg #[.int .i64 n230, .int .i64 n231, vS s232, .bool b233], .agg #[.int .i64 n234, .int .i64 n235, .string g236, .bool b237]] [kB] w229 fun (r238 : Bool × Unit) w239 =>
 jn [kB] w239 (fun (t241 : Bool × Unit) w242 =>
 cs t241.1 (
 R [.bool false] w242) (
 J61 () w242)) fun J240 w243 =>
 cs (!r238.1) (
 J240 (true, ()) w243) (
 J240 ((r186.2.1 : Int) != (r224.2.1 : Int), ()) w243)))))))))))))) (
 jn [] w65 (fun (t245 : Unit) w246 =>
 J61 () w246) fun J244 w247 =>
 cs ((n60 : Int) == (2 : Int)) (
 dr w247 fun w248 =>
 ixA b27 0 2 (bAnd .i64 n59 1) 1 fun b249 o250 =>
 ldP w248 b249 o250 fun p251 =>
 ldI w248 .i64 b48 (0 + 2) fun n252 =>
 ldI w248 .i64 b48 (0 + 3) fun n253 =>
 ldI w248 .u32 b48 (0 + 5) fun n254 =>
(
 cl Pg 10 [.pointer p251, .int .i64 n252, .int .i64 n253, .int .u32 n254] [.a [(.i .i64), (.i .i64), .s, .b], kI] w248 fun (r255 : (Int × Int × Sl × Bool × Unit) × Int × Unit) w256 =>
 al w256 29 [.int .i64 0, .int .i64 0, .slice none 0 0, .bool false] fun b257 w258 =>
(w258.cell? ⟨b48, 0 + 5, none⟩ = some (.int .u32 n254)) ∧ (
(w258.cell? ⟨b48, 0 + 3, none⟩ = some (.int .i64 n253)) ∧ (
(w258.cell? ⟨b48, 0 + 2, none⟩ = some (.int .i64 n252)) ∧ (
(w258.cell? ⟨b249, o250, none⟩ = some (.pointer p251)) ∧ (
 st1 w258 b257 0 (.int .i64 r255.1.1) fun w259 =>
 st1 w259 b257 (0 + 1) (.int .i64 r255.1.2.1) fun w260 =>
 st1 w260 b257 (0 + 2) (vS r255.1.2.2.1) fun w261 =>
 st1 w261 b257 (0 + 3) (.bool r255.1.2.2.2.1) fun w262 =>
 dr w262 fun w263 =>
 ixA b31 0 2 (bAnd .i64 n59 1) 1 fun b264 o265 =>
 ldP w263 b264 o265 fun p266 =>
 ldI w263 .i64 b48 (0 + 2) fun n267 =>
 ldI w263 .i64 b48 (0 + 3) fun n268 =>
 ldI w263 .u32 b48 (0 + 5) fun n269 =>
(
 cl Pg 19 [.pointer p266, .int .i64 n267, .int .i64 n268, .int .u32 n269] [.a [(.i .i64), (.i .i64), .g, .b], kI] w263 fun (r270 : (Int × Int × ByteArray × Bool × Unit) × Int × Unit) w271 =>
 al w271 53 [.int .i64 0, .int .i64 0, .string ByteArray.empty, .bool false] fun b272 w273 =>
(w273.cell? ⟨b48, 0 + 5, none⟩ = some (.int .u32 n269)) ∧ (
(w273.cell? ⟨b48, 0 + 3, none⟩ = some (.int .i64 n268)) ∧ (
(w273.cell? ⟨b48, 0 + 2, none⟩ = some (.int .i64 n267)) ∧ (
(w273.cell? ⟨b264, o265, none⟩ = some (.pointer p266)) ∧ (
 st1 w273 b272 0 (.int .i64 r270.1.1) fun w274 =>
 st1 w274 b272 (0 + 1) (.int .i64 r270.1.2.1) fun w275 =>
 st1 w275 b272 (0 + 2) (.string r270.1.2.2.1) fun w276 =>
 st1 w276 b272 (0 + 3) (.bool r270.1.2.2.2.1) fun w277 =>
 ldI w277 .i64 b257 0 fun n278 =>
 ldI w277 .i64 b257 (0 + 1) fun n279 =>
 ldS w277 b257 (0 + 2) fun s280 =>
 ldB w277 b257 (0 + 3) fun b281 =>
 ldI w277 .i64 b272 0 fun n282 =>
 ldI w277 .i64 b272 (0 + 1) fun n283 =>
 ldG w277 b272 (0 + 2) fun g284 =>
 ldB w277 b272 (0 + 3) fun b285 =>
 cl Pg 18 [.agg #[.int .i64 n278, .int .i64 n279, vS s280, .bool b281], .agg #[.int .i64 n282, .int .i64 n283, .string g284, .bool b285]] [kB] w277 fun (r286 : Bool × Unit) w287 =>
 jn [kB] w287 (fun (t289 : Bool × Unit) w290 =>
 cs t289.1 (
 R [.bool false] w290) (
 J244 () w290)) fun J288 w291 =>
 cs (!r286.1) (
 J288 (true, ()) w291) (
 J288 ((r255.2.1 : Int) != (r270.2.1 : Int), ()) w291)))))) ∧ (
 al w263 53 [.int .i64 0, .int .i64 0, .string ByteArray.empty, .bool false] fun b292 w293 =>
(w293.cell? ⟨b48, 0 + 5, none⟩ = some (.int .u32 n269)) ∧ (
(w293.cell? ⟨b48, 0 + 3, none⟩ = some (.int .i64 n268)) ∧ (
(w293.cell? ⟨b48, 0 + 2, none⟩ = some (.int .i64 n267)) ∧ (
(w293.cell? ⟨b264, o265, none⟩ = some (.pointer p266)) ∧ (
 cl Pg 19 [.pointer p266, .int .i64 n267, .int .i64 n268, .int .u32 n269] [.a [(.i .i64), (.i .i64), .g, .b], kI] w293 fun (r294 : (Int × Int × ByteArray × Bool × Unit) × Int × Unit) w295 =>
 st1 w295 b292 0 (.int .i64 r294.1.1) fun w296 =>
 st1 w296 b292 (0 + 1) (.int .i64 r294.1.2.1) fun w297 =>
 st1 w297 b292 (0 + 2) (.string r294.1.2.2.1) fun w298 =>
 st1 w298 b292 (0 + 3) (.bool r294.1.2.2.2.1) fun w299 =>
 ldI w299 .i64 b257 0 fun n300 =>
 ldI w299 .i64 b257 (0 + 1) fun n301 =>
 ldS w299 b257 (0 + 2) fun s302 =>
 ldB w299 b257 (0 + 3) fun b303 =>
 ldI w299 .i64 b292 0 fun n304 =>
 ldI w299 .i64 b292 (0 + 1) fun n305 =>
 ldG w299 b292 (0 + 2) fun g306 =>
 ldB w299 b292 (0 + 3) fun b307 =>
 cl Pg 18 [.agg #[.int .i64 n300, .int .i64 n301, vS s302, .bool b303], .agg #[.int .i64 n304, .int .i64 n305, .string g306, .bool b307]] [kB] w299 fun (r308 : Bool × Unit) w309 =>
 jn [kB] w309 (fun (t311 : Bool × Unit) w312 =>
 cs t311.1 (
 R [.bool false] w312) (
 J244 () w312)) fun J310 w313 =>
 cs (!r308.1) (
 J310 (true, ()) w313) (
 J310 ((r255.2.1 : Int) != (r294.2.1 : Int), ()) w313))))))))))) ∧ (
 al w248 29 [.int .i64 0, .int .i64 0, .slice none 0 0, .bool false] fun b314 w315 =>
(w315.cell? ⟨b48, 0 + 5, none⟩ = some (.int .u32 n254)) ∧ (
(w315.cell? ⟨b48, 0 + 3, none⟩ = some (.int .i64 n253)) ∧ (
(w315.cell? ⟨b48, 0 + 2, none⟩ = some (.int .i64 n252)) ∧ (
(w315.cell? ⟨b249, o250, none⟩ = some (.pointer p251)) ∧ (
 cl Pg 10 [.pointer p251, .int .i64 n252, .int .i64 n253, .int .u32 n254] [.a [(.i .i64), (.i .i64), .s, .b], kI] w315 fun (r316 : (Int × Int × Sl × Bool × Unit) × Int × Unit) w317 =>
 st1 w317 b314 0 (.int .i64 r316.1.1) fun w318 =>
 st1 w318 b314 (0 + 1) (.int .i64 r316.1.2.1) fun w319 =>
 st1 w319 b314 (0 + 2) (vS r316.1.2.2.1) fun w320 =>
 st1 w320 b314 (0 + 3) (.bool r316.1.2.2.2.1) fun w321 =>
 dr w321 fun w322 =>
 ixA b31 0 2 (bAnd .i64 n59 1) 1 fun b323 o324 =>
 ldP w322 b323 o324 fun p325 =>
 ldI w322 .i64 b48 (0 + 2) fun n326 =>
 ldI w322 .i64 b48 (0 + 3) fun n327 =>
 ldI w322 .u32 b48 (0 + 5) fun n328 =>
(
 cl Pg 19 [.pointer p325, .int .i64 n326, .int .i64 n327, .int .u32 n328] [.a [(.i .i64), (.i .i64), .g, .b], kI] w322 fun (r329 : (Int × Int × ByteArray × Bool × Unit) × Int × Unit) w330 =>
 al w330 53 [.int .i64 0, .int .i64 0, .string ByteArray.empty, .bool false] fun b331 w332 =>
(w332.cell? ⟨b48, 0 + 5, none⟩ = some (.int .u32 n328)) ∧ (
(w332.cell? ⟨b48, 0 + 3, none⟩ = some (.int .i64 n327)) ∧ (
(w332.cell? ⟨b48, 0 + 2, none⟩ = some (.int .i64 n326)) ∧ (
(w332.cell? ⟨b323, o324, none⟩ = some (.pointer p325)) ∧ (
 st1 w332 b331 0 (.int .i64 r329.1.1) fun w333 =>
 st1 w333 b331 (0 + 1) (.int .i64 r329.1.2.1) fun w334 =>
 st1 w334 b331 (0 + 2) (.string r329.1.2.2.1) fun w335 =>
 st1 w335 b331 (0 + 3) (.bool r329.1.2.2.2.1) fun w336 =>
 ldI w336 .i64 b314 0 fun n337 =>
 ldI w336 .i64 b314 (0 + 1) fun n338 =>
 ldS w336 b314 (0 + 2) fun s339 =>
 ldB w336 b314 (0 + 3) fun b340 =>
 ldI w336 .i64 b331 0 fun n341 =>
 ldI w336 .i64 b331 (0 + 1) fun n342 =>
 ldG w336 b331 (0 + 2) fun g343 =>
 ldB w336 b331 (0 + 3) fun b344 =>
 cl Pg 18 [.agg #[.int .i64 n337, .int .i64 n338, vS s339, .bool b340], .agg #[.int .i64 n341, .int .i64 n342, .string g343, .bool b344]] [kB] w336 fun (r345 : Bool × Unit) w346 =>
 jn [kB] w346 (fun (t348 : Bool × Unit) w349 =>
 cs t348.1 (
 R [.bool false] w349) (
 J244 () w349)) fun J347 w350 =>
 cs (!r345.1) (
 J347 (true, ()) w350) (
 J347 ((r316.2.1 : Int) != (r329.2.1 : Int), ()) w350)))))) ∧ (
 al w322 53 [.int .i64 0, .int .i64 0, .string ByteArray.empty, .bool false] fun b351 w352 =>
(w352.cell? ⟨b48, 0 + 5, none⟩ = some (.int .u32 n328)) ∧ (
(w352.cell? ⟨b48, 0 + 3, none⟩ = some (.int .i64 n327)) ∧ (
(w352.cell? ⟨b48, 0 + 2, none⟩ = some (.int .i64 n326)) ∧ (
(w352.cell? ⟨b323, o324, none⟩ = some (.pointer p325)) ∧ (
 cl Pg 19 [.pointer p325, .int .i64 n326, .int .i64 n327, .int .u32 n328] [.a [(.i .i64), (.i .i64), .g, .b], kI] w352 fun (r353 : (Int × Int × ByteArray × Bool × Unit) × Int × Unit) w354 =>
 st1 w354 b351 0 (.int .i64 r353.1.1) fun w355 =>
 st1 w355 b351 (0 + 1) (.int .i64 r353.1.2.1) fun w356 =>
 st1 w356 b351 (0 + 2) (.string r353.1.2.2.1) fun w357 =>
 st1 w357 b351 (0 + 3) (.bool r353.1.2.2.2.1) fun w358 =>
 ldI w358 .i64 b314 0 fun n359 =>
 ldI w358 .i64 b314 (0 + 1) fun n360 =>
 ldS w358 b314 (0 + 2) fun s361 =>
 ldB w358 b314 (0 + 3) fun b362 =>
 ldI w358 .i64 b351 0 fun n363 =>
 ldI w358 .i64 b351 (0 + 1) fun n364 =>
 ldG w358 b351 (0 + 2) fun g365 =>
 ldB w358 b351 (0 + 3) fun b366 =>
 cl Pg 18 [.agg #[.int .i64 n359, .int .i64 n360, vS s361, .bool b362], .agg #[.int .i64 n363, .int .i64 n364, .string g365, .bool b366]] [kB] w358 fun (r367 : Bool × Unit) w368 =>
 jn [kB] w368 (fun (t370 : Bool × Unit) w371 =>
 cs t370.1 (
 R [.bool false] w371) (
 J244 () w371)) fun J369 w372 =>
 cs (!r367.1) (
 J369 (true, ()) w372) (
 J369 ((r316.2.1 : Int) != (r353.2.1 : Int), ()) w372)))))))))))) (
 jn [] w247 (fun (t374 : Unit) w375 =>
 J244 () w375) fun J373 w376 =>
 cs ((n60 : Int) == (3 : Int)) (
 dr w376 fun w377 =>
 ixA b27 0 2 (bAnd .i64 n59 1) 1 fun b378 o379 =>
 ldP w377 b378 o379 fun p380 =>
 ldI w377 .i64 b48 (0 + 4) fun n381 =>
 ldS w377 b48 (0 + 6) fun s382 =>
 cl Pg 11 [.pointer p380, .int .i64 n381, vS s382] [kI, kI] w377 fun (r383 : Int × Int × Unit) w384 =>
 dr w384 fun w385 =>
 ixA b31 0 2 (bAnd .i64 n59 1) 1 fun b386 o387 =>
 ldP w385 b386 o387 fun p388 =>
 ldI w385 .i64 b48 (0 + 4) fun n389 =>
 ldS w385 b48 (0 + 6) fun s390 =>
 cl Pg 20 [.pointer p388, .int .i64 n389, vS s390] [kI, kI] w385 fun (r391 : Int × Int × Unit) w392 =>
 jn [kB] w392 (fun (t394 : Bool × Unit) w395 =>
 cs t394.1 (
 R [.bool false] w395) (
 J373 () w395)) fun J393 w396 =>
 cs ((r383.1 : Int) != (r391.1 : Int)) (
 J393 (true, ()) w396) (
 J393 ((r383.2.1 : Int) != (r391.2.1 : Int), ()) w396)) (
 jn [] w376 (fun (t398 : Unit) w399 =>
 J373 () w399) fun J397 w400 =>
 cs ((n60 : Int) == (4 : Int)) (
 ldB w400 b48 (0 + 7) fun b401 =>
 jn [kI] w400 (fun (t403 : Int × Unit) w404 =>
 dr w404 fun w406 =>
 ixA b27 0 2 (bAnd .i64 n59 1) 1 fun b407 o408 =>
 ldP w406 b407 o408 fun p409 =>
 ldI w406 .i64 b48 (0 + 4) fun n410 =>
 ixA b27 0 2 t403.1 1 fun b411 o412 =>
 ldP w406 b411 o412 fun p413 =>
 ldI w406 .u32 b48 (0 + 5) fun n414 =>
 ldS w406 b48 (0 + 6) fun s415 =>
(
 cl Pg 13 [.pointer p409, .int .i64 n410, .pointer p413, .int .u32 n414, vS s415] [.a [(.i .i64), (.i .i64), .s, .b], kI] w406 fun (r416 : (Int × Int × Sl × Bool × Unit) × Int × Unit) w417 =>
 al w417 29 [.int .i64 0, .int .i64 0, .slice none 0 0, .bool false] fun b418 w419 =>
(w419.cell? ⟨b48, 0 + 6, none⟩ = some (vS s415)) ∧ (
(w419.cell? ⟨b48, 0 + 5, none⟩ = some (.int .u32 n414)) ∧ (
(w419.cell? ⟨b411, o412, none⟩ = some (.pointer p413)) ∧ (
(w419.cell? ⟨b48, 0 + 4, none⟩ = some (.int .i64 n410)) ∧ (
(w419.cell? ⟨b407, o408, none⟩ = some (.pointer p409)) ∧ (
 st1 w419 b418 0 (.int .i64 r416.1.1) fun w420 =>
 st1 w420 b418 (0 + 1) (.int .i64 r416.1.2.1) fun w421 =>
 st1 w421 b418 (0 + 2) (vS r416.1.2.2.1) fun w422 =>
 st1 w422 b418 (0 + 3) (.bool r416.1.2.2.2.1) fun w423 =>
 dr w423 fun w424 =>
 ixA b31 0 2 (bAnd .i64 n59 1) 1 fun b425 o426 =>
 ldP w424 b425 o426 fun p427 =>
 ldI w424 .i64 b48 (0 + 4) fun n428 =>
 ixA b31 0 2 t403.1 1 fun b429 o430 =>
 ldP w424 b429 o430 fun p431 =>
 ldI w424 .u32 b48 (0 + 5) fun n432 =>
 ldS w424 b48 (0 + 6) fun s433 =>
(
 cl Pg 21 [.pointer p427, .int .i64 n428, .pointer p431, .int .u32 n432, vS s433] [.a [(.i .i64), (.i .i64), .g, .b], kI] w424 fun (r434 : (Int × Int × ByteArray × Bool × Unit) × Int × Unit) w435 =>
 al w435 53 [.int .i64 0, .int .i64 0, .string ByteArray.empty, .bool false] fun b436 w437 =>
(w437.cell? ⟨b48, 0 + 6, none⟩ = some (vS s433)) ∧ (
(w437.cell? ⟨b48, 0 + 5, none⟩ = some (.int .u32 n432)) ∧ (
(w437.cell? ⟨b429, o430, none⟩ = some (.pointer p431)) ∧ (
(w437.cell? ⟨b48, 0 + 4, none⟩ = some (.int .i64 n428)) ∧ (
(w437.cell? ⟨b425, o426, none⟩ = some (.pointer p427)) ∧ (
 st1 w437 b436 0 (.int .i64 r434.1.1) fun w438 =>
 st1 w438 b436 (0 + 1) (.int .i64 r434.1.2.1) fun w439 =>
 st1 w439 b436 (0 + 2) (.string r434.1.2.2.1) fun w440 =>
 st1 w440 b436 (0 + 3) (.bool r434.1.2.2.2.1) fun w441 =>
 ldI w441 .i64 b418 0 fun n442 =>
 ldI w441 .i64 b418 (0 + 1) fun n443 =>
 ldS w441 b418 (0 + 2) fun s444 =>
 ldB w441 b418 (0 + 3) fun b445 =>
 ldI w441 .i64 b436 0 fun n446 =>
 ldI w441 .i64 b436 (0 + 1) fun n447 =>
 ldG w441 b436 (0 + 2) fun g448 =>
 ldB w441 b436 (0 + 3) fun b449 =>
 cl Pg 18 [.agg #[.int .i64 n442, .int .i64 n443, vS s444, .bool b445], .agg #[.int .i64 n446, .int .i64 n447, .string g448, .bool b449]] [kB] w441 fun (r450 : Bool × Unit) w451 =>
 jn [kB] w451 (fun (t453 : Bool × Unit) w454 =>
 cs t453.1 (
 R [.bool false] w454) (
 J397 () w454)) fun J452 w455 =>
 cs (!r450.1) (
 J452 (true, ()) w455) (
 J452 ((r416.2.1 : Int) != (r434.2.1 : Int), ()) w455))))))) ∧ (
 al w424 53 [.int .i64 0, .int .i64 0, .string ByteArray.empty, .bool false] fun b456 w457 =>
(w457.cell? ⟨b48, 0 + 6, none⟩ = some (vS s433)) ∧ (
(w457.cell? ⟨b48, 0 + 5, none⟩ = some (.int .u32 n432)) ∧ (
(w457.cell? ⟨b429, o430, none⟩ = some (.pointer p431)) ∧ (
(w457.cell? ⟨b48, 0 + 4, none⟩ = some (.int .i64 n428)) ∧ (
(w457.cell? ⟨b425, o426, none⟩ = some (.pointer p427)) ∧ (
 cl Pg 21 [.pointer p427, .int .i64 n428, .pointer p431, .int .u32 n432, vS s433] [.a [(.i .i64), (.i .i64), .g, .b], kI] w457 fun (r458 : (Int × Int × ByteArray × Bool × Unit) × Int × Unit) w459 =>
 st1 w459 b456 0 (.int .i64 r458.1.1) fun w460 =>
 st1 w460 b456 (0 + 1) (.int .i64 r458.1.2.1) fun w461 =>
 st1 w461 b456 (0 + 2) (.string r458.1.2.2.1) fun w462 =>
 st1 w462 b456 (0 + 3) (.bool r458.1.2.2.2.1) fun w463 =>
 ldI w463 .i64 b418 0 fun n464 =>
 ldI w463 .i64 b418 (0 + 1) fun n465 =>
 ldS w463 b418 (0 + 2) fun s466 =>
 ldB w463 b418 (0 + 3) fun b467 =>
 ldI w463 .i64 b456 0 fun n468 =>
 ldI w463 .i64 b456 (0 + 1) fun n469 =>
 ldG w463 b456 (0 + 2) fun g470 =>
 ldB w463 b456 (0 + 3) fun b471 =>
 cl Pg 18 [.agg #[.int .i64 n464, .int .i64 n465, vS s466, .bool b467], .agg #[.int .i64 n468, .int .i64 n469, .string g470, .bool b471]] [kB] w463 fun (r472 : Bool × Unit) w473 =>
 jn [kB] w473 (fun (t475 : Bool × Unit) w476 =>
 cs t475.1 (
 R [.bool false] w476) (
 J397 () w476)) fun J474 w477 =>
 cs (!r472.1) (
 J474 (true, ()) w477) (
 J474 ((r416.2.1 : Int) != (r458.2.1 : Int), ()) w477))))))))))))) ∧ (
 al w406 29 [.int .i64 0, .int .i64 0, .slice none 0 0, .bool false] fun b478 w479 =>
(w479.cell? ⟨b48, 0 + 6, none⟩ = some (vS s415)) ∧ (
(w479.cell? ⟨b48, 0 + 5, none⟩ = some (.int .u32 n414)) ∧ (
(w479.cell? ⟨b411, o412, none⟩ = some (.pointer p413)) ∧ (
(w479.cell? ⟨b48, 0 + 4, none⟩ = some (.int .i64 n410)) ∧ (
(w479.cell? ⟨b407, o408, none⟩ = some (.pointer p409)) ∧ (
 cl Pg 13 [.pointer p409, .int .i64 n410, .pointer p413, .int .u32 n414, vS s415] [.a [(.i .i64), (.i .i64), .s, .b], kI] w479 fun (r480 : (Int × Int × Sl × Bool × Unit) × Int × Unit) w481 =>
 st1 w481 b478 0 (.int .i64 r480.1.1) fun w482 =>
 st1 w482 b478 (0 + 1) (.int .i64 r480.1.2.1) fun w483 =>
 st1 w483 b478 (0 + 2) (vS r480.1.2.2.1) fun w484 =>
 st1 w484 b478 (0 + 3) (.bool r480.1.2.2.2.1) fun w485 =>
 dr w485 fun w486 =>
 ixA b31 0 2 (bAnd .i64 n59 1) 1 fun b487 o488 =>
 ldP w486 b487 o488 fun p489 =>
 ldI w486 .i64 b48 (0 + 4) fun n490 =>
 ixA b31 0 2 t403.1 1 fun b491 o492 =>
 ldP w486 b491 o492 fun p493 =>
 ldI w486 .u32 b48 (0 + 5) fun n494 =>
 ldS w486 b48 (0 + 6) fun s495 =>
(
 cl Pg 21 [.pointer p489, .int .i64 n490, .pointer p493, .int .u32 n494, vS s495] [.a [(.i .i64), (.i .i64), .g, .b], kI] w486 fun (r496 : (Int × Int × ByteArray × Bool × Unit) × Int × Unit) w497 =>
 al w497 53 [.int .i64 0, .int .i64 0, .string ByteArray.empty, .bool false] fun b498 w499 =>
(w499.cell? ⟨b48, 0 + 6, none⟩ = some (vS s495)) ∧ (
(w499.cell? ⟨b48, 0 + 5, none⟩ = some (.int .u32 n494)) ∧ (
(w499.cell? ⟨b491, o492, none⟩ = some (.pointer p493)) ∧ (
(w499.cell? ⟨b48, 0 + 4, none⟩ = some (.int .i64 n490)) ∧ (
(w499.cell? ⟨b487, o488, none⟩ = some (.pointer p489)) ∧ (
 st1 w499 b498 0 (.int .i64 r496.1.1) fun w500 =>
 st1 w500 b498 (0 + 1) (.int .i64 r496.1.2.1) fun w501 =>
 st1 w501 b498 (0 + 2) (.string r496.1.2.2.1) fun w502 =>
 st1 w502 b498 (0 + 3) (.bool r496.1.2.2.2.1) fun w503 =>
 ldI w503 .i64 b478 0 fun n504 =>
 ldI w503 .i64 b478 (0 + 1) fun n505 =>
 ldS w503 b478 (0 + 2) fun s506 =>
 ldB w503 b478 (0 + 3) fun b507 =>
 ldI w503 .i64 b498 0 fun n508 =>
 ldI w503 .i64 b498 (0 + 1) fun n509 =>
 ldG w503 b498 (0 + 2) fun g510 =>
 ldB w503 b498 (0 + 3) fun b511 =>
 cl Pg 18 [.agg #[.int .i64 n504, .int .i64 n505, vS s506, .bool b507], .agg #[.int .i64 n508, .int .i64 n509, .string g510, .bool b511]] [kB] w503 fun (r512 : Bool × Unit) w513 =>
 jn [kB] w513 (fun (t515 : Bool × Unit) w516 =>
 cs t515.1 (
 R [.bool false] w516) (
 J397 () w516)) fun J514 w517 =>
 cs (!r512.1) (
 J514 (true, ()) w517) (
 J514 ((r480.2.1 : Int) != (r496.2.1 : Int), ()) w517))))))) ∧ (
 al w486 53 [.int .i64 0, .int .i64 0, .string ByteArray.empty, .bool false] fun b518 w519 =>
(w519.cell? ⟨b48, 0 + 6, none⟩ = some (vS s495)) ∧ (
(w519.cell? ⟨b48, 0 + 5, none⟩ = some (.int .u32 n494)) ∧ (
(w519.cell? ⟨b491, o492, none⟩ = some (.pointer p493)) ∧ (
(w519.cell? ⟨b48, 0 + 4, none⟩ = some (.int .i64 n490)) ∧ (
(w519.cell? ⟨b487, o488, none⟩ = some (.pointer p489)) ∧ (
 cl Pg 21 [.pointer p489, .int .i64 n490, .pointer p493, .int .u32 n494, vS s495] [.a [(.i .i64), (.i .i64), .g, .b], kI] w519 fun (r520 : (Int × Int × ByteArray × Bool × Unit) × Int × Unit) w521 =>
 st1 w521 b518 0 (.int .i64 r520.1.1) fun w522 =>
 st1 w522 b518 (0 + 1) (.int .i64 r520.1.2.1) fun w523 =>
 st1 w523 b518 (0 + 2) (.string r520.1.2.2.1) fun w524 =>
 st1 w524 b518 (0 + 3) (.bool r520.1.2.2.2.1) fun w525 =>
 ldI w525 .i64 b478 0 fun n526 =>
 ldI w525 .i64 b478 (0 + 1) fun n527 =>
 ldS w525 b478 (0 + 2) fun s528 =>
 ldB w525 b478 (0 + 3) fun b529 =>
 ldI w525 .i64 b518 0 fun n530 =>
 ldI w525 .i64 b518 (0 + 1) fun n531 =>
 ldG w525 b518 (0 + 2) fun g532 =>
 ldB w525 b518 (0 + 3) fun b533 =>
 cl Pg 18 [.agg #[.int .i64 n526, .int .i64 n527, vS s528, .bool b529], .agg #[.int .i64 n530, .int .i64 n531, .string g532, .bool b533]] [kB] w525 fun (r534 : Bool × Unit) w535 =>
 jn [kB] w535 (fun (t537 : Bool × Unit) w538 =>
 cs t537.1 (
 R [.bool false] w538) (
 J397 () w538)) fun J536 w539 =>
 cs (!r534.1) (
 J536 (true, ()) w539) (
 J536 ((r480.2.1 : Int) != (r520.2.1 : Int), ()) w539)))))))))))))) fun J402 w405 =>
 cs b401 (
 J402 (w64 (1 - (bAnd .i64 n59 1)), ()) w405) (
 J402 (bAnd .i64 n59 1, ()) w405)) (
 jn [] w400 (fun (t541 : Unit) w542 =>
 J397 () w542) fun J540 w543 =>
 cs ((n60 : Int) == (5 : Int)) (
 dr w543 fun w544 =>
 ixA b27 0 2 (bAnd .i64 n59 1) 1 fun b545 o546 =>
 ldP w544 b545 o546 fun p547 =>
 ldI w544 .i64 b48 (0 + 2) fun n548 =>
 ixA b31 0 2 (bAnd .i64 n59 1) 1 fun b549 o550 =>
 ldP w544 b549 o550 fun p551 =>
 ldI w544 .i64 b48 (0 + 2) fun n552 =>
 cl Pg 22 [.pointer p547, .int .i64 n548] [kB] w544 fun (r553 : Bool × Unit) w554 =>
(w554.cell? ⟨b48, 0 + 2, none⟩ = some (.int .i64 n552)) ∧ (
(w554.cell? ⟨b549, o550, none⟩ = some (.pointer p551)) ∧ (
 cl Pg 23 [.pointer p551, .int .i64 n552] [kB] w554 fun (r555 : Bool × Unit) w556 =>
 cs (!(r553.1 == r555.1)) (
 R [.bool false] w556) (
 J540 () w556)))) (
 J540 () w543))))))) (
 R [.bool true] w37))) fun J23 w26 =>
 cs r5.1.isNone (
 J23 (true, ()) w26) (
 J23 (r9.1.isNone, ()) w26))) fun J19 w22 =>
 cs t16.1 (
 J19 (true, ()) w22) (
 J19 (!(r7.1.isNone == r9.1.isNone), ()) w22)) fun J15 w18 =>
 cs t12.1 (
 J15 (true, ()) w18) (
 J15 (!(r3.1.isNone == r5.1.isNone), ()) w18)) fun J11 w14 =>
 cs ((r3.2.1 : Int) != (r5.2.1 : Int)) (
 J11 (true, ()) w14) (
 J11 ((r7.2.1 : Int) != (r9.2.1 : Int), ()) w14)))
theorem tie6 (a0 : Bool) (a1 : Int) (a2 : Int) (a3 : Sl) (R : List Value → World → Prop) (w : World) : compF Pg Try.f6 ⟨[(5, ⟨[(19, kI)], [8, 20, 21, 22, 23, 24, 25, 26, 27, 28, 29, 30, 31, 32, 33, 34, 35, 36, 37, 38, 39, 105, 106, 107, 108, 109, 110, 111, 112, 113, 114, 115, 116, 117, 118, 119, 120, 121, 122, 123, 124, 125, 126, 127, 128, 129, 130, 131, 132, 133, 134, 135, 136, 137, 138, 139, 140, 141, 142, 143, 144, 145, 146, 147, 148, 149, 150, 151, 152, 153, 154, 155, 156, 157, 158, 159, 160, 161, 162, 163, 164, 165, 166, 167, 168, 169, 170, 171, 172, 173, 174, 175, 176, 177, 178, 179, 180, 181, 182, 183, 184, 185, 186, 187, 188, 189, 190, 191, 192, 193, 194, 195, 196, 197, 198, 199, 200, 201, 202, 203, 204, 205, 206, 207, 208, 209, 210, 211, 212, 213, 214, 215, 216, 217, 218, 219, 220, 221, 222, 223, 224, 225, 226, 227, 228, 229, 230, 231, 232, 233, 234, 235, 236, 237, 238, 239, 240, 241, 242, 243, 244, 245, 246, 247, 248, 249, 250, 251, 252, 253, 254, 255, 256, 257, 258, 259, 260, 261, 262, 263, 264, 265, 266, 267, 268, 269, 270, 271, 272, 273, 274, 275, 276, 277, 278, 279, 280, 281, 282, 283, 284, 285, 286, 287, 288, 289, 290, 291, 292, 293, 294, 295, 296, 297, 298, 299, 300, 301, 302, 303, 304, 305, 306, 307, 308, 309, 310, 311, 312, 313, 314, 315, 316, 317, 318, 319, 320, 321, 322, 323, 324, 325, 326, 327, 328, 329, 330, 331, 332, 333, 334, 335, 336, 337, 338, 339, 340]⟩), (10, ⟨[], [8, 22, 23, 24, 25, 26, 27, 28, 29, 30, 31, 32, 33, 34, 35, 36, 37, 38, 126, 127, 128, 129, 130, 131, 132, 133, 134, 135, 136, 137, 138, 139, 140, 141, 142, 143, 144, 145, 146, 147, 148, 149, 150, 151, 152, 153, 154, 155, 156, 157, 158, 159, 160, 161, 162, 163, 164, 165, 166, 167, 168, 169, 170, 171, 172, 173, 174, 175, 176, 177, 178, 179, 180, 181, 182, 183, 184, 185, 186, 187, 188, 189, 190, 191, 192, 193, 194, 195, 196, 197, 198, 199, 200, 201, 202, 203, 204, 205, 206, 207, 208, 209, 210, 211, 212, 213, 214, 215, 216, 217, 218, 219, 220, 221, 222, 223, 224, 225, 226, 227, 228, 229, 230, 231, 232, 233, 234, 235, 236, 237, 238, 239, 240, 241, 242, 243, 244, 245, 246, 247, 248, 249, 250, 251, 252, 253, 254, 255, 256, 257, 258, 259, 260, 261, 262, 263, 264, 265, 266, 267, 268, 269, 270, 271, 272, 273, 274, 275, 276, 277, 278, 279, 280, 281, 282, 283, 284, 285, 286, 287, 288, 289, 290, 291, 292, 293, 294, 295, 296]⟩), (22, ⟨[(39, kI)], [8, 297, 298, 299, 300, 301, 302, 303, 304, 305, 306, 307, 308, 309, 310, 311, 312, 313, 314, 315, 316, 317, 318, 319, 320, 321, 322, 323, 324, 325, 326, 327, 328, 329, 330, 331, 332, 333, 334, 335, 336, 337, 338, 339, 340]⟩), (12, ⟨[], [8, 26, 27, 28, 29, 30, 31, 32, 33, 34, 35, 36, 37, 38, 167, 168, 169, 170, 171, 172, 173, 174, 175, 176, 177, 178, 179, 180, 181, 182, 183, 184, 185, 186, 187, 188, 189, 190, 191, 192, 193, 194, 195, 196, 197, 198, 199, 200, 201, 202, 203, 204, 205, 206, 207, 208, 209, 210, 211, 212, 213, 214, 215, 216, 217, 218, 219, 220, 221, 222, 223, 224, 225, 226, 227, 228, 229, 230, 231, 232, 233, 234, 235, 236, 237, 238, 239, 240, 241, 242, 243, 244, 245, 246, 247, 248, 249, 250, 251, 252, 253, 254, 255, 256, 257, 258, 259, 260, 261, 262, 263, 264, 265, 266, 267, 268, 269, 270, 271, 272, 273, 274, 275, 276, 277, 278, 279, 280, 281, 282, 283, 284, 285, 286, 287, 288, 289, 290, 291, 292, 293, 294, 295, 296]⟩), (14, ⟨[], [8, 30, 31, 32, 33, 34, 35, 36, 37, 38, 204, 205, 206, 207, 208, 209, 210, 211, 212, 213, 214, 215, 216, 217, 218, 219, 220, 221, 222, 223, 224, 225, 226, 227, 228, 229, 230, 231, 232, 233, 234, 235, 236, 237, 238, 239, 240, 241, 242, 243, 244, 245, 246, 247, 248, 249, 250, 251, 252, 253, 254, 255, 256, 257, 258, 259, 260, 261, 262, 263, 264, 265, 266, 267, 268, 269, 270, 271, 272, 273, 274, 275, 276, 277, 278, 279, 280, 281, 282, 283, 284, 285, 286, 287, 288, 289, 290, 291, 292, 293, 294, 295, 296]⟩), (16, ⟨[], [8, 34, 35, 36, 37, 38, 236, 237, 238, 239, 240, 241, 242, 243, 244, 245, 246, 247, 248, 249, 250, 251, 252, 253, 254, 255, 256, 257, 258, 259, 260, 261, 262, 263, 264, 265, 266, 267, 268, 269, 270, 271, 272, 273, 274, 275, 276, 277, 278, 279, 280, 281, 282, 283, 284, 285, 286, 287, 288, 289, 290, 291, 292, 293, 294, 295, 296]⟩), (17, ⟨[(34, kI)], [239, 240]⟩), (19, ⟨[], [8, 284, 285, 286, 287, 288, 289, 290, 291, 292, 293, 294, 295, 296]⟩)], [(52, ⟨[(340, kB)], [301, 302, 303, 304, 305, 306, 307, 308, 309, 310, 311, 312, 313, 314, 315, 316, 317, 318, 319, 320, 321, 322, 323, 324, 325, 326, 327, 328, 329, 330, 331, 332, 333, 334, 335, 336, 337, 338, 339]⟩)], [(52, .l [(0, []), (1, []), (2, []), (4, []), (5, []), (6, []), (7, []), (8, []), (9, []), (3, [2, 1, 0]), (10, [9, 3, 8, 2, 7, 1, 6, 0, 5, 4]), (11, [3, 10, 2, 9, 1, 8, 0, 7, 6, 5, 4]), (12, []), (13, []), (14, []), (15, []), (16, []), (18, []), (19, []), (20, []), (21, []), (22, []), (23, []), (17, [16, 13, 15, 12, 11, 14, 3, 10, 2, 9, 1, 8, 0, 7, 6, 5, 4]), (24, [23, 17, 13, 22, 16, 12, 11, 21, 15, 3, 10, 20, 14, 2, 9, 19, 1, 8, 18, 0, 7, 6, 5, 4]), (25, [17, 24, 13, 16, 23, 12, 11, 15, 22, 3, 10, 14, 21, 2, 9, 20, 1, 8, 19, 0, 7, 18, 6, 5, 4]), (26, []), (27, []), (28, []), (29, []), (30, []), (31, []), (33, []), (34, []), (35, []), (32, [31, 28, 30, 27, 25, 29, 13, 26, 17, 24, 12, 11, 16, 23, 3, 10, 15, 22, 2, 9, 14, 21, 1, 8, 20, 0, 7, 19, 6, 18, 5, 4]), (36, [35, 32, 28, 34, 31, 27, 25, 33, 30, 13, 26, 17, 24, 29, 12, 11, 16, 23, 3, 10, 15, 22, 2, 9, 14, 21, 1, 8, 20, 0, 7, 19, 6, 18, 5, 4]), (37, [32, 36, 28, 31, 35, 27, 25, 30, 34, 13, 26, 17, 24, 29, 33, 12, 11, 16, 23, 3, 10, 15, 22, 2, 9, 14, 21, 1, 8, 20, 0, 7, 19, 6, 18, 5, 4]), (38, []), (39, [])]), (24, .t [(0, []), (1, []), (2, []), (3, []), (4, []), (5, []), (6, []), (7, []), (8, []), (9, []), (10, [])] 11 [2, 4, 6, 8, 10, 1, 3, 5, 7, 9, 0] (.l [(12, []), (13, []), (14, []), (15, []), (16, [15, 13, 11, 0, 1, 2, 3, 4, 5, 6, 7, 8, 9, 10, 12]), (17, [])]) 15 [] (.l [(11, [2, 4, 6, 8, 10, 1, 3, 5, 7, 9, 0]), (12, []), (13, []), (14, []), (16, [15, 13, 11, 0, 1, 2, 3, 4, 5, 6, 7, 8, 9, 10, 12]), (17, [])])), (25, .t [(0, []), (1, []), (2, []), (3, []), (4, []), (5, []), (6, []), (7, []), (8, []), (9, []), (10, [])] 11 [2, 4, 6, 8, 10, 1, 3, 5, 7, 9, 0] (.l [(12, []), (13, []), (14, []), (15, []), (16, [15, 13, 11, 0, 1, 2, 3, 4, 5, 6, 7, 8, 9, 10, 12]), (17, [])]) 15 [] (.l [(11, [2, 4, 6, 8, 10, 1, 3, 5, 7, 9, 0]), (12, []), (13, []), (14, []), (16, [15, 13, 11, 0, 1, 2, 3, 4, 5, 6, 7, 8, 9, 10, 12]), (17, [])])), (29, .t [(0, []), (1, []), (2, []), (3, []), (4, []), (5, []), (6, []), (7, []), (8, [])] 9 [2, 4, 6, 8, 1, 3, 5, 7, 0] (.l [(10, []), (11, []), (12, []), (13, []), (14, [13, 11, 9, 0, 1, 2, 3, 4, 5, 6, 7, 8, 10]), (15, [])]) 13 [] (.l [(9, [2, 4, 6, 8, 1, 3, 5, 7, 0]), (10, []), (11, []), (12, []), (14, [13, 11, 9, 0, 1, 2, 3, 4, 5, 6, 7, 8, 10]), (15, [])])), (30, .t [(0, []), (1, []), (2, []), (3, []), (4, []), (5, []), (6, []), (7, []), (8, [])] 9 [2, 4, 6, 8, 1, 3, 5, 7, 0] (.l [(10, []), (11, []), (12, []), (13, []), (14, [13, 11, 9, 0, 1, 2, 3, 4, 5, 6, 7, 8, 10]), (15, [])]) 13 [] (.l [(9, [2, 4, 6, 8, 1, 3, 5, 7, 0]), (10, []), (11, []), (12, []), (14, [13, 11, 9, 0, 1, 2, 3, 4, 5, 6, 7, 8, 10]), (15, [])])), (34, .l [(0, []), (1, []), (2, []), (3, []), (4, []), (5, []), (6, []), (7, [2, 4, 6, 1, 3, 5, 0]), (8, []), (9, []), (10, []), (11, []), (12, [])]), (35, .l [(0, []), (1, []), (2, []), (3, []), (4, []), (5, []), (6, []), (7, [2, 4, 6, 1, 3, 5, 0]), (8, []), (9, []), (10, []), (11, []), (12, [])]), (42, .t [(0, []), (1, []), (2, []), (3, []), (4, []), (5, []), (6, []), (7, []), (8, []), (9, []), (10, []), (11, [])] 12 [2, 4, 7, 9, 11, 1, 3, 6, 8, 10, 0, 5] (.l [(13, []), (14, []), (15, []), (16, []), (17, [16, 14, 12, 0, 1, 2, 3, 4, 5, 6, 7, 8, 9, 10, 11, 13]), (18, [])]) 16 [] (.l [(12, [2, 4, 7, 9, 11, 1, 3, 6, 8, 10, 0, 5]), (13, []), (14, []), (15, []), (17, [16, 14, 12, 0, 1, 2, 3, 4, 5, 6, 7, 8, 9, 10, 11, 13]), (18, [])])), (43, .t [(0, []), (1, []), (2, []), (3, []), (4, []), (5, []), (6, []), (7, []), (8, []), (9, []), (10, []), (11, [])] 12 [2, 4, 7, 9, 11, 1, 3, 6, 8, 10, 0, 5] (.l [(13, []), (14, []), (15, []), (16, []), (17, [16, 14, 12, 0, 1, 2, 3, 4, 5, 6, 7, 8, 9, 10, 11, 13]), (18, [])]) 16 [] (.l [(12, [2, 4, 7, 9, 11, 1, 3, 6, 8, 10, 0, 5]), (13, []), (14, []), (15, []), (17, [16, 14, 12, 0, 1, 2, 3, 4, 5, 6, 7, 8, 9, 10, 11, 13]), (18, [])])), (47, .l [(0, []), (1, []), (2, []), (3, []), (4, []), (6, []), (7, []), (8, []), (9, []), (10, []), (5, [2, 4, 1, 3, 0]), (11, [8, 10, 5, 7, 9, 2, 4, 6, 1, 3, 0]), (12, [])])], [(9, [(4, 4, ⟨[(78, kB)], [75, 76, 77]⟩), (9, 6, ⟨[(85, kB)], [80, 81, 82, 83, 84]⟩), (16, 6, ⟨[(92, kB)], [87, 88, 89, 90, 91]⟩)]), (11, [(3, 3, ⟨[(98, kB)], [96, 97]⟩)]), (26, [(5, 4, ⟨[(164, kB)], [161, 162, 163]⟩)]), (31, [(5, 4, ⟨[(201, kB)], [198, 199, 200]⟩)]), (36, [(4, 4, ⟨[(233, kB)], [230, 231, 232]⟩)]), (44, [(5, 4, ⟨[(281, kB)], [278, 279, 280]⟩)])]⟩ [.bool a0, .int .i64 a1, .int .i64 a2, vS a3] R w = sh6 a0 a1 a2 a3 R w := by kernel_rfl
theorem call6 {a0 : Bool} {a1 : Int} {a2 : Int} {a3 : Sl} {w : World} {K : TK [kB] → World → Prop} (h : sh6 a0 a1 a2 a3 (fun vs w' => ∃ t, encK [kB] t = vs ∧ K t w') w) : cl Pg 6 [.bool a0, .int .i64 a1, .int .i64 a2, vS a3] [kB] w K := cl_of Try.func6 (tie6 ..) h
end Go.Proofs.Ytbhmejmkoefahaa.B
