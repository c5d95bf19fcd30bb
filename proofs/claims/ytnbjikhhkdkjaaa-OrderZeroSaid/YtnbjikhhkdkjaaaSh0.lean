/- Printed by sh.py: each Go function as a typed shallow program, and its tie to the code. -/
import Derived.Test.YtnbjikhhkdkjaaaSound4
import Derived.Test.YtnbjikhhkdkjaaaProg
namespace Go.Proofs.Ytnbjikhhkdkjaaa.B
open Go Go.Proofs
set_option linter.unusedVariables false
set_option maxRecDepth 100000
noncomputable abbrev Pg : Program := Try.prog
/-- detent/order.New -/
def sh11 (a0 : Bool) (R : List Value → World → Prop) (w : World) : Prop :=
 al w 40 [.slice none 0 0, .bool a0] fun b1 w2 =>
 R [.pointer (some ⟨b1, 0, none⟩)] w2
theorem tie11 (a0 : Bool) (R : List Value → World → Prop) (w : World) : compF Pg Try.f11 ⟨[], [], [], []⟩ [.bool a0] R w = sh11 a0 R w := by kernel_rfl
theorem call11 {a0 : Bool} {w : World} {K : TK [kP] → World → Prop} (h : sh11 a0 (fun vs w' => ∃ t, encK [kP] t = vs ∧ K t w') w) : cl Pg 11 [.bool a0] [kP] w K := cl_of Try.func11 (tie11 ..) h
/-- slices.IndexFunc[[]detent/order.Item,detent/order.Item] -/
def sh38 (a0 : Sl) (a1 : Fv) (R : List Value → World → Prop) (w : World) : Prop :=
 lp [kI] w ((0 : Int), ()) fun (t1 : Int × Unit) J2 w3 =>
 cs (decide ((t1.1 : Int) < ((a0.len : Int) : Int))) (
 ix a0 t1.1 2 fun b4 o5 =>
 ldI w3 .i64 b4 o5 fun n6 =>
 ldI w3 .i64 b4 (o5 + 1) fun n7 =>
 ob (enterable Pg a1.fid = true) (
 cl Pg a1.fid (a1.pre ++ ([.agg #[.int .i64 n6, .int .i64 n7]] ++ a1.post)) [kB] w3 fun (r8 : Bool × Unit) w9 =>
 cs r8.1 (
 R [.int .i64 t1.1] w9) (
 J2 (w64 (t1.1 + 1), ()) w9))) (
 R [.int .i64 (-1)] w3)
theorem tie38 (a0 : Sl) (a1 : Fv) (R : List Value → World → Prop) (w : World) : compF Pg Try.f38 ⟨[(1, ⟨[(8, kI)], [4, 5, 9, 10, 11, 12, 13, 14, 15, 16, 17, 18]⟩)], [], [], []⟩ [vS a0, vF a1] R w = sh38 a0 a1 R w := by kernel_rfl
theorem call38 {a0 : Sl} {a1 : Fv} {w : World} {K : TK [kI] → World → Prop} (h : sh38 a0 a1 (fun vs w' => ∃ t, encK [kI] t = vs ∧ K t w') w) : cl Pg 38 [vS a0, vF a1] [kI] w K := cl_of Try.func38 (tie38 ..) h
/-- (*detent/order.Line).at$1 -/
def sh39 (a0 : (Int × Int × Unit)) (c0 : Nat) (R : List Value → World → Prop) (w : World) : Prop :=
 al w 29 [.int .i64 a0.1, .int .i64 a0.2.1] fun b1 w2 =>
 ldI w2 .i64 b1 0 fun n3 =>
 ldI w2 .i64 c0 0 fun n4 =>
 R [.bool ((n3 : Int) == (n4 : Int))] w2
theorem tie39 (a0 : (Int × Int × Unit)) (c0 : Nat) (R : List Value → World → Prop) (w : World) : compF Pg Try.f39 ⟨[], [], [], []⟩ [.agg #[.int .i64 a0.1, .int .i64 a0.2.1], .pointer (some ⟨c0, 0, none⟩)] R w = sh39 a0 c0 R w := by kernel_rfl
theorem call39 {a0 : (Int × Int × Unit)} {c0 : Nat} {w : World} {K : TK [kB] → World → Prop} (h : sh39 a0 c0 (fun vs w' => ∃ t, encK [kB] t = vs ∧ K t w') w) : cl Pg 39 [.agg #[.int .i64 a0.1, .int .i64 a0.2.1], .pointer (some ⟨c0, 0, none⟩)] [kB] w K := cl_of Try.func39 (tie39 ..) h
/-- (*detent/order.Line).at -/
def sh30 (a0 : Option Addr) (a1 : Int) (R : List Value → World → Prop) (w : World) : Prop :=
 al w 3 [.int .i64 a1] fun b1 w2 =>
 nn a0 fun b3 o4 =>
 ldS w2 b3 o4 fun s5 =>
 cl Pg 38 [vS s5, .func (.func 39) #[] #[.pointer (some ⟨b1, 0, none⟩)]] [kI] w2 fun (r6 : Int × Unit) w7 =>
 R [.int .i64 r6.1] w7
theorem tie30 (a0 : Option Addr) (a1 : Int) (R : List Value → World → Prop) (w : World) : compF Pg Try.f30 ⟨[], [], [], []⟩ [.pointer a0, .int .i64 a1] R w = sh30 a0 a1 R w := by kernel_rfl
theorem call30 {a0 : Option Addr} {a1 : Int} {w : World} {K : TK [kI] → World → Prop} (h : sh30 a0 a1 (fun vs w' => ∃ t, encK [kI] t = vs ∧ K t w') w) : cl Pg 30 [.pointer a0, .int .i64 a1] [kI] w K := cl_of Try.func30 (tie30 ..) h
/-- (*detent/order.Line).Has -/
def sh18 (a0 : Option Addr) (a1 : Int) (R : List Value → World → Prop) (w : World) : Prop :=
 cl Pg 30 [.pointer a0, .int .i64 a1] [kI] w fun (r1 : Int × Unit) w2 =>
 R [.bool (decide ((r1.1 : Int) ≥ (0 : Int)))] w2
theorem tie18 (a0 : Option Addr) (a1 : Int) (R : List Value → World → Prop) (w : World) : compF Pg Try.f18 ⟨[], [], [], []⟩ [.pointer a0, .int .i64 a1] R w = sh18 a0 a1 R w := by kernel_rfl
theorem call18 {a0 : Option Addr} {a1 : Int} {w : World} {K : TK [kB] → World → Prop} (h : sh18 a0 a1 (fun vs w' => ∃ t, encK [kB] t = vs ∧ K t w') w) : cl Pg 18 [.pointer a0, .int .i64 a1] [kB] w K := cl_of Try.func18 (tie18 ..) h
/-- detent/order.may -/
def sh28 (a0 : Int) (R : List Value → World → Prop) (w : World) : Prop :=
 jn [kB] w (fun (t2 : Bool × Unit) w3 =>
 R [.bool t2.1] w3) fun J1 w4 =>
 cs (decide ((a0 : Int) ≥ (1 : Int))) (
 J1 (decide ((a0 : Int) ≤ (16 : Int)), ()) w4) (
 J1 (false, ()) w4)
theorem tie28 (a0 : Int) (R : List Value → World → Prop) (w : World) : compF Pg Try.f28 ⟨[], [], [], [(1, [(3, 3, ⟨[(8, kB)], [6, 7]⟩)])]⟩ [.int .i64 a0] R w = sh28 a0 R w := by kernel_rfl
theorem call28 {a0 : Int} {w : World} {K : TK [kB] → World → Prop} (h : sh28 a0 (fun vs w' => ∃ t, encK [kB] t = vs ∧ K t w') w) : cl Pg 28 [.int .i64 a0] [kB] w K := cl_of Try.func28 (tie28 ..) h
/-- slices.Reverse[[]detent/order.Item,detent/order.Item] -/
def sh43 (a0 : Sl) (R : List Value → World → Prop) (w : World) : Prop :=
 lp [kI, kI] w ((0 : Int), w64 ((a0.len : Int) - 1), ()) fun (t1 : Int × Int × Unit) J2 w3 =>
 cs (decide ((t1.1 : Int) < (t1.2.1 : Int))) (
 dr w3 fun w4 =>
 ix a0 t1.2.1 2 fun b5 o6 =>
 ldI w4 .i64 b5 o6 fun n7 =>
 ldI w4 .i64 b5 (o6 + 1) fun n8 =>
 ix a0 t1.1 2 fun b9 o10 =>
 ldI w4 .i64 b9 o10 fun n11 =>
 ldI w4 .i64 b9 (o10 + 1) fun n12 =>
 ix a0 t1.1 2 fun b13 o14 =>
 st1 w4 b13 o14 (.int .i64 n7) fun w15 =>
 st1 w15 b13 (o14 + 1) (.int .i64 n8) fun w16 =>
 ix a0 t1.2.1 2 fun b17 o18 =>
 st1 w16 b17 o18 (.int .i64 n11) fun w19 =>
 st1 w19 b17 (o18 + 1) (.int .i64 n12) fun w20 =>
 J2 (w64 (t1.1 + 1), w64 (t1.2.1 - 1), ()) w20) (
 R [] w3)
theorem tie43 (a0 : Sl) (R : List Value → World → Prop) (w : World) : compF Pg Try.f43 ⟨[(1, ⟨[(2, kI), (3, kI)], [7, 8, 9, 10, 11, 12, 13, 14, 15, 16, 17, 18, 19, 20, 21, 22, 23, 24, 25, 26, 27]⟩)], [], [(3, .l [(0, []), (1, []), (2, []), (3, []), (4, []), (5, []), (6, []), (7, []), (8, []), (9, []), (10, []), (11, []), (12, []), (13, [12, 7, 0, 1, 4, 5, 6, 11, 10, 8, 9]), (14, []), (15, [14, 11, 13, 0, 1, 2, 3, 4, 5, 6, 7, 8, 9, 10, 12])])], []⟩ [vS a0] R w = sh43 a0 R w := by kernel_rfl
theorem call43 {a0 : Sl} {w : World} {K : TK [] → World → Prop} (h : sh43 a0 (fun vs w' => ∃ t, encK [] t = vs ∧ K t w') w) : cl Pg 43 [vS a0] [] w K := cl_of Try.func43 (tie43 ..) h
/-- slices.rotateLeft[detent/order.Item] -/
def sh42 (a0 : Sl) (a1 : Int) (R : List Value → World → Prop) (w : World) : Prop :=
 sb a0 0 a1 a0.cap 2 fun s1 =>
 cl Pg 43 [vS s1] [] w fun (r2 : Unit) w3 =>
 sb a0 a1 a0.len a0.cap 2 fun s4 =>
 cl Pg 43 [vS s4] [] w3 fun (r5 : Unit) w6 =>
 cl Pg 43 [vS a0] [] w6 fun (r7 : Unit) w8 =>
 R [] w8
theorem tie42 (a0 : Sl) (a1 : Int) (R : List Value → World → Prop) (w : World) : compF Pg Try.f42 ⟨[], [], [], []⟩ [vS a0, .int .i64 a1] R w = sh42 a0 a1 R w := by kernel_rfl
theorem call42 {a0 : Sl} {a1 : Int} {w : World} {K : TK [] → World → Prop} (h : sh42 a0 a1 (fun vs w' => ∃ t, encK [] t = vs ∧ K t w') w) : cl Pg 42 [vS a0, .int .i64 a1] [] w K := cl_of Try.func42 (tie42 ..) h
/-- slices.rotateRight[detent/order.Item] -/
def sh41 (a0 : Sl) (a1 : Int) (R : List Value → World → Prop) (w : World) : Prop :=
 cl Pg 42 [vS a0, .int .i64 (w64 ((a0.len : Int) - a1))] [] w fun (r1 : Unit) w2 =>
 R [] w2
theorem tie41 (a0 : Sl) (a1 : Int) (R : List Value → World → Prop) (w : World) : compF Pg Try.f41 ⟨[], [], [], []⟩ [vS a0, .int .i64 a1] R w = sh41 a0 a1 R w := by kernel_rfl
theorem call41 {a0 : Sl} {a1 : Int} {w : World} {K : TK [] → World → Prop} (h : sh41 a0 a1 (fun vs w' => ∃ t, encK [] t = vs ∧ K t w') w) : cl Pg 41 [vS a0, .int .i64 a1] [] w K := cl_of Try.func41 (tie41 ..) h
/-- slices.Insert[[]detent/order.Item,detent/order.Item] -/
def sh37 (a0 : Sl) (a1 : Int) (a2 : Sl) (R : List Value → World → Prop) (w : World) : Prop :=
 sb a0 a1 a0.len a0.cap 2 fun s1 =>
 cs (((a2.len : Int) : Int) == (0 : Int)) (
 R [vS a0] w) (
 cs ((a1 : Int) == ((a0.len : Int) : Int)) (
 ef Pg (Builtin.append_ #[36, 36] 36 #[vS a0, vS a2]) [kS] w fun (r2 : Sl × Unit) w3 =>
 R [vS r2.1] w3) (
 cs (decide ((w64 ((a0.len : Int) + (a2.len : Int)) : Int) > ((a0.cap : Int) : Int))) (
 sb a0 0 a1 a0.cap 2 fun s4 =>
 ef Pg (Builtin.append_ #[36, 3] 36 #[vS s4, .int .i64 (w64 ((w64 ((a0.len : Int) + (a2.len : Int))) - a1))]) [kS] w fun (r5 : Sl × Unit) w6 =>
 sb r5.1 a1 r5.1.len r5.1.cap 2 fun s7 =>
 ef Pg (Builtin.copy_ #[36, 36] 3 #[vS s7, vS a2]) [kI] w6 fun (r8 : Int × Unit) w9 =>
 dr w9 fun w10 =>
 sb r5.1 (w64 (a1 + (a2.len : Int))) r5.1.len r5.1.cap 2 fun s11 =>
 sb a0 a1 a0.len a0.cap 2 fun s12 =>
 ef Pg (Builtin.copy_ #[36, 36] 3 #[vS s11, vS s12]) [kI] w10 fun (r13 : Int × Unit) w14 =>
 R [vS r5.1] w14) (
 sb a0 0 (w64 ((a0.len : Int) + (a2.len : Int))) a0.cap 2 fun s15 =>
 sb s15 (w64 (a1 + (a2.len : Int))) s15.len s15.cap 2 fun s16 =>
 xt Pg 40 [vS a2, vS s16] [kB] w fun (r17 : Bool × Unit) w18 =>
 cs (!r17.1) (
 dr w18 fun w19 =>
 sb s15 (w64 (a1 + (a2.len : Int))) s15.len s15.cap 2 fun s20 =>
 sb s15 a1 s15.len s15.cap 2 fun s21 =>
 ef Pg (Builtin.copy_ #[36, 36] 3 #[vS s20, vS s21]) [kI] w19 fun (r22 : Int × Unit) w23 =>
 sb s15 a1 s15.len s15.cap 2 fun s24 =>
 ef Pg (Builtin.copy_ #[36, 36] 3 #[vS s24, vS a2]) [kI] w23 fun (r25 : Int × Unit) w26 =>
 R [vS s15] w26) (
 sb s15 (a0.len : Int) s15.len s15.cap 2 fun s27 =>
 ef Pg (Builtin.copy_ #[36, 36] 3 #[vS s27, vS a2]) [kI] w18 fun (r28 : Int × Unit) w29 =>
 sb s15 a1 s15.len s15.cap 2 fun s30 =>
 cl Pg 41 [vS s30, .int .i64 (a2.len : Int)] [] w29 fun (r31 : Unit) w32 =>
 R [vS s15] w32))))
theorem tie37 (a0 : Sl) (a1 : Int) (a2 : Sl) (R : List Value → World → Prop) (w : World) : compF Pg Try.f37 ⟨[], [], [(11, .l [(0, []), (1, []), (2, []), (3, []), (4, []), (5, []), (6, []), (7, []), (8, [4, 7, 0, 3, 5, 6, 1, 2])]), (15, .l [(0, []), (1, []), (2, []), (3, []), (4, []), (5, []), (6, []), (7, []), (8, [4, 7, 0, 3, 5, 6, 1, 2])])], []⟩ [vS a0, .int .i64 a1, vS a2] R w = sh37 a0 a1 a2 R w := by kernel_rfl
theorem call37 {a0 : Sl} {a1 : Int} {a2 : Sl} {w : World} {K : TK [kS] → World → Prop} (h : sh37 a0 a1 a2 (fun vs w' => ∃ t, encK [kS] t = vs ∧ K t w') w) : cl Pg 37 [vS a0, .int .i64 a1, vS a2] [kS] w K := cl_of Try.func37 (tie37 ..) h
/-- (*detent/order.Queue).put -/
def sh29 (a0 : Option Addr) (a1 : (Int × Int × Unit)) (R : List Value → World → Prop) (w : World) : Prop :=
 al w 29 [.int .i64 a1.1, .int .i64 a1.2.1] fun b1 w2 =>
 nn a0 fun b3 o4 =>
 ldS w2 b3 o4 fun s5 =>
 lp [kI] w2 ((s5.len : Int), ()) fun (t6 : Int × Unit) J7 w8 =>
 dr w8 fun w9 =>
 jn [kB] w9 (fun (t11 : Bool × Unit) w12 =>
 cs t11.1 (
 J7 (w64 (t6.1 - 1), ()) w12) (
 dr w12 fun w14 =>
 nn a0 fun b15 o16 =>
 ldS w14 b15 o16 fun s17 =>
 ldI w14 .i64 b1 0 fun n18 =>
 ldI w14 .i64 b1 (0 + 1) fun n19 =>
 al w14 29 [.int .i64 n18, .int .i64 n19] fun b20 w21 =>
(w21.cell? ⟨b15, o16, none⟩ = some (vS s17)) ∧ (
 cl Pg 37 [vS s17, .int .i64 t6.1, vS ⟨some ⟨b20, 0, none⟩, 1, 1⟩] [kS] w21 fun (r22 : Sl × Unit) w23 =>
 nn a0 fun b24 o25 =>
 st1 w23 b24 o25 (vS r22.1) fun w26 =>
 R [] w26))) fun J10 w13 =>
 nn a0 fun b27 o28 =>
 ldB w13 b27 (o28 + 1) fun b29 =>
 cs b29 (
 cs (decide ((t6.1 : Int) > (0 : Int))) (
 nn a0 fun b30 o31 =>
 ldS w13 b30 o31 fun s32 =>
 ix s32 (w64 (t6.1 - 1)) 2 fun b33 o34 =>
 ldI w13 .i64 b33 (o34 + 1) fun n35 =>
 ldI w13 .i64 b1 (0 + 1) fun n36 =>
 J10 (decide ((n35 : Int) > (n36 : Int)), ()) w13) (
 J10 (false, ()) w13)) (
 J10 (false, ()) w13)
theorem tie29 (a0 : Option Addr) (a1 : (Int × Int × Unit)) (R : List Value → World → Prop) (w : World) : compF Pg Try.f29 ⟨[(1, ⟨[(4, kI)], [11, 12, 13, 14, 15, 16, 17, 18, 19, 20, 21, 22, 23, 24, 25, 26, 27, 28, 29, 30, 31, 32, 33, 34, 35]⟩)], [(2, ⟨[(33, kB)], [11, 12, 13, 14, 15, 16, 17, 18, 19, 20, 21, 22, 23, 24, 25, 26, 27, 28, 29, 30, 31, 32]⟩)], [(2, .l [(0, []), (1, []), (2, []), (3, []), (4, []), (5, []), (6, []), (7, []), (8, []), (9, []), (10, []), (11, []), (12, []), (13, []), (14, []), (15, []), (16, []), (17, []), (18, []), (19, []), (20, []), (21, []), (22, [])]), (4, .l [(0, []), (1, []), (2, []), (3, []), (4, []), (5, []), (6, []), (7, []), (8, [7]), (9, [5, 6, 8, 4, 7, 3, 2, 1]), (10, []), (11, []), (12, []), (13, [12, 9, 0, 1, 2, 3, 4, 5, 6, 7, 8, 11, 10])])], []⟩ [.pointer a0, .agg #[.int .i64 a1.1, .int .i64 a1.2.1]] R w = sh29 a0 a1 R w := by kernel_rfl
theorem call29 {a0 : Option Addr} {a1 : (Int × Int × Unit)} {w : World} {K : TK [] → World → Prop} (h : sh29 a0 a1 (fun vs w' => ∃ t, encK [] t = vs ∧ K t w') w) : cl Pg 29 [.pointer a0, .agg #[.int .i64 a1.1, .int .i64 a1.2.1]] [] w K := cl_of Try.func29 (tie29 ..) h
/-- (*detent/order.Queue).Add -/
def sh12 (a0 : Option Addr) (a1 : Int) (a2 : Int) (R : List Value → World → Prop) (w : World) : Prop :=
 jn [kB] w (fun (t2 : Bool × Unit) w3 =>
 jn [kB] w3 (fun (t6 : Bool × Unit) w7 =>
 cs t6.1 (
 R [.int .i64 (-17)] w7) (
 nn a0 fun b9 o10 =>
 cl Pg 18 [.pointer (some ⟨b9, o10, none⟩), .int .i64 a1] [kB] w7 fun (r11 : Bool × Unit) w12 =>
 cs r11.1 (
 R [.int .i64 (-41)] w12) (
 cl Pg 29 [.pointer a0, .agg #[.int .i64 a1, .int .i64 a2]] [] w12 fun (r13 : Unit) w14 =>
 R [.int .i64 0] w14))) fun J5 w8 =>
 cs t2.1 (
 J5 (true, ()) w8) (
 cl Pg 28 [.int .i64 a2] [kB] w8 fun (r15 : Bool × Unit) w16 =>
 J5 (!r15.1, ()) w16)) fun J1 w4 =>
 cs (decide ((a1 : Int) < (1 : Int))) (
 J1 (true, ()) w4) (
 J1 (decide ((a1 : Int) > (16 : Int)), ()) w4)
theorem tie12 (a0 : Option Addr) (a1 : Int) (a2 : Int) (R : List Value → World → Prop) (w : World) : compF Pg Try.f12 ⟨[], [], [], [(1, [(3, 3, ⟨[(13, kB)], [11, 12]⟩), (7, 4, ⟨[(18, kB)], [15, 16, 17]⟩)])]⟩ [.pointer a0, .int .i64 a1, .int .i64 a2] R w = sh12 a0 a1 a2 R w := by kernel_rfl
theorem call12 {a0 : Option Addr} {a1 : Int} {a2 : Int} {w : World} {K : TK [kI] → World → Prop} (h : sh12 a0 a1 a2 (fun vs w' => ∃ t, encK [kI] t = vs ∧ K t w') w) : cl Pg 12 [.pointer a0, .int .i64 a1, .int .i64 a2] [kI] w K := cl_of Try.func12 (tie12 ..) h
/-- (*detent/order.Line).First -/
def sh16 (a0 : Option Addr) (R : List Value → World → Prop) (w : World) : Prop :=
 al w 29 [.int .i64 0, .int .i64 0] fun b1 w2 =>
 nn a0 fun b3 o4 =>
 ldS w2 b3 o4 fun s5 =>
 cs (((s5.len : Int) : Int) == (0 : Int)) (
 st1 w2 b1 0 (.int .i64 0) fun w6 =>
 st1 w6 b1 (0 + 1) (.int .i64 0) fun w7 =>
 ldI w7 .i64 b1 0 fun n8 =>
 ldI w7 .i64 b1 (0 + 1) fun n9 =>
 R [.agg #[.int .i64 n8, .int .i64 n9], .bool false] w7) (
 nn a0 fun b10 o11 =>
 ldS w2 b10 o11 fun s12 =>
 ix s12 0 2 fun b13 o14 =>
 ldI w2 .i64 b13 o14 fun n15 =>
 ldI w2 .i64 b13 (o14 + 1) fun n16 =>
 st1 w2 b1 0 (.int .i64 n15) fun w17 =>
 st1 w17 b1 (0 + 1) (.int .i64 n16) fun w18 =>
 ldI w18 .i64 b1 0 fun n19 =>
 ldI w18 .i64 b1 (0 + 1) fun n20 =>
 R [.agg #[.int .i64 n19, .int .i64 n20], .bool true] w18)
theorem tie16 (a0 : Option Addr) (R : List Value → World → Prop) (w : World) : compF Pg Try.f16 ⟨[], [], [], []⟩ [.pointer a0] R w = sh16 a0 R w := by kernel_rfl
theorem call16 {a0 : Option Addr} {w : World} {K : TK [.a [(.i .i64), (.i .i64)], kB] → World → Prop} (h : sh16 a0 (fun vs w' => ∃ t, encK [.a [(.i .i64), (.i .i64)], kB] t = vs ∧ K t w') w) : cl Pg 16 [.pointer a0] [.a [(.i .i64), (.i .i64)], kB] w K := cl_of Try.func16 (tie16 ..) h
/-- slices.Delete[[]detent/order.Item,detent/order.Item] -/
def sh33 (a0 : Sl) (a1 : Int) (a2 : Int) (R : List Value → World → Prop) (w : World) : Prop :=
 sb a0 a1 a2 (a0.len : Int) 2 fun s1 =>
 cs ((a1 : Int) == (a2 : Int)) (
 R [vS a0] w) (
 dr w fun w2 =>
 sb a0 0 a1 a0.cap 2 fun s3 =>
 sb a0 a2 a0.len a0.cap 2 fun s4 =>
 ef Pg (Builtin.append_ #[36, 36] 36 #[vS s3, vS s4]) [kS] w2 fun (r5 : Sl × Unit) w6 =>
 sb r5.1 (r5.1.len : Int) (a0.len : Int) r5.1.cap 2 fun s7 =>
 ef Pg (Builtin.clear_ #[36] 0 #[vS s7]) [] w6 fun (r8 : Unit) w9 =>
 R [vS r5.1] w9)
theorem tie33 (a0 : Sl) (a1 : Int) (a2 : Int) (R : List Value → World → Prop) (w : World) : compF Pg Try.f33 ⟨[], [], [(5, .l [(0, []), (1, []), (2, []), (3, []), (4, []), (5, []), (6, [2, 5, 0, 1, 3, 4]), (7, [])])], []⟩ [vS a0, .int .i64 a1, .int .i64 a2] R w = sh33 a0 a1 a2 R w := by kernel_rfl
theorem call33 {a0 : Sl} {a1 : Int} {a2 : Int} {w : World} {K : TK [kS] → World → Prop} (h : sh33 a0 a1 a2 (fun vs w' => ∃ t, encK [kS] t = vs ∧ K t w') w) : cl Pg 33 [vS a0, .int .i64 a1, .int .i64 a2] [kS] w K := cl_of Try.func33 (tie33 ..) h
/-- (*detent/order.Line).Remove -/
def sh20 (a0 : Option Addr) (a1 : Int) (R : List Value → World → Prop) (w : World) : Prop :=
 cl Pg 30 [.pointer a0, .int .i64 a1] [kI] w fun (r1 : Int × Unit) w2 =>
 cs (decide ((r1.1 : Int) < (0 : Int))) (
 R [.bool false] w2) (
 nn a0 fun b3 o4 =>
 ldS w2 b3 o4 fun s5 =>
 cl Pg 33 [vS s5, .int .i64 r1.1, .int .i64 (w64 (r1.1 + 1))] [kS] w2 fun (r6 : Sl × Unit) w7 =>
 nn a0 fun b8 o9 =>
 st1 w7 b8 o9 (vS r6.1) fun w10 =>
 R [.bool true] w10)
theorem tie20 (a0 : Option Addr) (a1 : Int) (R : List Value → World → Prop) (w : World) : compF Pg Try.f20 ⟨[], [], [], []⟩ [.pointer a0, .int .i64 a1] R w = sh20 a0 a1 R w := by kernel_rfl
theorem call20 {a0 : Option Addr} {a1 : Int} {w : World} {K : TK [kB] → World → Prop} (h : sh20 a0 a1 (fun vs w' => ∃ t, encK [kB] t = vs ∧ K t w') w) : cl Pg 20 [.pointer a0, .int .i64 a1] [kB] w K := cl_of Try.func20 (tie20 ..) h
/-- (*detent/order.Queue).Take -/
def sh13 (a0 : Option Addr) (R : List Value → World → Prop) (w : World) : Prop :=
 al w 29 [.int .i64 0, .int .i64 0] fun b1 w2 =>
 nn a0 fun b3 o4 =>
 cl Pg 16 [.pointer (some ⟨b3, o4, none⟩)] [.a [(.i .i64), (.i .i64)], kB] w2 fun (r5 : (Int × Int × Unit) × Bool × Unit) w6 =>
 al w6 29 [.int .i64 0, .int .i64 0] fun b7 w8 =>
 st1 w8 b7 0 (.int .i64 r5.1.1) fun w9 =>
 st1 w9 b7 (0 + 1) (.int .i64 r5.1.2.1) fun w10 =>
 jn [] w10 (fun (t12 : Unit) w13 =>
 ldI w13 .i64 b7 0 fun n15 =>
 ldI w13 .i64 b7 (0 + 1) fun n16 =>
 st1 w13 b1 0 (.int .i64 n15) fun w17 =>
 st1 w17 b1 (0 + 1) (.int .i64 n16) fun w18 =>
 ldI w18 .i64 b1 0 fun n19 =>
 ldI w18 .i64 b1 (0 + 1) fun n20 =>
 R [.agg #[.int .i64 n19, .int .i64 n20], .bool r5.2.1] w18) fun J11 w14 =>
 cs r5.2.1 (
 dr w14 fun w21 =>
 nn a0 fun b22 o23 =>
 ldI w21 .i64 b7 0 fun n24 =>
 cl Pg 20 [.pointer (some ⟨b22, o23, none⟩), .int .i64 n24] [kB] w21 fun (r25 : Bool × Unit) w26 =>
 J11 () w26) (
 J11 () w14)
theorem tie13 (a0 : Option Addr) (R : List Value → World → Prop) (w : World) : compF Pg Try.f13 ⟨[(0, ⟨[], [14, 15, 16, 17, 18, 19]⟩)], [], [(3, .l [(0, []), (1, []), (2, []), (3, []), (4, []), (5, [2, 4, 1, 3, 0])])], []⟩ [.pointer a0] R w = sh13 a0 R w := by kernel_rfl
theorem call13 {a0 : Option Addr} {w : World} {K : TK [.a [(.i .i64), (.i .i64)], kB] → World → Prop} (h : sh13 a0 (fun vs w' => ∃ t, encK [.a [(.i .i64), (.i .i64)], kB] t = vs ∧ K t w') w) : cl Pg 13 [.pointer a0] [.a [(.i .i64), (.i .i64)], kB] w K := cl_of Try.func13 (tie13 ..) h
/-- (*detent/order.Queue).Change -/
def sh14 (a0 : Option Addr) (a1 : Int) (a2 : Int) (R : List Value → World → Prop) (w : World) : Prop :=
 nn a0 fun b1 o2 =>
 cl Pg 30 [.pointer (some ⟨b1, o2, none⟩), .int .i64 a1] [kI] w fun (r3 : Int × Unit) w4 =>
 jn [kB] w4 (fun (t6 : Bool × Unit) w7 =>
 cs t6.1 (
 R [.bool false] w7) (
 nn a0 fun b9 o10 =>
 ldB w7 b9 (o10 + 1) fun b11 =>
 cs (!b11) (
 nn a0 fun b12 o13 =>
 ldS w7 b12 o13 fun s14 =>
 ix s14 r3.1 2 fun b15 o16 =>
 st1 w7 b15 (o16 + 1) (.int .i64 a2) fun w17 =>
 R [.bool true] w17) (
 nn a0 fun b18 o19 =>
 cl Pg 20 [.pointer (some ⟨b18, o19, none⟩), .int .i64 a1] [kB] w7 fun (r20 : Bool × Unit) w21 =>
 cl Pg 29 [.pointer a0, .agg #[.int .i64 a1, .int .i64 a2]] [] w21 fun (r22 : Unit) w23 =>
 R [.bool true] w23))) fun J5 w8 =>
 cs (decide ((r3.1 : Int) < (0 : Int))) (
 J5 (true, ()) w8) (
 cl Pg 28 [.int .i64 a2] [kB] w8 fun (r24 : Bool × Unit) w25 =>
 J5 (!r24.1, ()) w25)
theorem tie14 (a0 : Option Addr) (a1 : Int) (a2 : Int) (R : List Value → World → Prop) (w : World) : compF Pg Try.f14 ⟨[], [], [], [(2, [(3, 4, ⟨[(19, kB)], [16, 17, 18]⟩)])]⟩ [.pointer a0, .int .i64 a1, .int .i64 a2] R w = sh14 a0 a1 a2 R w := by kernel_rfl
theorem call14 {a0 : Option Addr} {a1 : Int} {a2 : Int} {w : World} {K : TK [kB] → World → Prop} (h : sh14 a0 a1 a2 (fun vs w' => ∃ t, encK [kB] t = vs ∧ K t w') w) : cl Pg 14 [.pointer a0, .int .i64 a1, .int .i64 a2] [kB] w K := cl_of Try.func14 (tie14 ..) h
/-- (*detent/order.Line).Len -/
def sh15 (a0 : Option Addr) (R : List Value → World → Prop) (w : World) : Prop :=
 nn a0 fun b1 o2 =>
 ldS w b1 o2 fun s3 =>
 R [.int .i64 (s3.len : Int)] w
theorem tie15 (a0 : Option Addr) (R : List Value → World → Prop) (w : World) : compF Pg Try.f15 ⟨[], [], [], []⟩ [.pointer a0] R w = sh15 a0 R w := by kernel_rfl
theorem call15 {a0 : Option Addr} {w : World} {K : TK [kI] → World → Prop} (h : sh15 a0 (fun vs w' => ∃ t, encK [kI] t = vs ∧ K t w') w) : cl Pg 15 [.pointer a0] [kI] w K := cl_of Try.func15 (tie15 ..) h
/-- (*detent/order.Line).Pri -/
def sh17 (a0 : Option Addr) (a1 : Int) (R : List Value → World → Prop) (w : World) : Prop :=
 cl Pg 30 [.pointer a0, .int .i64 a1] [kI] w fun (r1 : Int × Unit) w2 =>
 cs (decide ((r1.1 : Int) < (0 : Int))) (
 R [.int .i64 0, .bool false] w2) (
 nn a0 fun b3 o4 =>
 ldS w2 b3 o4 fun s5 =>
 ix s5 r1.1 2 fun b6 o7 =>
 ldI w2 .i64 b6 (o7 + 1) fun n8 =>
 R [.int .i64 n8, .bool true] w2)
theorem tie17 (a0 : Option Addr) (a1 : Int) (R : List Value → World → Prop) (w : World) : compF Pg Try.f17 ⟨[], [], [], []⟩ [.pointer a0, .int .i64 a1] R w = sh17 a0 a1 R w := by kernel_rfl
theorem call17 {a0 : Option Addr} {a1 : Int} {w : World} {K : TK [kI, kB] → World → Prop} (h : sh17 a0 a1 (fun vs w' => ∃ t, encK [kI, kB] t = vs ∧ K t w') w) : cl Pg 17 [.pointer a0, .int .i64 a1] [kI, kB] w K := cl_of Try.func17 (tie17 ..) h
/-- detent/detentlaw4.known -/
def sh10  (R : List Value → World → Prop) (w : World) : Prop :=
 cl Pg 11 [.bool true] [kP] w fun (r1 : Option Addr × Unit) w2 =>
 cs r1.1.isNone (
 R [.bool false] w2) (
 cl Pg 12 [.pointer r1.1, .int .i64 1, .int .i64 5] [kI] w2 fun (r3 : Int × Unit) w4 =>
 cl Pg 12 [.pointer r1.1, .int .i64 2, .int .i64 3] [kI] w4 fun (r5 : Int × Unit) w6 =>
 cl Pg 12 [.pointer r1.1, .int .i64 1, .int .i64 1] [kI] w6 fun (r7 : Int × Unit) w8 =>
 nn r1.1 fun b9 o10 =>
 cl Pg 16 [.pointer (some ⟨b9, o10, none⟩)] [.a [(.i .i64), (.i .i64)], kB] w8 fun (r11 : (Int × Int × Unit) × Bool × Unit) w12 =>
 al w12 29 [.int .i64 0, .int .i64 0] fun b13 w14 =>
 st1 w14 b13 0 (.int .i64 r11.1.1) fun w15 =>
 st1 w15 b13 (0 + 1) (.int .i64 r11.1.2.1) fun w16 =>
 nn r1.1 fun b17 o18 =>
 cl Pg 17 [.pointer (some ⟨b17, o18, none⟩), .int .i64 1] [kI, kB] w16 fun (r19 : Int × Bool × Unit) w20 =>
 cl Pg 14 [.pointer r1.1, .int .i64 1, .int .i64 2] [kB] w20 fun (r21 : Bool × Unit) w22 =>
 cl Pg 13 [.pointer r1.1] [.a [(.i .i64), (.i .i64)], kB] w22 fun (r23 : (Int × Int × Unit) × Bool × Unit) w24 =>
 al w24 29 [.int .i64 0, .int .i64 0] fun b25 w26 =>
 st1 w26 b25 0 (.int .i64 r23.1.1) fun w27 =>
 st1 w27 b25 (0 + 1) (.int .i64 r23.1.2.1) fun w28 =>
 jn [kB] w28 (fun (t30 : Bool × Unit) w31 =>
 jn [kB] w31 (fun (t34 : Bool × Unit) w35 =>
 jn [kB] w35 (fun (t38 : Bool × Unit) w39 =>
 jn [kB] w39 (fun (t42 : Bool × Unit) w43 =>
 jn [kB] w43 (fun (t46 : Bool × Unit) w47 =>
 jn [kB] w47 (fun (t50 : Bool × Unit) w51 =>
 jn [kB] w51 (fun (t54 : Bool × Unit) w55 =>
 jn [kB] w55 (fun (t58 : Bool × Unit) w59 =>
 jn [kB] w59 (fun (t62 : Bool × Unit) w63 =>
 jn [kB] w63 (fun (t66 : Bool × Unit) w67 =>
 jn [kB] w67 (fun (t70 : Bool × Unit) w71 =>
 jn [kB] w71 (fun (t74 : Bool × Unit) w75 =>
 R [.bool t74.1] w75) fun J73 w76 =>
 cs t70.1 (
 nn r1.1 fun b77 o78 =>
 cl Pg 18 [.pointer (some ⟨b77, o78, none⟩), .int .i64 1] [kB] w76 fun (r79 : Bool × Unit) w80 =>
 J73 (!r79.1, ()) w80) (
 J73 (false, ()) w76)) fun J69 w72 =>
 cs t66.1 (
 nn r1.1 fun b81 o82 =>
 cl Pg 18 [.pointer (some ⟨b81, o82, none⟩), .int .i64 2] [kB] w72 fun (r83 : Bool × Unit) w84 =>
 J69 (r83.1, ()) w84) (
 J69 (false, ()) w72)) fun J65 w68 =>
 cs t62.1 (
 nn r1.1 fun b85 o86 =>
 cl Pg 15 [.pointer (some ⟨b85, o86, none⟩)] [kI] w68 fun (r87 : Int × Unit) w88 =>
 J65 ((r87.1 : Int) == (1 : Int), ()) w88) (
 J65 (false, ()) w68)) fun J61 w64 =>
 cs t58.1 (
 J61 (r23.2.1, ()) w64) (
 J61 (false, ()) w64)) fun J57 w60 =>
 cs t54.1 (
 ldI w60 .i64 b25 (0 + 1) fun n89 =>
 J57 ((n89 : Int) == (2 : Int), ()) w60) (
 J57 (false, ()) w60)) fun J53 w56 =>
 cs t50.1 (
 ldI w56 .i64 b25 0 fun n90 =>
 J53 ((n90 : Int) == (1 : Int), ()) w56) (
 J53 (false, ()) w56)) fun J49 w52 =>
 cs t46.1 (
 J49 (r21.1, ()) w52) (
 J49 (false, ()) w52)) fun J45 w48 =>
 cs t42.1 (
 J45 (r19.2.1, ()) w48) (
 J45 (false, ()) w48)) fun J41 w44 =>
 cs t38.1 (
 J41 ((r19.1 : Int) == (5 : Int), ()) w44) (
 J41 (false, ()) w44)) fun J37 w40 =>
 cs t34.1 (
 J37 (r11.2.1, ()) w40) (
 J37 (false, ()) w40)) fun J33 w36 =>
 cs t30.1 (
 ldI w36 .i64 b13 0 fun n91 =>
 J33 ((n91 : Int) == (2 : Int), ()) w36) (
 J33 (false, ()) w36)) fun J29 w32 =>
 cs ((w64 (r3.1 + r5.1) : Int) == (0 : Int)) (
 J29 ((r7.1 : Int) == ((-41) : Int), ()) w32) (
 J29 (false, ()) w32))
theorem tie10  (R : List Value → World → Prop) (w : World) : compF Pg Try.f10 ⟨[], [], [], [(11, [(5, 3, ⟨[(49, kB)], [47, 48]⟩), (9, 4, ⟨[(54, kB)], [51, 52, 53]⟩), (14, 2, ⟨[(57, kB)], [56]⟩), (17, 3, ⟨[(61, kB)], [59, 60]⟩), (21, 2, ⟨[(64, kB)], [63]⟩), (24, 2, ⟨[(67, kB)], [66]⟩), (27, 4, ⟨[(72, kB)], [69, 70, 71]⟩), (32, 4, ⟨[(77, kB)], [74, 75, 76]⟩), (37, 2, ⟨[(80, kB)], [79]⟩), (40, 6, ⟨[(87, kB)], [82, 83, 84, 85, 86]⟩), (47, 5, ⟨[(93, kB)], [89, 90, 91, 92]⟩), (53, 6, ⟨[(100, kB)], [95, 96, 97, 98, 99]⟩)])]⟩ [] R w = sh10  R w := by kernel_rfl
theorem call10  {w : World} {K : TK [kB] → World → Prop} (h : sh10  (fun vs w' => ∃ t, encK [kB] t = vs ∧ K t w') w) : cl Pg 10 [] [kB] w K := cl_of Try.func10 (tie10 ..) h
/-- detent/detentlaw4.OrderSorts -/
def sh3 (a0 : Sl) (R : List Value → World → Prop) (w : World) : Prop :=
 cl Pg 10 [] [kB] w fun (r1 : Bool × Unit) w2 =>
 cs (!r1.1) (
 R [.bool false] w2) (
 cs (decide (((a0.len : Int) : Int) > (16 : Int))) (
 R [.bool true] w2) (
 cl Pg 11 [.bool true] [kP] w2 fun (r3 : Option Addr × Unit) w4 =>
 lp [kI] w4 ((0 : Int), ()) fun (t5 : Int × Unit) J6 w7 =>
 cs (decide ((t5.1 : Int) < ((a0.len : Int) : Int))) (
 ix a0 t5.1 1 fun b8 o9 =>
 ldI w7 .u8 b8 o9 fun n10 =>
 cl Pg 12 [.pointer r3.1, .int .i64 (w64 (t5.1 + 1)), .int .i64 (w64 (1 + (w64 (Int.tmod n10 16))))] [kI] w7 fun (r11 : Int × Unit) w12 =>
 cs ((r11.1 : Int) != (0 : Int)) (
 R [.bool false] w12) (
 J6 (w64 (t5.1 + 1), ()) w12)) (
 al w7 29 [.int .i64 0, .int .i64 0] fun b13 w14 =>
 st1 w14 b13 0 (.int .i64 0) fun w15 =>
 st1 w15 b13 (0 + 1) (.int .i64 0) fun w16 =>
 lp [kI] w16 ((0 : Int), ()) fun (t17 : Int × Unit) J18 w19 =>
 cs (decide ((t17.1 : Int) < ((a0.len : Int) : Int))) (
 cl Pg 13 [.pointer r3.1] [.a [(.i .i64), (.i .i64)], kB] w19 fun (r20 : (Int × Int × Unit) × Bool × Unit) w21 =>
 al w21 29 [.int .i64 0, .int .i64 0] fun b22 w23 =>
 st1 w23 b22 0 (.int .i64 r20.1.1) fun w24 =>
 st1 w24 b22 (0 + 1) (.int .i64 r20.1.2.1) fun w25 =>
 dr w25 fun w26 =>
 jn [kB] w26 (fun (t28 : Bool × Unit) w29 =>
 cs t28.1 (
 R [.bool false] w29) (
 ldI w29 .i64 b22 0 fun n31 =>
 ldI w29 .i64 b22 (0 + 1) fun n32 =>
 st1 w29 b13 0 (.int .i64 n31) fun w33 =>
 st1 w33 b13 (0 + 1) (.int .i64 n32) fun w34 =>
 J18 (w64 (t17.1 + 1), ()) w34)) fun J27 w30 =>
 cs (!r20.2.1) (
 J27 (true, ()) w30) (
 ldI w30 .i64 b22 0 fun n35 =>
 cs (decide ((n35 : Int) < (1 : Int))) (
 J27 (true, ()) w30) (
 ldI w30 .i64 b22 0 fun n36 =>
 cs (decide ((n36 : Int) > ((a0.len : Int) : Int))) (
 J27 (true, ()) w30) (
 ldI w30 .i64 b22 (0 + 1) fun n37 =>
 ldI w30 .i64 b22 0 fun n38 =>
 ix a0 (w64 (n38 - 1)) 1 fun b39 o40 =>
 ldI w30 .u8 b39 o40 fun n41 =>
 cs ((n37 : Int) != (w64 (1 + (w64 (Int.tmod n41 16))) : Int)) (
 J27 (true, ()) w30) (
 ldI w30 .i64 b22 (0 + 1) fun n42 =>
 ldI w30 .i64 b13 (0 + 1) fun n43 =>
 cs (decide ((n42 : Int) < (n43 : Int))) (
 J27 (true, ()) w30) (
 ldI w30 .i64 b22 (0 + 1) fun n44 =>
 ldI w30 .i64 b13 (0 + 1) fun n45 =>
 cs ((n44 : Int) == (n45 : Int)) (
 ldI w30 .i64 b22 0 fun n46 =>
 ldI w30 .i64 b13 0 fun n47 =>
 J27 (decide ((n46 : Int) < (n47 : Int)), ()) w30) (
 J27 (false, ()) w30))))))) (
 cl Pg 13 [.pointer r3.1] [.a [(.i .i64), (.i .i64)], kB] w19 fun (r48 : (Int × Int × Unit) × Bool × Unit) w49 =>
 al w49 29 [.int .i64 0, .int .i64 0] fun b50 w51 =>
 st1 w51 b50 0 (.int .i64 r48.1.1) fun w52 =>
 st1 w52 b50 (0 + 1) (.int .i64 r48.1.2.1) fun w53 =>
 R [.bool (!r48.2.1)] w53))))
theorem tie3 (a0 : Sl) (R : List Value → World → Prop) (w : World) : compF Pg Try.f3 ⟨[(3, ⟨[(4, kI)], [2, 17, 18, 19, 20, 21, 22, 23, 24, 25, 26, 27, 28, 29, 30, 31, 32, 33, 34]⟩), (8, ⟨[(6, kI)], [2, 7, 8, 36, 37, 38, 39, 40, 41, 42, 43, 44, 45, 46, 47, 48, 49, 50, 51, 52, 53, 54, 55, 56, 57, 58, 59, 60, 61, 62, 63, 64, 65, 66, 67, 68, 69, 70, 71, 72, 73, 74, 75, 76, 77, 78, 79, 80, 81, 82, 83, 84, 85, 86, 87, 88, 89, 90, 91, 92, 93, 94, 95, 96]⟩)], [(16, ⟨[(95, kB)], [47, 48, 49, 50, 51, 52, 53, 54, 55, 56, 57, 58, 59, 60, 61, 62, 63, 64, 65, 66, 67, 68, 69, 70, 71, 72, 73, 74, 75, 76, 77, 78, 79, 80, 81, 82, 83, 84, 85, 86, 87, 88, 89, 90, 91, 92, 93, 94]⟩)], [(16, .l [(0, []), (1, []), (2, []), (3, []), (4, []), (5, []), (6, []), (7, []), (8, []), (9, []), (10, []), (11, []), (12, []), (13, []), (14, []), (15, []), (16, []), (17, []), (18, []), (19, []), (20, []), (21, []), (22, []), (23, []), (24, []), (25, []), (26, []), (27, []), (28, []), (29, []), (30, []), (31, []), (32, []), (33, []), (34, []), (35, []), (36, []), (37, []), (38, []), (39, []), (40, []), (41, []), (42, []), (43, []), (44, []), (45, []), (46, []), (47, []), (48, [])])], []⟩ [vS a0] R w = sh3 a0 R w := by kernel_rfl
theorem call3 {a0 : Sl} {w : World} {K : TK [kB] → World → Prop} (h : sh3 a0 (fun vs w' => ∃ t, encK [kB] t = vs ∧ K t w') w) : cl Pg 3 [vS a0] [kB] w K := cl_of Try.func3 (tie3 ..) h
/-- detent/detentlaw4.OrderArrives -/
def sh4 (a0 : Sl) (a1 : Sl) (R : List Value → World → Prop) (w : World) : Prop :=
 cl Pg 10 [] [kB] w fun (r1 : Bool × Unit) w2 =>
 cs (!r1.1) (
 R [.bool false] w2) (
 jn [kB] w2 (fun (t4 : Bool × Unit) w5 =>
 cs t4.1 (
 R [.bool true] w5) (
 cl Pg 11 [.bool false] [kP] w5 fun (r7 : Option Addr × Unit) w8 =>
 lp [kI] w8 ((0 : Int), ()) fun (t9 : Int × Unit) J10 w11 =>
 cs (decide ((t9.1 : Int) < ((a0.len : Int) : Int))) (
 ix a0 t9.1 1 fun b12 o13 =>
 ldI w11 .u8 b12 o13 fun n14 =>
 cl Pg 12 [.pointer r7.1, .int .i64 (w64 (t9.1 + 1)), .int .i64 (w64 (1 + (w64 (Int.tmod n14 16))))] [kI] w11 fun (r15 : Int × Unit) w16 =>
 J10 (w64 (t9.1 + 1), ()) w16) (
 lp [kI] w11 ((0 : Int), ()) fun (t17 : Int × Unit) J18 w19 =>
 jn [kB] w19 (fun (t21 : Bool × Unit) w22 =>
 cs t21.1 (
 dr w22 fun w24 =>
 ix a1 t17.1 1 fun b25 o26 =>
 ldI w24 .u8 b25 o26 fun n27 =>
 ob ((a0.len : Int) ≠ 0) (
 ix a1 t17.1 1 fun b28 o29 =>
 ldI w24 .u8 b28 o29 fun n30 =>
 cl Pg 14 [.pointer r7.1, .int .i64 (w64 (1 + (Int.tmod (w64 (n27)) (a0.len : Int)))), .int .i64 (w64 (1 + (w64 (Int.fdiv n30 (2 ^ 4)))))] [kB] w24 fun (r31 : Bool × Unit) w32 =>
 cs (!r31.1) (
 R [.bool false] w32) (
 J18 (w64 (t17.1 + 1), ()) w32))) (
 lp [kI] w22 ((0 : Int), ()) fun (t33 : Int × Unit) J34 w35 =>
 cs (decide ((t33.1 : Int) < ((a0.len : Int) : Int))) (
 cl Pg 13 [.pointer r7.1] [.a [(.i .i64), (.i .i64)], kB] w35 fun (r36 : (Int × Int × Unit) × Bool × Unit) w37 =>
 al w37 29 [.int .i64 0, .int .i64 0] fun b38 w39 =>
 st1 w39 b38 0 (.int .i64 r36.1.1) fun w40 =>
 st1 w40 b38 (0 + 1) (.int .i64 r36.1.2.1) fun w41 =>
 jn [kB] w41 (fun (t43 : Bool × Unit) w44 =>
 cs t43.1 (
 R [.bool false] w44) (
 J34 (w64 (t33.1 + 1), ()) w44)) fun J42 w45 =>
 cs (!r36.2.1) (
 J42 (true, ()) w45) (
 ldI w45 .i64 b38 0 fun n46 =>
 J42 ((n46 : Int) != (w64 (t33.1 + 1) : Int), ()) w45)) (
 nn r7.1 fun b47 o48 =>
 cl Pg 15 [.pointer (some ⟨b47, o48, none⟩)] [kI] w35 fun (r49 : Int × Unit) w50 =>
 R [.bool ((r49.1 : Int) == (0 : Int))] w50))) fun J20 w23 =>
 cs (decide ((t17.1 : Int) < ((a1.len : Int) : Int))) (
 J20 (decide (((a0.len : Int) : Int) > (0 : Int)), ()) w23) (
 J20 (false, ()) w23)))) fun J3 w6 =>
 cs (decide (((a0.len : Int) : Int) > (16 : Int))) (
 J3 (true, ()) w6) (
 J3 (decide (((a1.len : Int) : Int) > (60 : Int)), ()) w6))
theorem tie4 (a0 : Sl) (a1 : Sl) (R : List Value → World → Prop) (w : World) : compF Pg Try.f4 ⟨[(3, ⟨[(6, kI)], [22, 23, 24, 25, 26, 27, 28, 29, 30, 31, 32, 33, 34, 35, 36, 37, 38]⟩), (7, ⟨[(7, kI)], [4, 39, 40, 41, 42, 43, 44, 45, 46, 47, 48, 49, 50, 51, 52, 53, 54, 55, 56, 57, 58, 59, 60, 61, 62, 63, 64, 65, 66, 67, 68]⟩), (12, ⟨[(8, kI)], [4, 9, 10, 69, 70, 71, 72, 73, 74, 75, 76, 77, 78, 79, 80, 81, 82, 83, 84, 85, 86, 87, 88]⟩)], [], [(13, .l [(0, []), (1, []), (2, []), (3, []), (4, []), (5, []), (6, []), (7, []), (8, []), (9, []), (10, []), (11, []), (12, []), (13, []), (14, []), (15, []), (16, []), (17, [0, 9, 16, 8, 15, 5, 7, 14, 4, 6, 13, 3, 12, 1, 2, 10, 11]), (18, [])])], [(3, [(4, 4, ⟨[(20, kB)], [17, 18, 19]⟩)]), (11, [(5, 4, ⟨[(47, kB)], [44, 45, 46]⟩)]), (19, [(3, 6, ⟨[(88, kB)], [83, 84, 85, 86, 87]⟩)])]⟩ [vS a0, vS a1] R w = sh4 a0 a1 R w := by kernel_rfl
theorem call4 {a0 : Sl} {a1 : Sl} {w : World} {K : TK [kB] → World → Prop} (h : sh4 a0 a1 (fun vs w' => ∃ t, encK [kB] t = vs ∧ K t w') w) : cl Pg 4 [vS a0, vS a1] [kB] w K := cl_of Try.func4 (tie4 ..) h
/-- slices.Clip[[]detent/order.Item,detent/order.Item] -/
def sh31 (a0 : Sl) (R : List Value → World → Prop) (w : World) : Prop :=
 sb a0 0 (a0.len : Int) (a0.len : Int) 2 fun s1 =>
 R [vS s1] w
theorem tie31 (a0 : Sl) (R : List Value → World → Prop) (w : World) : compF Pg Try.f31 ⟨[], [], [], []⟩ [vS a0] R w = sh31 a0 R w := by kernel_rfl
theorem call31 {a0 : Sl} {w : World} {K : TK [kS] → World → Prop} (h : sh31 a0 (fun vs w' => ∃ t, encK [kS] t = vs ∧ K t w') w) : cl Pg 31 [vS a0] [kS] w K := cl_of Try.func31 (tie31 ..) h
/-- slices.Clone[[]detent/order.Item,detent/order.Item] -/
def sh32 (a0 : Sl) (R : List Value → World → Prop) (w : World) : Prop :=
 cs a0.a.isNone (
 R [.slice none 0 0] w) (
 al w 29 [] fun b1 w2 =>
 ef Pg (Builtin.append_ #[36, 36] 36 #[vS ⟨some ⟨b1, 0, none⟩, 0, 0⟩, vS a0]) [kS] w2 fun (r3 : Sl × Unit) w4 =>
 R [vS r3.1] w4)
theorem tie32 (a0 : Sl) (R : List Value → World → Prop) (w : World) : compF Pg Try.f32 ⟨[], [], [], []⟩ [vS a0] R w = sh32 a0 R w := by kernel_rfl
theorem call32 {a0 : Sl} {w : World} {K : TK [kS] → World → Prop} (h : sh32 a0 (fun vs w' => ∃ t, encK [kS] t = vs ∧ K t w') w) : cl Pg 32 [vS a0] [kS] w K := cl_of Try.func32 (tie32 ..) h
/-- (*detent/order.Line).Row -/
def sh19 (a0 : Option Addr) (R : List Value → World → Prop) (w : World) : Prop :=
 nn a0 fun b1 o2 =>
 ldS w b1 o2 fun s3 =>
 cl Pg 32 [vS s3] [kS] w fun (r4 : Sl × Unit) w5 =>
 cl Pg 31 [vS r4.1] [kS] w5 fun (r6 : Sl × Unit) w7 =>
 R [vS r6.1] w7
theorem tie19 (a0 : Option Addr) (R : List Value → World → Prop) (w : World) : compF Pg Try.f19 ⟨[], [], [], []⟩ [.pointer a0] R w = sh19 a0 R w := by kernel_rfl
theorem call19 {a0 : Option Addr} {w : World} {K : TK [kS] → World → Prop} (h : sh19 a0 (fun vs w' => ∃ t, encK [kS] t = vs ∧ K t w') w) : cl Pg 19 [.pointer a0] [kS] w K := cl_of Try.func19 (tie19 ..) h
/-- detent/detentlaw4.OrderZero -/
def sh5 (a0 : Int) (R : List Value → World → Prop) (w : World) : Prop :=
 cl Pg 10 [] [kB] w fun (r1 : Bool × Unit) w2 =>
 cs (!r1.1) (
 R [.bool false] w2) (
 al w2 38 [.slice none 0 0] fun b3 w4 =>
 cl Pg 16 [.pointer (some ⟨b3, 0, none⟩)] [.a [(.i .i64), (.i .i64)], kB] w4 fun (r5 : (Int × Int × Unit) × Bool × Unit) w6 =>
 al w6 29 [.int .i64 0, .int .i64 0] fun b7 w8 =>
 st1 w8 b7 0 (.int .i64 r5.1.1) fun w9 =>
 st1 w9 b7 (0 + 1) (.int .i64 r5.1.2.1) fun w10 =>
 cl Pg 17 [.pointer (some ⟨b3, 0, none⟩), .int .i64 a0] [kI, kB] w10 fun (r11 : Int × Bool × Unit) w12 =>
 cl Pg 18 [.pointer (some ⟨b3, 0, none⟩), .int .i64 a0] [kB] w12 fun (r13 : Bool × Unit) w14 =>
 jn [kB] w14 (fun (t16 : Bool × Unit) w17 =>
 jn [kB] w17 (fun (t20 : Bool × Unit) w21 =>
 jn [kB] w21 (fun (t24 : Bool × Unit) w25 =>
 jn [kB] w25 (fun (t28 : Bool × Unit) w29 =>
 jn [kB] w29 (fun (t32 : Bool × Unit) w33 =>
 jn [kB] w33 (fun (t36 : Bool × Unit) w37 =>
 R [.bool t36.1] w37) fun J35 w38 =>
 cs t32.1 (
 cl Pg 20 [.pointer (some ⟨b3, 0, none⟩), .int .i64 a0] [kB] w38 fun (r39 : Bool × Unit) w40 =>
 J35 (!r39.1, ()) w40) (
 J35 (false, ()) w38)) fun J31 w34 =>
 cs t28.1 (
 J31 (!r11.2.1, ()) w34) (
 J31 (false, ()) w34)) fun J27 w30 =>
 cs t24.1 (
 ldI w30 .i64 b7 0 fun n41 =>
 J27 ((n41 : Int) == (0 : Int), ()) w30) (
 J27 (false, ()) w30)) fun J23 w26 =>
 cs t20.1 (
 J23 (!r5.2.1, ()) w26) (
 J23 (false, ()) w26)) fun J19 w22 =>
 cs t16.1 (
 cl Pg 19 [.pointer (some ⟨b3, 0, none⟩)] [kS] w22 fun (r42 : Sl × Unit) w43 =>
 J19 (((r42.1.len : Int) : Int) == (0 : Int), ()) w43) (
 J19 (false, ()) w22)) fun J15 w18 =>
 cs (!r13.1) (
 cl Pg 15 [.pointer (some ⟨b3, 0, none⟩)] [kI] w18 fun (r44 : Int × Unit) w45 =>
 J15 ((r44.1 : Int) == (0 : Int), ()) w45) (
 J15 (false, ()) w18))
theorem tie5 (a0 : Int) (R : List Value → World → Prop) (w : World) : compF Pg Try.f5 ⟨[], [], [], [(6, [(4, 3, ⟨[(25, kB)], [23, 24]⟩), (8, 4, ⟨[(30, kB)], [27, 28, 29]⟩), (13, 3, ⟨[(34, kB)], [32, 33]⟩), (17, 4, ⟨[(39, kB)], [36, 37, 38]⟩), (22, 3, ⟨[(43, kB)], [41, 42]⟩), (26, 4, ⟨[(48, kB)], [45, 46, 47]⟩)])]⟩ [.int .i64 a0] R w = sh5 a0 R w := by kernel_rfl
theorem call5 {a0 : Int} {w : World} {K : TK [kB] → World → Prop} (h : sh5 a0 (fun vs w' => ∃ t, encK [kB] t = vs ∧ K t w') w) : cl Pg 5 [.int .i64 a0] [kB] w K := cl_of Try.func5 (tie5 ..) h
/-- detent/detentref4.Good -/
def sh21 (a0 : Int) (a1 : Int) (R : List Value → World → Prop) (w : World) : Prop :=
 jn [kB] w (fun (t2 : Bool × Unit) w3 =>
 jn [kB] w3 (fun (t6 : Bool × Unit) w7 =>
 jn [kB] w7 (fun (t10 : Bool × Unit) w11 =>
 R [.bool t10.1] w11) fun J9 w12 =>
 cs t6.1 (
 J9 (decide ((a1 : Int) ≤ (16 : Int)), ()) w12) (
 J9 (false, ()) w12)) fun J5 w8 =>
 cs t2.1 (
 J5 (decide ((a1 : Int) ≥ (1 : Int)), ()) w8) (
 J5 (false, ()) w8)) fun J1 w4 =>
 cs (decide ((a0 : Int) ≥ (1 : Int))) (
 J1 (decide ((a0 : Int) ≤ (16 : Int)), ()) w4) (
 J1 (false, ()) w4)
theorem tie21 (a0 : Int) (a1 : Int) (R : List Value → World → Prop) (w : World) : compF Pg Try.f21 ⟨[], [], [], [(1, [(3, 3, ⟨[(10, kB)], [8, 9]⟩), (7, 3, ⟨[(14, kB)], [12, 13]⟩), (11, 3, ⟨[(18, kB)], [16, 17]⟩)])]⟩ [.int .i64 a0, .int .i64 a1] R w = sh21 a0 a1 R w := by kernel_rfl
theorem call21 {a0 : Int} {a1 : Int} {w : World} {K : TK [kB] → World → Prop} (h : sh21 a0 a1 (fun vs w' => ∃ t, encK [kB] t = vs ∧ K t w') w) : cl Pg 21 [.int .i64 a0, .int .i64 a1] [kB] w K := cl_of Try.func21 (tie21 ..) h
/-- (*detent/detentref4.Queue).At -/
def sh34 (a0 : Option Addr) (a1 : Int) (R : List Value → World → Prop) (w : World) : Prop :=
 lp [kI] w ((0 : Int), ()) fun (t1 : Int × Unit) J2 w3 =>
 nn a0 fun b4 o5 =>
 ldS w3 b4 (o5 + 1) fun s6 =>
 cs (decide ((t1.1 : Int) < ((s6.len : Int) : Int))) (
 nn a0 fun b7 o8 =>
 ldS w3 b7 (o8 + 1) fun s9 =>
 ix s9 t1.1 2 fun b10 o11 =>
 ldI w3 .i64 b10 o11 fun n12 =>
 cs ((n12 : Int) == (a1 : Int)) (
 R [.int .i64 t1.1] w3) (
 J2 (w64 (t1.1 + 1), ()) w3)) (
 R [.int .i64 (-1)] w3)
theorem tie34 (a0 : Option Addr) (a1 : Int) (R : List Value → World → Prop) (w : World) : compF Pg Try.f34 ⟨[(1, ⟨[(5, kI)], [4, 6, 7, 8, 9, 10, 11, 12, 13, 14, 15, 16, 17, 18, 19, 20, 21, 22, 23, 24, 25]⟩)], [], [], []⟩ [.pointer a0, .int .i64 a1] R w = sh34 a0 a1 R w := by kernel_rfl
theorem call34 {a0 : Option Addr} {a1 : Int} {w : World} {K : TK [kI] → World → Prop} (h : sh34 a0 a1 (fun vs w' => ∃ t, encK [kI] t = vs ∧ K t w') w) : cl Pg 34 [.pointer a0, .int .i64 a1] [kI] w K := cl_of Try.func34 (tie34 ..) h
/-- (*detent/detentref4.Queue).put -/
def sh35 (a0 : Option Addr) (a1 : (Int × Int × Unit)) (R : List Value → World → Prop) (w : World) : Prop :=
 al w 56 [.int .i64 a1.1, .int .i64 a1.2.1] fun b1 w2 =>
 nn a0 fun b3 o4 =>
 ldS w2 b3 (o4 + 1) fun s5 =>
 nn a0 fun b6 o7 =>
 ldB w2 b6 o7 fun b8 =>
 jn [kI] w2 (fun (t10 : Int × Unit) w11 =>
 dr w11 fun w13 =>
 nn a0 fun b14 o15 =>
 ldS w13 b14 (o15 + 1) fun s16 =>
 sb s16 0 t10.1 s16.cap 2 fun s17 =>
 ldI w13 .i64 b1 0 fun n18 =>
 ldI w13 .i64 b1 (0 + 1) fun n19 =>
(
 al w13 56 [] fun b20 w21 =>
(w21.cell? ⟨b1, 0, none⟩ = some (.int .i64 n18) ∧ w21.cell? ⟨b1, 0 + 1, none⟩ = some (.int .i64 n19)) ∧ (
(w21.cell? ⟨b14, o15 + 1, none⟩ = some (vS s16)) ∧ (
(
 ef Pg (Builtin.append_ #[50, 50] 50 #[vS ⟨some ⟨b20, 0, none⟩, 0, 0⟩, vS s17]) [kS] w21 fun (r22 : Sl × Unit) w23 =>
(w23.cell? ⟨b1, 0, none⟩ = some (.int .i64 n18) ∧ w23.cell? ⟨b1, 0 + 1, none⟩ = some (.int .i64 n19)) ∧ (
 al w23 56 [.int .i64 n18, .int .i64 n19] fun b24 w25 =>
(w25.cell? ⟨b14, o15 + 1, none⟩ = some (vS s16)) ∧ (
 ef Pg (Builtin.append_ #[50, 50] 50 #[vS r22.1, vS ⟨some ⟨b24, 0, none⟩, 1, 1⟩]) [kS] w25 fun (r26 : Sl × Unit) w27 =>
 nn a0 fun b28 o29 =>
 ldS w27 b28 (o29 + 1) fun s30 =>
 sb s30 t10.1 s30.len s30.cap 2 fun s31 =>
 ef Pg (Builtin.append_ #[50, 50] 50 #[vS r26.1, vS s31]) [kS] w27 fun (r32 : Sl × Unit) w33 =>
 nn a0 fun b34 o35 =>
 st1 w33 b34 (o35 + 1) (vS r32.1) fun w36 =>
 R [] w36))) ∧ (
 al w21 56 [.int .i64 n18, .int .i64 n19] fun b37 w38 =>
(w38.cell? ⟨b14, o15 + 1, none⟩ = some (vS s16)) ∧ (
 ef Pg (Builtin.append_ #[50, 50] 50 #[vS ⟨some ⟨b20, 0, none⟩, 0, 0⟩, vS s17]) [kS] w38 fun (r39 : Sl × Unit) w40 =>
(w40.cell? ⟨b1, 0, none⟩ = some (.int .i64 n18) ∧ w40.cell? ⟨b1, 0 + 1, none⟩ = some (.int .i64 n19)) ∧ (
 ef Pg (Builtin.append_ #[50, 50] 50 #[vS r39.1, vS ⟨some ⟨b37, 0, none⟩, 1, 1⟩]) [kS] w40 fun (r41 : Sl × Unit) w42 =>
 nn a0 fun b43 o44 =>
 ldS w42 b43 (o44 + 1) fun s45 =>
 sb s45 t10.1 s45.len s45.cap 2 fun s46 =>
 ef Pg (Builtin.append_ #[50, 50] 50 #[vS r41.1, vS s46]) [kS] w42 fun (r47 : Sl × Unit) w48 =>
 nn a0 fun b49 o50 =>
 st1 w48 b49 (o50 + 1) (vS r47.1) fun w51 =>
 R [] w51)))))) ∧ (
 al w13 56 [.int .i64 n18, .int .i64 n19] fun b52 w53 =>
(w53.cell? ⟨b14, o15 + 1, none⟩ = some (vS s16)) ∧ (
 al w53 56 [] fun b54 w55 =>
(w55.cell? ⟨b1, 0, none⟩ = some (.int .i64 n18) ∧ w55.cell? ⟨b1, 0 + 1, none⟩ = some (.int .i64 n19)) ∧ (
(w55.cell? ⟨b14, o15 + 1, none⟩ = some (vS s16)) ∧ (
 ef Pg (Builtin.append_ #[50, 50] 50 #[vS ⟨some ⟨b54, 0, none⟩, 0, 0⟩, vS s17]) [kS] w55 fun (r56 : Sl × Unit) w57 =>
(w57.cell? ⟨b1, 0, none⟩ = some (.int .i64 n18) ∧ w57.cell? ⟨b1, 0 + 1, none⟩ = some (.int .i64 n19)) ∧ (
 ef Pg (Builtin.append_ #[50, 50] 50 #[vS r56.1, vS ⟨some ⟨b52, 0, none⟩, 1, 1⟩]) [kS] w57 fun (r58 : Sl × Unit) w59 =>
 nn a0 fun b60 o61 =>
 ldS w59 b60 (o61 + 1) fun s62 =>
 sb s62 t10.1 s62.len s62.cap 2 fun s63 =>
 ef Pg (Builtin.append_ #[50, 50] 50 #[vS r58.1, vS s63]) [kS] w59 fun (r64 : Sl × Unit) w65 =>
 nn a0 fun b66 o67 =>
 st1 w65 b66 (o67 + 1) (vS r64.1) fun w68 =>
 R [] w68)))))) fun J9 w12 =>
 cs b8 (
 lp [kI] w12 ((s5.len : Int), ()) fun (t69 : Int × Unit) J70 w71 =>
 dr w71 fun w72 =>
 jn [kB] w72 (fun (t74 : Bool × Unit) w75 =>
 cs t74.1 (
 J70 (w64 (t69.1 - 1), ()) w75) (
 J9 (t69.1, ()) w75)) fun J73 w76 =>
 cs (decide ((t69.1 : Int) > (0 : Int))) (
 nn a0 fun b77 o78 =>
 ldS w76 b77 (o78 + 1) fun s79 =>
 ix s79 (w64 (t69.1 - 1)) 2 fun b80 o81 =>
 ldI w76 .i64 b80 (o81 + 1) fun n82 =>
 ldI w76 .i64 b1 (0 + 1) fun n83 =>
 J73 (decide ((n82 : Int) > (n83 : Int)), ()) w76) (
 J73 (false, ()) w76)) (
 J9 ((s5.len : Int), ()) w12)
theorem tie35 (a0 : Option Addr) (a1 : (Int × Int × Unit)) (R : List Value → World → Prop) (w : World) : compF Pg Try.f35 ⟨[(0, ⟨[(4, kI)], [15, 16, 17, 18, 19, 20, 21, 22, 23, 24, 25, 26, 27, 28, 29, 30, 31, 32]⟩), (2, ⟨[(4, kI)], [15, 16, 17, 18, 19, 20, 21, 22, 23, 24, 25, 26, 27, 28, 29, 30, 31, 32]⟩)], [(3, ⟨[(30, kB)], [15, 16, 17, 18, 19, 20, 21, 22, 23, 24, 25, 26, 27, 28, 29]⟩)], [(5, .t [(1, []), (2, []), (3, []), (4, []), (5, []), (6, []), (8, [])] 0 [] (.t [] 7 [0, 6, 4, 5, 3, 2, 1] (.l [(9, [8]), (10, [7, 9, 0, 6, 8, 4, 5, 3, 2, 1]), (11, [])]) 9 [8] (.l [(7, [0, 6, 4, 5, 3, 2, 1]), (10, [7, 9, 0, 6, 8, 4, 5, 3, 2, 1]), (11, [])])) 9 [8] (.l [(0, []), (7, [0, 6, 4, 5, 3, 2, 1]), (10, [7, 9, 0, 6, 8, 4, 5, 3, 2, 1]), (11, [])])), (3, .l [(0, []), (1, []), (2, []), (3, []), (4, []), (5, []), (6, []), (7, []), (8, []), (9, []), (10, []), (11, []), (12, []), (13, []), (14, []), (15, [])])], []⟩ [.pointer a0, .agg #[.int .i64 a1.1, .int .i64 a1.2.1]] R w = sh35 a0 a1 R w := by kernel_rfl
theorem call35 {a0 : Option Addr} {a1 : (Int × Int × Unit)} {w : World} {K : TK [] → World → Prop} (h : sh35 a0 a1 (fun vs w' => ∃ t, encK [] t = vs ∧ K t w') w) : cl Pg 35 [.pointer a0, .agg #[.int .i64 a1.1, .int .i64 a1.2.1]] [] w K := cl_of Try.func35 (tie35 ..) h
/-- (*detent/detentref4.Queue).Add -/
def sh22 (a0 : Option Addr) (a1 : Int) (a2 : Int) (R : List Value → World → Prop) (w : World) : Prop :=
 cl Pg 21 [.int .i64 a1, .int .i64 a2] [kB] w fun (r1 : Bool × Unit) w2 =>
 cs (!r1.1) (
 R [.int .i64 (-17)] w2) (
 cl Pg 34 [.pointer a0, .int .i64 a1] [kI] w2 fun (r3 : Int × Unit) w4 =>
 cs (decide ((r3.1 : Int) ≥ (0 : Int))) (
 R [.int .i64 (-41)] w4) (
 cl Pg 35 [.pointer a0, .agg #[.int .i64 a1, .int .i64 a2]] [] w4 fun (r5 : Unit) w6 =>
 R [.int .i64 0] w6))
theorem tie22 (a0 : Option Addr) (a1 : Int) (a2 : Int) (R : List Value → World → Prop) (w : World) : compF Pg Try.f22 ⟨[], [], [], []⟩ [.pointer a0, .int .i64 a1, .int .i64 a2] R w = sh22 a0 a1 a2 R w := by kernel_rfl
theorem call22 {a0 : Option Addr} {a1 : Int} {a2 : Int} {w : World} {K : TK [kI] → World → Prop} (h : sh22 a0 a1 a2 (fun vs w' => ∃ t, encK [kI] t = vs ∧ K t w') w) : cl Pg 22 [.pointer a0, .int .i64 a1, .int .i64 a2] [kI] w K := cl_of Try.func22 (tie22 ..) h
/-- (*detent/detentref4.Queue).Remove -/
def sh23 (a0 : Option Addr) (a1 : Int) (R : List Value → World → Prop) (w : World) : Prop :=
 cl Pg 34 [.pointer a0, .int .i64 a1] [kI] w fun (r1 : Int × Unit) w2 =>
 cs (decide ((r1.1 : Int) < (0 : Int))) (
 R [.bool false] w2) (
 al w2 56 [] fun b3 w4 =>
 nn a0 fun b5 o6 =>
 ldS w4 b5 (o6 + 1) fun s7 =>
 sb s7 0 r1.1 s7.cap 2 fun s8 =>
 ef Pg (Builtin.append_ #[50, 50] 50 #[vS ⟨some ⟨b3, 0, none⟩, 0, 0⟩, vS s8]) [kS] w4 fun (r9 : Sl × Unit) w10 =>
 nn a0 fun b11 o12 =>
 ldS w10 b11 (o12 + 1) fun s13 =>
 sb s13 (w64 (r1.1 + 1)) s13.len s13.cap 2 fun s14 =>
 ef Pg (Builtin.append_ #[50, 50] 50 #[vS r9.1, vS s14]) [kS] w10 fun (r15 : Sl × Unit) w16 =>
 nn a0 fun b17 o18 =>
 st1 w16 b17 (o18 + 1) (vS r15.1) fun w19 =>
 R [.bool true] w19)
theorem tie23 (a0 : Option Addr) (a1 : Int) (R : List Value → World → Prop) (w : World) : compF Pg Try.f23 ⟨[], [], [], []⟩ [.pointer a0, .int .i64 a1] R w = sh23 a0 a1 R w := by kernel_rfl
theorem call23 {a0 : Option Addr} {a1 : Int} {w : World} {K : TK [kB] → World → Prop} (h : sh23 a0 a1 (fun vs w' => ∃ t, encK [kB] t = vs ∧ K t w') w) : cl Pg 23 [.pointer a0, .int .i64 a1] [kB] w K := cl_of Try.func23 (tie23 ..) h
/-- (*detent/detentref4.Queue).Change -/
def sh24 (a0 : Option Addr) (a1 : Int) (a2 : Int) (R : List Value → World → Prop) (w : World) : Prop :=
 cl Pg 34 [.pointer a0, .int .i64 a1] [kI] w fun (r1 : Int × Unit) w2 =>
 jn [kB] w2 (fun (t4 : Bool × Unit) w5 =>
 jn [kB] w5 (fun (t8 : Bool × Unit) w9 =>
 cs t8.1 (
 R [.bool false] w9) (
 nn a0 fun b11 o12 =>
 ldB w9 b11 o12 fun b13 =>
 cs b13 (
 cl Pg 23 [.pointer a0, .int .i64 a1] [kB] w9 fun (r14 : Bool × Unit) w15 =>
 cl Pg 35 [.pointer a0, .agg #[.int .i64 a1, .int .i64 a2]] [] w15 fun (r16 : Unit) w17 =>
 R [.bool true] w17) (
 al w9 56 [] fun b18 w19 =>
 nn a0 fun b20 o21 =>
 ldS w19 b20 (o21 + 1) fun s22 =>
 ef Pg (Builtin.append_ #[50, 50] 50 #[vS ⟨some ⟨b18, 0, none⟩, 0, 0⟩, vS s22]) [kS] w19 fun (r23 : Sl × Unit) w24 =>
 nn a0 fun b25 o26 =>
 st1 w24 b25 (o26 + 1) (vS r23.1) fun w27 =>
 nn a0 fun b28 o29 =>
 ldS w27 b28 (o29 + 1) fun s30 =>
 ix s30 r1.1 2 fun b31 o32 =>
 st1 w27 b31 (o32 + 1) (.int .i64 a2) fun w33 =>
 R [.bool true] w33))) fun J7 w10 =>
 cs t4.1 (
 J7 (true, ()) w10) (
 J7 (decide ((a2 : Int) > (16 : Int)), ()) w10)) fun J3 w6 =>
 cs (decide ((r1.1 : Int) < (0 : Int))) (
 J3 (true, ()) w6) (
 J3 (decide ((a2 : Int) < (1 : Int)), ()) w6)
theorem tie24 (a0 : Option Addr) (a1 : Int) (a2 : Int) (R : List Value → World → Prop) (w : World) : compF Pg Try.f24 ⟨[], [], [], [(2, [(3, 3, ⟨[(16, kB)], [14, 15]⟩), (7, 3, ⟨[(20, kB)], [18, 19]⟩)])]⟩ [.pointer a0, .int .i64 a1, .int .i64 a2] R w = sh24 a0 a1 a2 R w := by kernel_rfl
theorem call24 {a0 : Option Addr} {a1 : Int} {a2 : Int} {w : World} {K : TK [kB] → World → Prop} (h : sh24 a0 a1 a2 (fun vs w' => ∃ t, encK [kB] t = vs ∧ K t w') w) : cl Pg 24 [.pointer a0, .int .i64 a1, .int .i64 a2] [kB] w K := cl_of Try.func24 (tie24 ..) h
/-- (*detent/detentref4.Queue).Take -/
def sh25 (a0 : Option Addr) (R : List Value → World → Prop) (w : World) : Prop :=
 al w 56 [.int .i64 0, .int .i64 0] fun b1 w2 =>
 nn a0 fun b3 o4 =>
 ldS w2 b3 (o4 + 1) fun s5 =>
 cs (((s5.len : Int) : Int) == (0 : Int)) (
 st1 w2 b1 0 (.int .i64 0) fun w6 =>
 st1 w6 b1 (0 + 1) (.int .i64 0) fun w7 =>
 ldI w7 .i64 b1 0 fun n8 =>
 ldI w7 .i64 b1 (0 + 1) fun n9 =>
 R [.agg #[.int .i64 n8, .int .i64 n9], .bool false] w7) (
 nn a0 fun b10 o11 =>
 ldS w2 b10 (o11 + 1) fun s12 =>
 ix s12 0 2 fun b13 o14 =>
 ldI w2 .i64 b13 o14 fun n15 =>
 ldI w2 .i64 b13 (o14 + 1) fun n16 =>
 al w2 56 [.int .i64 0, .int .i64 0] fun b17 w18 =>
 st1 w18 b17 0 (.int .i64 n15) fun w19 =>
 st1 w19 b17 (0 + 1) (.int .i64 n16) fun w20 =>
 al w20 56 [] fun b21 w22 =>
 nn a0 fun b23 o24 =>
 ldS w22 b23 (o24 + 1) fun s25 =>
 sb s25 1 s25.len s25.cap 2 fun s26 =>
 ef Pg (Builtin.append_ #[50, 50] 50 #[vS ⟨some ⟨b21, 0, none⟩, 0, 0⟩, vS s26]) [kS] w22 fun (r27 : Sl × Unit) w28 =>
 nn a0 fun b29 o30 =>
 st1 w28 b29 (o30 + 1) (vS r27.1) fun w31 =>
 ldI w31 .i64 b17 0 fun n32 =>
 ldI w31 .i64 b17 (0 + 1) fun n33 =>
 st1 w31 b1 0 (.int .i64 n32) fun w34 =>
 st1 w34 b1 (0 + 1) (.int .i64 n33) fun w35 =>
 ldI w35 .i64 b1 0 fun n36 =>
 ldI w35 .i64 b1 (0 + 1) fun n37 =>
 R [.agg #[.int .i64 n36, .int .i64 n37], .bool true] w35)
theorem tie25 (a0 : Option Addr) (R : List Value → World → Prop) (w : World) : compF Pg Try.f25 ⟨[], [], [], []⟩ [.pointer a0] R w = sh25 a0 R w := by kernel_rfl
theorem call25 {a0 : Option Addr} {w : World} {K : TK [.a [(.i .i64), (.i .i64)], kB] → World → Prop} (h : sh25 a0 (fun vs w' => ∃ t, encK [.a [(.i .i64), (.i .i64)], kB] t = vs ∧ K t w') w) : cl Pg 25 [.pointer a0] [.a [(.i .i64), (.i .i64)], kB] w K := cl_of Try.func25 (tie25 ..) h
/-- (*detent/order.Queue).Twin -/
def sh26 (a0 : Option Addr) (R : List Value → World → Prop) (w : World) : Prop :=
 dr w fun w1 =>
 nn a0 fun b2 o3 =>
 ldS w1 b2 o3 fun s4 =>
 nn a0 fun b5 o6 =>
 ldB w1 b5 (o6 + 1) fun b7 =>
 cl Pg 32 [vS s4] [kS] w1 fun (r8 : Sl × Unit) w9 =>
(w9.cell? ⟨b5, o6 + 1, none⟩ = some (.bool b7)) ∧ (
 al w9 40 [vS r8.1, .bool b7] fun b10 w11 =>
 R [.pointer (some ⟨b10, 0, none⟩)] w11)
theorem tie26 (a0 : Option Addr) (R : List Value → World → Prop) (w : World) : compF Pg Try.f26 ⟨[], [], [(1, .l [(0, []), (1, []), (2, []), (3, []), (4, []), (7, []), (8, []), (9, []), (10, []), (5, [4, 3, 2, 1, 0]), (6, []), (11, []), (12, [11, 6, 10, 5, 9, 4, 8, 3, 7, 2, 1, 0]), (13, [])])], []⟩ [.pointer a0] R w = sh26 a0 R w := by kernel_rfl
theorem call26 {a0 : Option Addr} {w : World} {K : TK [kP] → World → Prop} (h : sh26 a0 (fun vs w' => ∃ t, encK [kP] t = vs ∧ K t w') w) : cl Pg 26 [.pointer a0] [kP] w K := cl_of Try.func26 (tie26 ..) h
/-- detent/detentlaw4.Row -/
def sh36 (a0 : Sl) (a1 : Sl) (R : List Value → World → Prop) (w : World) : Prop :=
 cs (((a0.len : Int) : Int) != ((a1.len : Int) : Int)) (
 R [.bool false] w) (
 lp [kI] w ((0 : Int), ()) fun (t1 : Int × Unit) J2 w3 =>
 cs (decide ((t1.1 : Int) < ((a0.len : Int) : Int))) (
 dr w3 fun w4 =>
 jn [kB] w4 (fun (t6 : Bool × Unit) w7 =>
 cs t6.1 (
 R [.bool false] w7) (
 J2 (w64 (t1.1 + 1), ()) w7)) fun J5 w8 =>
 ix a0 t1.1 2 fun b9 o10 =>
 ldI w8 .i64 b9 o10 fun n11 =>
 ix a1 t1.1 2 fun b12 o13 =>
 ldI w8 .i64 b12 o13 fun n14 =>
 cs ((n11 : Int) != (n14 : Int)) (
 J5 (true, ()) w8) (
 ix a0 t1.1 2 fun b15 o16 =>
 ldI w8 .i64 b15 (o16 + 1) fun n17 =>
 ix a1 t1.1 2 fun b18 o19 =>
 ldI w8 .i64 b18 (o19 + 1) fun n20 =>
 J5 ((n17 : Int) != (n20 : Int), ()) w8)) (
 R [.bool true] w3))
theorem tie36 (a0 : Sl) (a1 : Sl) (R : List Value → World → Prop) (w : World) : compF Pg Try.f36 ⟨[(2, ⟨[(5, kI)], [4, 11, 12, 13, 14, 15, 16, 17, 18, 19, 20, 21, 22, 23, 24, 25, 26, 27, 28, 29, 30, 31, 32, 33, 34, 35, 36, 37, 38, 39, 40]⟩)], [(6, ⟨[(40, kB)], [17, 18, 19, 20, 21, 22, 23, 24, 25, 26, 27, 28, 29, 30, 31, 32, 33, 34, 35, 36, 37, 38, 39]⟩)], [(6, .l [(0, []), (1, []), (2, []), (3, []), (4, []), (5, []), (6, []), (7, []), (8, []), (9, []), (10, []), (11, []), (12, []), (13, []), (14, []), (15, []), (16, []), (17, []), (18, []), (19, []), (20, []), (21, []), (22, []), (23, [])])], []⟩ [vS a0, vS a1] R w = sh36 a0 a1 R w := by kernel_rfl
theorem call36 {a0 : Sl} {a1 : Sl} {w : World} {K : TK [kB] → World → Prop} (h : sh36 a0 a1 (fun vs w' => ∃ t, encK [kB] t = vs ∧ K t w') w) : cl Pg 36 [vS a0, vS a1] [kB] w K := cl_of Try.func36 (tie36 ..) h
/-- detent/detentlaw4.Same -/
def sh27 (a0 : Option Addr) (a1 : Option Addr) (R : List Value → World → Prop) (w : World) : Prop :=
 dr w fun w1 =>
 jn [kB] w1 (fun (t3 : Bool × Unit) w4 =>
 cs t3.1 (
 R [.bool false] w4) (
 nn a0 fun b6 o7 =>
 cl Pg 16 [.pointer (some ⟨b6, o7, none⟩)] [.a [(.i .i64), (.i .i64)], kB] w4 fun (r8 : (Int × Int × Unit) × Bool × Unit) w9 =>
 al w9 29 [.int .i64 0, .int .i64 0] fun b10 w11 =>
 st1 w11 b10 0 (.int .i64 r8.1.1) fun w12 =>
 st1 w12 b10 (0 + 1) (.int .i64 r8.1.2.1) fun w13 =>
 dr w13 fun w14 =>
 jn [kB] w14 (fun (t16 : Bool × Unit) w17 =>
 cs t16.1 (
 R [.bool false] w17) (
 lp [kI] w17 ((0 : Int), ()) fun (t19 : Int × Unit) J20 w21 =>
 cs (decide ((t19.1 : Int) ≤ (17 : Int))) (
 cl Pg 34 [.pointer a1, .int .i64 t19.1] [kI] w21 fun (r22 : Int × Unit) w23 =>
 nn a0 fun b24 o25 =>
 cl Pg 17 [.pointer (some ⟨b24, o25, none⟩), .int .i64 t19.1] [kI, kB] w23 fun (r26 : Int × Bool × Unit) w27 =>
 nn a0 fun b28 o29 =>
 cl Pg 18 [.pointer (some ⟨b28, o29, none⟩), .int .i64 t19.1] [kB] w27 fun (r30 : Bool × Unit) w31 =>
 jn [kB] w31 (fun (t33 : Bool × Unit) w34 =>
 jn [kB] w34 (fun (t37 : Bool × Unit) w38 =>
 jn [kB] w38 (fun (t41 : Bool × Unit) w42 =>
 cs t41.1 (
 R [.bool false] w42) (
 J20 (w64 (t19.1 + 1), ()) w42)) fun J40 w43 =>
 cs t37.1 (
 J40 (true, ()) w43) (
 jn [kB] w43 (fun (t45 : Bool × Unit) w46 =>
 J40 (t45.1, ()) w46) fun J44 w47 =>
 cs (decide ((r22.1 : Int) < (0 : Int))) (
 J44 ((r26.1 : Int) != (0 : Int), ()) w47) (
 J44 (false, ()) w47))) fun J36 w39 =>
 cs t33.1 (
 J36 (true, ()) w39) (
 jn [kB] w39 (fun (t49 : Bool × Unit) w50 =>
 J36 (t49.1, ()) w50) fun J48 w51 =>
 cs (decide ((r22.1 : Int) ≥ (0 : Int))) (
 nn a1 fun b52 o53 =>
 ldS w51 b52 (o53 + 1) fun s54 =>
 ix s54 r22.1 2 fun b55 o56 =>
 ldI w51 .i64 b55 (o56 + 1) fun n57 =>
 J48 ((r26.1 : Int) != (n57 : Int), ()) w51) (
 J48 (false, ()) w51))) fun J32 w35 =>
 cs (!(r30.1 == (decide ((r22.1 : Int) ≥ (0 : Int))))) (
 J32 (true, ()) w35) (
 J32 (!(r26.2.1 == (decide ((r22.1 : Int) ≥ (0 : Int)))), ()) w35)) (
 R [.bool true] w21))) fun J15 w18 =>
 nn a1 fun b58 o59 =>
 ldS w18 b58 (o59 + 1) fun s60 =>
 cs (!(r8.2.1 == (decide (((s60.len : Int) : Int) > (0 : Int))))) (
 J15 (true, ()) w18) (
 cs r8.2.1 (
 ldI w18 .i64 b10 0 fun n61 =>
 nn a1 fun b62 o63 =>
 ldS w18 b62 (o63 + 1) fun s64 =>
 ix s64 0 2 fun b65 o66 =>
 ldI w18 .i64 b65 o66 fun n67 =>
 cs ((n61 : Int) != (n67 : Int)) (
 J15 (true, ()) w18) (
 ldI w18 .i64 b10 (0 + 1) fun n68 =>
 nn a1 fun b69 o70 =>
 ldS w18 b69 (o70 + 1) fun s71 =>
 ix s71 0 2 fun b72 o73 =>
 ldI w18 .i64 b72 (o73 + 1) fun n74 =>
 cs ((n68 : Int) != (n74 : Int)) (
 J15 (true, ()) w18) (
 cs (!r8.2.1) (
 ldI w18 .i64 b10 0 fun n75 =>
 cs ((n75 : Int) != (0 : Int)) (
 J15 (true, ()) w18) (
 ldI w18 .i64 b10 (0 + 1) fun n76 =>
 J15 ((n76 : Int) != (0 : Int), ()) w18)) (
 J15 (false, ()) w18)))) (
 cs (!r8.2.1) (
 ldI w18 .i64 b10 0 fun n77 =>
 cs ((n77 : Int) != (0 : Int)) (
 J15 (true, ()) w18) (
 ldI w18 .i64 b10 (0 + 1) fun n78 =>
 J15 ((n78 : Int) != (0 : Int), ()) w18)) (
 J15 (false, ()) w18))))) fun J2 w5 =>
 nn a0 fun b79 o80 =>
 nn a1 fun b81 o82 =>
 ldS w5 b81 (o82 + 1) fun s83 =>
 cl Pg 19 [.pointer (some ⟨b79, o80, none⟩)] [kS] w5 fun (r84 : Sl × Unit) w85 =>
(w85.cell? ⟨b81, o82 + 1, none⟩ = some (vS s83)) ∧ (
 cl Pg 36 [vS r84.1, vS s83] [kB] w85 fun (r86 : Bool × Unit) w87 =>
 cs (!r86.1) (
 J2 (true, ()) w87) (
 nn a0 fun b88 o89 =>
 nn a1 fun b90 o91 =>
 ldS w87 b90 (o91 + 1) fun s92 =>
 cl Pg 15 [.pointer (some ⟨b88, o89, none⟩)] [kI] w87 fun (r93 : Int × Unit) w94 =>
(w94.cell? ⟨b90, o91 + 1, none⟩ = some (vS s92)) ∧ (
 J2 ((r93.1 : Int) != ((s92.len : Int) : Int), ()) w94)))
theorem tie27 (a0 : Option Addr) (a1 : Option Addr) (R : List Value → World → Prop) (w : World) : compF Pg Try.f27 ⟨[(3, ⟨[(7, kI)], [4, 8, 9, 10, 89, 90, 91, 92, 93, 94, 95, 96, 97, 98, 99, 100, 101, 102, 103, 104, 105, 106, 107, 108, 109, 110, 111, 112, 113, 114, 115, 116, 117, 118, 119, 120, 121, 122, 123, 124, 125, 126, 127, 128, 129, 130, 131, 132, 133, 134, 135, 136, 137, 138, 139, 140, 141]⟩)], [(1, ⟨[(32, kB)], [11, 12, 13, 14, 15, 16, 17, 18, 19, 20, 21, 22, 23, 24, 25, 26, 27, 28, 29, 30, 31]⟩), (4, ⟨[(88, kB)], [40, 41, 42, 43, 44, 45, 46, 47, 48, 49, 50, 51, 52, 53, 54, 55, 56, 57, 58, 59, 60, 61, 62, 63, 64, 65, 66, 67, 68, 69, 70, 71, 72, 73, 74, 75, 76, 77, 78, 79, 80, 81, 82, 83, 84, 85, 86, 87]⟩)], [(1, .l [(0, []), (1, []), (2, []), (4, []), (5, []), (6, []), (7, []), (3, [2, 1, 0]), (8, [3, 7, 2, 6, 1, 5, 0, 4]), (9, []), (10, []), (11, []), (12, []), (13, []), (15, []), (16, []), (17, []), (18, []), (19, []), (14, [13, 10, 12, 9, 8, 11, 3, 7, 2, 6, 1, 5, 0, 4]), (20, []), (21, [])]), (4, .l [(0, []), (1, []), (2, []), (3, []), (4, []), (5, []), (6, []), (7, []), (8, []), (9, []), (10, []), (11, []), (12, []), (13, []), (14, []), (15, []), (16, []), (17, []), (18, []), (19, []), (20, []), (21, []), (22, []), (23, []), (24, []), (25, []), (26, []), (27, []), (28, []), (29, []), (30, []), (31, []), (32, []), (33, []), (34, []), (35, []), (36, []), (37, []), (38, []), (39, []), (40, []), (41, []), (42, []), (43, []), (44, []), (45, []), (46, []), (47, []), (48, [])])], [(11, [(9, 5, ⟨[(117, kB)], [113, 114, 115, 116]⟩), (15, 15, ⟨[(133, kB)], [119, 120, 121, 122, 123, 124, 125, 126, 127, 128, 129, 130, 131, 132]⟩), (18, 11, ⟨[(132, kB)], [122, 123, 124, 125, 126, 127, 128, 129, 130, 131]⟩), (31, 7, ⟨[(141, kB)], [135, 136, 137, 138, 139, 140]⟩), (34, 3, ⟨[(140, kB)], [138, 139]⟩)])]⟩ [.pointer a0, .pointer a1] R w = sh27 a0 a1 R w := by kernel_rfl
theorem call27 {a0 : Option Addr} {a1 : Option Addr} {w : World} {K : TK [kB] → World → Prop} (h : sh27 a0 a1 (fun vs w' => ∃ t, encK [kB] t = vs ∧ K t w') w) : cl Pg 27 [.pointer a0, .pointer a1] [kB] w K := cl_of Try.func27 (tie27 ..) h
/-- detent/detentlaw4.OrderPlays -/
def sh8 (a0 : Bool) (a1 : Sl) (R : List Value → World → Prop) (w : World) : Prop :=
 cl Pg 10 [] [kB] w fun (r1 : Bool × Unit) w2 =>
 cs (!r1.1) (
 R [.bool false] w2) (
 cs (decide (((a1.len : Int) : Int) > (100 : Int))) (
 R [.bool true] w2) (
 cl Pg 11 [.bool a0] [kP] w2 fun (r3 : Option Addr × Unit) w4 =>
 al w4 52 [.bool a0, .slice none 0 0] fun b5 w6 =>
 cs r3.1.isNone (
 R [.bool false] w6) (
 lp [kP, kI] w6 (r3.1, (0 : Int), ()) fun (t7 : Option Addr × Int × Unit) J8 w9 =>
 cs (decide ((t7.2.1 : Int) < ((a1.len : Int) : Int))) (
 ix a1 t7.2.1 3 fun b10 o11 =>
 ldI w9 .i64 b10 o11 fun n12 =>
 ldI w9 .i64 b10 (o11 + 1) fun n13 =>
 ldI w9 .i64 b10 (o11 + 2) fun n14 =>
 al w9 54 [.int .i64 0, .int .i64 0, .int .i64 0] fun b15 w16 =>
 st1 w16 b15 0 (.int .i64 n12) fun w17 =>
 st1 w17 b15 (0 + 1) (.int .i64 n13) fun w18 =>
 st1 w18 b15 (0 + 2) (.int .i64 n14) fun w19 =>
 ldI w19 .i64 b15 0 fun n20 =>
 jn [kP] w19 (fun (t22 : Option Addr × Unit) w23 =>
 cl Pg 27 [.pointer t22.1, .pointer (some ⟨b5, 0, none⟩)] [kB] w23 fun (r25 : Bool × Unit) w26 =>
 cs (!r25.1) (
 R [.bool false] w26) (
 J8 (t22.1, w64 (t7.2.1 + 1), ()) w26)) fun J21 w24 =>
 cs ((n20 : Int) == (1 : Int)) (
 dr w24 fun w27 =>
 ldI w27 .i64 b15 (0 + 1) fun n28 =>
 ldI w27 .i64 b15 (0 + 2) fun n29 =>
 ldI w27 .i64 b15 (0 + 1) fun n30 =>
 ldI w27 .i64 b15 (0 + 2) fun n31 =>
 cl Pg 12 [.pointer t7.1, .int .i64 n28, .int .i64 n29] [kI] w27 fun (r32 : Int × Unit) w33 =>
(w33.cell? ⟨b15, 0 + 2, none⟩ = some (.int .i64 n31)) ∧ (
(w33.cell? ⟨b15, 0 + 1, none⟩ = some (.int .i64 n30)) ∧ (
 cl Pg 22 [.pointer (some ⟨b5, 0, none⟩), .int .i64 n30, .int .i64 n31] [kI] w33 fun (r34 : Int × Unit) w35 =>
 cs ((r32.1 : Int) != (r34.1 : Int)) (
 R [.bool false] w35) (
 J21 (t7.1, ()) w35)))) (
 jn [kP] w24 (fun (t37 : Option Addr × Unit) w38 =>
 J21 (t37.1, ()) w38) fun J36 w39 =>
 cs ((n20 : Int) == (2 : Int)) (
 dr w39 fun w40 =>
 nn t7.1 fun b41 o42 =>
 ldI w40 .i64 b15 (0 + 1) fun n43 =>
 ldI w40 .i64 b15 (0 + 1) fun n44 =>
 cl Pg 20 [.pointer (some ⟨b41, o42, none⟩), .int .i64 n43] [kB] w40 fun (r45 : Bool × Unit) w46 =>
(w46.cell? ⟨b15, 0 + 1, none⟩ = some (.int .i64 n44)) ∧ (
 cl Pg 23 [.pointer (some ⟨b5, 0, none⟩), .int .i64 n44] [kB] w46 fun (r47 : Bool × Unit) w48 =>
 cs (!(r45.1 == r47.1)) (
 R [.bool false] w48) (
 J36 (t7.1, ()) w48))) (
 jn [kP] w39 (fun (t50 : Option Addr × Unit) w51 =>
 J36 (t50.1, ()) w51) fun J49 w52 =>
 cs ((n20 : Int) == (3 : Int)) (
 dr w52 fun w53 =>
 ldI w53 .i64 b15 (0 + 1) fun n54 =>
 ldI w53 .i64 b15 (0 + 2) fun n55 =>
 ldI w53 .i64 b15 (0 + 1) fun n56 =>
 ldI w53 .i64 b15 (0 + 2) fun n57 =>
 cl Pg 14 [.pointer t7.1, .int .i64 n54, .int .i64 n55] [kB] w53 fun (r58 : Bool × Unit) w59 =>
(w59.cell? ⟨b15, 0 + 2, none⟩ = some (.int .i64 n57)) ∧ (
(w59.cell? ⟨b15, 0 + 1, none⟩ = some (.int .i64 n56)) ∧ (
 cl Pg 24 [.pointer (some ⟨b5, 0, none⟩), .int .i64 n56, .int .i64 n57] [kB] w59 fun (r60 : Bool × Unit) w61 =>
 cs (!(r58.1 == r60.1)) (
 R [.bool false] w61) (
 J49 (t7.1, ()) w61)))) (
 jn [kP] w52 (fun (t63 : Option Addr × Unit) w64 =>
 J49 (t63.1, ()) w64) fun J62 w65 =>
 cs ((n20 : Int) == (4 : Int)) (
 cl Pg 13 [.pointer t7.1] [.a [(.i .i64), (.i .i64)], kB] w65 fun (r66 : (Int × Int × Unit) × Bool × Unit) w67 =>
 al w67 29 [.int .i64 0, .int .i64 0] fun b68 w69 =>
 st1 w69 b68 0 (.int .i64 r66.1.1) fun w70 =>
 st1 w70 b68 (0 + 1) (.int .i64 r66.1.2.1) fun w71 =>
 cl Pg 25 [.pointer (some ⟨b5, 0, none⟩)] [.a [(.i .i64), (.i .i64)], kB] w71 fun (r72 : (Int × Int × Unit) × Bool × Unit) w73 =>
 al w73 56 [.int .i64 0, .int .i64 0] fun b74 w75 =>
 st1 w75 b74 0 (.int .i64 r72.1.1) fun w76 =>
 st1 w76 b74 (0 + 1) (.int .i64 r72.1.2.1) fun w77 =>
 ldI w77 .i64 b68 0 fun n78 =>
 ldI w77 .i64 b74 0 fun n79 =>
 jn [kB] w77 (fun (t81 : Bool × Unit) w82 =>
 jn [kB] w82 (fun (t85 : Bool × Unit) w86 =>
 cs t85.1 (
 R [.bool false] w86) (
 J62 (t7.1, ()) w86)) fun J84 w87 =>
 cs t81.1 (
 J84 (true, ()) w87) (
 J84 (!(r66.2.1 == r72.2.1), ()) w87)) fun J80 w83 =>
 cs ((n78 : Int) != (n79 : Int)) (
 J80 (true, ()) w83) (
 ldI w83 .i64 b68 (0 + 1) fun n88 =>
 ldI w83 .i64 b74 (0 + 1) fun n89 =>
 J80 ((n88 : Int) != (n89 : Int), ()) w83)) (
 jn [kP] w65 (fun (t91 : Option Addr × Unit) w92 =>
 J62 (t91.1, ()) w92) fun J90 w93 =>
 cs ((n20 : Int) == (5 : Int)) (
 cl Pg 26 [.pointer t7.1] [kP] w93 fun (r94 : Option Addr × Unit) w95 =>
 cs r94.1.isNone (
 R [.bool false] w95) (
 lp [] w95 () fun (t96 : Unit) J97 w98 =>
 nn t7.1 fun b99 o100 =>
 cl Pg 15 [.pointer (some ⟨b99, o100, none⟩)] [kI] w98 fun (r101 : Int × Unit) w102 =>
 cs (decide ((r101.1 : Int) > (0 : Int))) (
 cl Pg 13 [.pointer t7.1] [.a [(.i .i64), (.i .i64)], kB] w102 fun (r103 : (Int × Int × Unit) × Bool × Unit) w104 =>
 al w104 29 [.int .i64 0, .int .i64 0] fun b105 w106 =>
 st1 w106 b105 0 (.int .i64 r103.1.1) fun w107 =>
 st1 w107 b105 (0 + 1) (.int .i64 r103.1.2.1) fun w108 =>
 cs (!r103.2.1) (
 R [.bool false] w108) (
 J97 () w108)) (
 J90 (r94.1, ()) w102))) (
 J90 (t7.1, ()) w93)))))) (
 R [.bool true] w9))))
theorem tie8 (a0 : Bool) (a1 : Sl) (R : List Value → World → Prop) (w : World) : compF Pg Try.f8 ⟨[(4, ⟨[(5, kP), (7, kI)], [4, 8, 9, 10, 11, 12, 13, 14, 15, 28, 29, 30, 31, 32, 33, 34, 35, 36, 37, 38, 39, 40, 41, 42, 43, 44, 45, 46, 47, 48, 49, 50, 51, 52, 53, 54, 55, 56, 57, 58, 59, 60, 61, 62, 63, 64, 65, 66, 67, 68, 69, 70, 71, 72, 73, 74, 75, 76, 77, 78, 79, 80, 81, 82, 83, 84, 85, 86, 87, 88, 89, 90, 91, 92, 93, 94, 95, 96, 97, 98, 99, 100, 101, 102, 103, 104, 105, 106, 107, 108, 109, 110, 111, 112, 113, 114, 115, 116, 117, 118, 119, 120, 121, 122, 123, 124, 125, 126, 127, 128, 129, 130, 131, 132, 133, 134]⟩), (8, ⟨[(5, kP)], [4, 9, 10, 11, 12, 13, 14, 15, 42, 43, 44, 45, 46, 47, 48, 49, 50, 51, 52, 53, 54, 55, 56, 57, 58, 59, 60, 61, 62, 63, 64, 65, 66, 67, 68, 69, 70, 71, 72, 73, 74, 75, 76, 77, 78, 79, 80, 81, 82, 83, 84, 85, 86, 87, 88, 89, 90, 91, 92, 93, 94, 95, 96, 97, 98, 99, 100, 101, 102, 103, 104, 105, 106, 107, 108, 109, 110, 111, 112, 113, 114, 115, 116, 117, 118, 119, 120, 121, 122, 123, 124, 125, 126, 127, 128, 129, 130]⟩), (10, ⟨[(5, kP)], [4, 9, 10, 11, 12, 13, 14, 15, 57, 58, 59, 60, 61, 62, 63, 64, 65, 66, 67, 68, 69, 70, 71, 72, 73, 74, 75, 76, 77, 78, 79, 80, 81, 82, 83, 84, 85, 86, 87, 88, 89, 90, 91, 92, 93, 94, 95, 96, 97, 98, 99, 100, 101, 102, 103, 104, 105, 106, 107, 108, 109, 110, 111, 112, 113, 114, 115, 116, 117, 118, 119, 120, 121, 122, 123, 124, 125, 126, 127, 128, 129, 130]⟩), (12, ⟨[(5, kP)], [4, 9, 10, 11, 12, 13, 14, 15, 70, 71, 72, 73, 74, 75, 76, 77, 78, 79, 80, 81, 82, 83, 84, 85, 86, 87, 88, 89, 90, 91, 92, 93, 94, 95, 96, 97, 98, 99, 100, 101, 102, 103, 104, 105, 106, 107, 108, 109, 110, 111, 112, 113, 114, 115, 116, 117, 118, 119, 120, 121, 122, 123, 124, 125, 126, 127, 128, 129, 130]⟩), (14, ⟨[(5, kP)], [4, 9, 10, 11, 12, 13, 14, 15, 85, 86, 87, 88, 89, 90, 91, 92, 93, 94, 95, 96, 97, 98, 99, 100, 101, 102, 103, 104, 105, 106, 107, 108, 109, 110, 111, 112, 113, 114, 115, 116, 117, 118, 119, 120, 121, 122, 123, 124, 125, 126, 127, 128, 129, 130]⟩), (16, ⟨[(5, kP)], [4, 13, 14, 15, 114, 115, 116, 117, 118, 119, 120, 121, 122, 123, 124, 125, 126, 127, 128, 129, 130]⟩), (19, ⟨[], [4, 14, 15, 118, 119, 120, 121, 122, 123, 124, 125, 126, 127, 128, 129]⟩)], [], [(15, .l [(0, []), (1, []), (2, []), (3, []), (4, []), (6, []), (7, []), (8, []), (9, []), (10, []), (5, [0, 2, 4, 1, 3]), (11, [6, 8, 10, 5, 7, 9, 0, 2, 4, 1, 3]), (12, [])]), (18, .l [(0, []), (1, []), (2, []), (3, []), (4, []), (6, []), (7, []), (8, []), (5, [2, 4, 1, 3, 0]), (9, [6, 8, 5, 7, 2, 4, 1, 3, 0]), (10, [])]), (21, .l [(0, []), (1, []), (2, []), (3, []), (4, []), (6, []), (7, []), (8, []), (9, []), (10, []), (5, [0, 2, 4, 1, 3]), (11, [6, 8, 10, 5, 7, 9, 0, 2, 4, 1, 3]), (12, [])])], [(26, [(6, 6, ⟨[(106, kB)], [101, 102, 103, 104, 105]⟩), (13, 4, ⟨[(111, kB)], [108, 109, 110]⟩)])]⟩ [.bool a0, vS a1] R w = sh8 a0 a1 R w := by kernel_rfl
theorem call8 {a0 : Bool} {a1 : Sl} {w : World} {K : TK [kB] → World → Prop} (h : sh8 a0 a1 (fun vs w' => ∃ t, encK [kB] t = vs ∧ K t w') w) : cl Pg 8 [.bool a0, vS a1] [kB] w K := cl_of Try.func8 (tie8 ..) h
end Go.Proofs.Ytnbjikhhkdkjaaa.B
