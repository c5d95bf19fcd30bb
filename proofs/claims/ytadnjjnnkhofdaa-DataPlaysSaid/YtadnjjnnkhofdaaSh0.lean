/- Printed by sh.py: each Go function as a typed shallow program, and its tie to the code. -/
import Derived.Test.YtadnjjnnkhofdaaSound4
import Derived.Test.YtadnjjnnkhofdaaProg
namespace Go.Proofs.Ytadnjjnnkhofdaa.B
open Go Go.Proofs
set_option linter.unusedVariables false
set_option maxRecDepth 100000
noncomputable abbrev Pg : Program := Try.prog
/-- detent/order.New -/
def sh34 (a0 : Bool) (R : List Value → World → Prop) (w : World) : Prop :=
 al w 83 [.slice none 0 0, .bool a0] fun b1 w2 =>
 R [.pointer (some ⟨b1, 0, none⟩)] w2
theorem tie34 (a0 : Bool) (R : List Value → World → Prop) (w : World) : compF Pg Try.f34 ⟨[], [], [], []⟩ [.bool a0] R w = sh34 a0 R w := by kernel_rfl
theorem call34 {a0 : Bool} {w : World} {K : TK [kP] → World → Prop} (h : sh34 a0 (fun vs w' => ∃ t, encK [kP] t = vs ∧ K t w') w) : cl Pg 34 [.bool a0] [kP] w K := cl_of Try.func34 (tie34 ..) h
/-- detent/dtq.New -/
def sh10 (a0 : Bool) (a1 : Int) (R : List Value → World → Prop) (w : World) : Prop :=
 jn [kB] w (fun (t2 : Bool × Unit) w3 =>
 cs t2.1 (
 R [.pointer none, .int .i64 (-17)] w3) (
 cl Pg 34 [.bool a0] [kP] w3 fun (r5 : Option Addr × Unit) w6 =>
 cl Pg 34 [.bool false] [kP] w6 fun (r7 : Option Addr × Unit) w8 =>
 ef Pg (Instr.makeMap 72 none) [kM] w8 fun (r9 : Option Nat × Unit) w10 =>
 al w10 74 [.pointer r5.1, .pointer r7.1, .int .i64 a1, .slice none 0 0, .map r9.1] fun b11 w12 =>
 R [.pointer (some ⟨b11, 0, none⟩), .int .i64 0] w12)) fun J1 w4 =>
 cs (decide ((a1 : Int) < (0 : Int))) (
 J1 (true, ()) w4) (
 J1 (decide ((a1 : Int) > (64 : Int)), ()) w4)
theorem tie10 (a0 : Bool) (a1 : Int) (R : List Value → World → Prop) (w : World) : compF Pg Try.f10 ⟨[], [], [], [(1, [(3, 3, ⟨[(11, kB)], [9, 10]⟩)])]⟩ [.bool a0, .int .i64 a1] R w = sh10 a0 a1 R w := by kernel_rfl
theorem call10 {a0 : Bool} {a1 : Int} {w : World} {K : TK [kP, kI] → World → Prop} (h : sh10 a0 a1 (fun vs w' => ∃ t, encK [kP, kI] t = vs ∧ K t w') w) : cl Pg 10 [.bool a0, .int .i64 a1] [kP, kI] w K := cl_of Try.func10 (tie10 ..) h
/-- slices.IndexFunc[[]detent/order.Item,detent/order.Item] -/
def sh62 (a0 : Sl) (a1 : Fv) (R : List Value → World → Prop) (w : World) : Prop :=
 lp [kI] w ((0 : Int), ()) fun (t1 : Int × Unit) J2 w3 =>
 cs (decide ((t1.1 : Int) < ((a0.len : Int) : Int))) (
 ix a0 t1.1 2 fun b4 o5 =>
 ldI w3 .i64 b4 o5 fun n6 =>
 ldI w3 .i64 b4 (o5 + 1) fun n7 =>
 ob (enterable Pg a1.fid = true) (
 cl Pg a1.fid (a1.pre ++ ([.agg #[.int .i64 n6, .int .i64 n7]] ++ a1.post)) [kB] w3 fun (r8 : Bool × Unit) w9 =>
 cs r8.1 (
 R [.int .i64 t1.1] w9) (
 J2 (w64 (t1.1 + 1), ()) w9))) (
 R [.int .i64 (-1)] w3)
theorem tie62 (a0 : Sl) (a1 : Fv) (R : List Value → World → Prop) (w : World) : compF Pg Try.f62 ⟨[(1, ⟨[(8, kI)], [4, 5, 9, 10, 11, 12, 13, 14, 15, 16, 17, 18]⟩)], [], [], []⟩ [vS a0, vF a1] R w = sh62 a0 a1 R w := by kernel_rfl
theorem call62 {a0 : Sl} {a1 : Fv} {w : World} {K : TK [kI] → World → Prop} (h : sh62 a0 a1 (fun vs w' => ∃ t, encK [kI] t = vs ∧ K t w') w) : cl Pg 62 [vS a0, vF a1] [kI] w K := cl_of Try.func62 (tie62 ..) h
/-- (*detent/order.Line).at$1 -/
def sh63 (a0 : (Int × Int × Unit)) (c0 : Nat) (R : List Value → World → Prop) (w : World) : Prop :=
 al w 76 [.int .i64 a0.1, .int .i64 a0.2.1] fun b1 w2 =>
 ldI w2 .i64 b1 0 fun n3 =>
 ldI w2 .i64 c0 0 fun n4 =>
 R [.bool ((n3 : Int) == (n4 : Int))] w2
theorem tie63 (a0 : (Int × Int × Unit)) (c0 : Nat) (R : List Value → World → Prop) (w : World) : compF Pg Try.f63 ⟨[], [], [], []⟩ [.agg #[.int .i64 a0.1, .int .i64 a0.2.1], .pointer (some ⟨c0, 0, none⟩)] R w = sh63 a0 c0 R w := by kernel_rfl
theorem call63 {a0 : (Int × Int × Unit)} {c0 : Nat} {w : World} {K : TK [kB] → World → Prop} (h : sh63 a0 c0 (fun vs w' => ∃ t, encK [kB] t = vs ∧ K t w') w) : cl Pg 63 [.agg #[.int .i64 a0.1, .int .i64 a0.2.1], .pointer (some ⟨c0, 0, none⟩)] [kB] w K := cl_of Try.func63 (tie63 ..) h
/-- (*detent/order.Line).at -/
def sh54 (a0 : Option Addr) (a1 : Int) (R : List Value → World → Prop) (w : World) : Prop :=
 al w 3 [.int .i64 a1] fun b1 w2 =>
 nn a0 fun b3 o4 =>
 ldS w2 b3 o4 fun s5 =>
 cl Pg 62 [vS s5, .func (.func 63) #[] #[.pointer (some ⟨b1, 0, none⟩)]] [kI] w2 fun (r6 : Int × Unit) w7 =>
 R [.int .i64 r6.1] w7
theorem tie54 (a0 : Option Addr) (a1 : Int) (R : List Value → World → Prop) (w : World) : compF Pg Try.f54 ⟨[], [], [], []⟩ [.pointer a0, .int .i64 a1] R w = sh54 a0 a1 R w := by kernel_rfl
theorem call54 {a0 : Option Addr} {a1 : Int} {w : World} {K : TK [kI] → World → Prop} (h : sh54 a0 a1 (fun vs w' => ∃ t, encK [kI] t = vs ∧ K t w') w) : cl Pg 54 [.pointer a0, .int .i64 a1] [kI] w K := cl_of Try.func54 (tie54 ..) h
/-- slices.Delete[[]detent/order.Item,detent/order.Item] -/
def sh57 (a0 : Sl) (a1 : Int) (a2 : Int) (R : List Value → World → Prop) (w : World) : Prop :=
 sb a0 a1 a2 (a0.len : Int) 2 fun s1 =>
 cs ((a1 : Int) == (a2 : Int)) (
 R [vS a0] w) (
 dr w fun w2 =>
 sb a0 0 a1 a0.cap 2 fun s3 =>
 sb a0 a2 a0.len a0.cap 2 fun s4 =>
 ef Pg (Builtin.append_ #[79, 79] 79 #[vS s3, vS s4]) [kS] w2 fun (r5 : Sl × Unit) w6 =>
 sb r5.1 (r5.1.len : Int) (a0.len : Int) r5.1.cap 2 fun s7 =>
 ef Pg (Builtin.clear_ #[79] 0 #[vS s7]) [] w6 fun (r8 : Unit) w9 =>
 R [vS r5.1] w9)
theorem tie57 (a0 : Sl) (a1 : Int) (a2 : Int) (R : List Value → World → Prop) (w : World) : compF Pg Try.f57 ⟨[], [], [(5, .l [(0, []), (1, []), (2, []), (3, []), (4, []), (5, []), (6, [2, 5, 0, 1, 3, 4]), (7, [])])], []⟩ [vS a0, .int .i64 a1, .int .i64 a2] R w = sh57 a0 a1 a2 R w := by kernel_rfl
theorem call57 {a0 : Sl} {a1 : Int} {a2 : Int} {w : World} {K : TK [kS] → World → Prop} (h : sh57 a0 a1 a2 (fun vs w' => ∃ t, encK [kS] t = vs ∧ K t w') w) : cl Pg 57 [vS a0, .int .i64 a1, .int .i64 a2] [kS] w K := cl_of Try.func57 (tie57 ..) h
/-- (*detent/order.Line).Remove -/
def sh38 (a0 : Option Addr) (a1 : Int) (R : List Value → World → Prop) (w : World) : Prop :=
 cl Pg 54 [.pointer a0, .int .i64 a1] [kI] w fun (r1 : Int × Unit) w2 =>
 cs (decide ((r1.1 : Int) < (0 : Int))) (
 R [.bool false] w2) (
 nn a0 fun b3 o4 =>
 ldS w2 b3 o4 fun s5 =>
 cl Pg 57 [vS s5, .int .i64 r1.1, .int .i64 (w64 (r1.1 + 1))] [kS] w2 fun (r6 : Sl × Unit) w7 =>
 nn a0 fun b8 o9 =>
 st1 w7 b8 o9 (vS r6.1) fun w10 =>
 R [.bool true] w10)
theorem tie38 (a0 : Option Addr) (a1 : Int) (R : List Value → World → Prop) (w : World) : compF Pg Try.f38 ⟨[], [], [], []⟩ [.pointer a0, .int .i64 a1] R w = sh38 a0 a1 R w := by kernel_rfl
theorem call38 {a0 : Option Addr} {a1 : Int} {w : World} {K : TK [kB] → World → Prop} (h : sh38 a0 a1 (fun vs w' => ∃ t, encK [kB] t = vs ∧ K t w') w) : cl Pg 38 [.pointer a0, .int .i64 a1] [kB] w K := cl_of Try.func38 (tie38 ..) h
/-- (*detent/order.Line).First -/
def sh53 (a0 : Option Addr) (R : List Value → World → Prop) (w : World) : Prop :=
 al w 76 [.int .i64 0, .int .i64 0] fun b1 w2 =>
 nn a0 fun b3 o4 =>
 ldS w2 b3 o4 fun s5 =>
 cs (((s5.len : Int) : Int) == (0 : Int)) (
 st1 w2 b1 0 (.int .i64 0) fun w6 =>
 st1 w6 b1 (0 + 1) (.int .i64 0) fun w7 =>
 ldI w7 .i64 b1 0 fun n8 =>
 ldI w7 .i64 b1 (0 + 1) fun n9 =>
 R [.agg #[.int .i64 n8, .int .i64 n9], .bool false] w7) (
 nn a0 fun b10 o11 =>
 ldS w2 b10 o11 fun s12 =>
 ix s12 0 2 fun b13 o14 =>
 ldI w2 .i64 b13 o14 fun n15 =>
 ldI w2 .i64 b13 (o14 + 1) fun n16 =>
 st1 w2 b1 0 (.int .i64 n15) fun w17 =>
 st1 w17 b1 (0 + 1) (.int .i64 n16) fun w18 =>
 ldI w18 .i64 b1 0 fun n19 =>
 ldI w18 .i64 b1 (0 + 1) fun n20 =>
 R [.agg #[.int .i64 n19, .int .i64 n20], .bool true] w18)
theorem tie53 (a0 : Option Addr) (R : List Value → World → Prop) (w : World) : compF Pg Try.f53 ⟨[], [], [], []⟩ [.pointer a0] R w = sh53 a0 R w := by kernel_rfl
theorem call53 {a0 : Option Addr} {w : World} {K : TK [.a [(.i .i64), (.i .i64)], kB] → World → Prop} (h : sh53 a0 (fun vs w' => ∃ t, encK [.a [(.i .i64), (.i .i64)], kB] t = vs ∧ K t w') w) : cl Pg 53 [.pointer a0] [.a [(.i .i64), (.i .i64)], kB] w K := cl_of Try.func53 (tie53 ..) h
/-- (*detent/order.Queue).Take -/
def sh35 (a0 : Option Addr) (R : List Value → World → Prop) (w : World) : Prop :=
 al w 76 [.int .i64 0, .int .i64 0] fun b1 w2 =>
 nn a0 fun b3 o4 =>
 cl Pg 53 [.pointer (some ⟨b3, o4, none⟩)] [.a [(.i .i64), (.i .i64)], kB] w2 fun (r5 : (Int × Int × Unit) × Bool × Unit) w6 =>
 al w6 76 [.int .i64 0, .int .i64 0] fun b7 w8 =>
 st1 w8 b7 0 (.int .i64 r5.1.1) fun w9 =>
 st1 w9 b7 (0 + 1) (.int .i64 r5.1.2.1) fun w10 =>
 jn [] w10 (fun (t12 : Unit) w13 =>
 ldI w13 .i64 b7 0 fun n15 =>
 ldI w13 .i64 b7 (0 + 1) fun n16 =>
 st1 w13 b1 0 (.int .i64 n15) fun w17 =>
 st1 w17 b1 (0 + 1) (.int .i64 n16) fun w18 =>
 ldI w18 .i64 b1 0 fun n19 =>
 ldI w18 .i64 b1 (0 + 1) fun n20 =>
 R [.agg #[.int .i64 n19, .int .i64 n20], .bool r5.2.1] w18) fun J11 w14 =>
 cs r5.2.1 (
 dr w14 fun w21 =>
 nn a0 fun b22 o23 =>
 ldI w21 .i64 b7 0 fun n24 =>
 cl Pg 38 [.pointer (some ⟨b22, o23, none⟩), .int .i64 n24] [kB] w21 fun (r25 : Bool × Unit) w26 =>
 J11 () w26) (
 J11 () w14)
theorem tie35 (a0 : Option Addr) (R : List Value → World → Prop) (w : World) : compF Pg Try.f35 ⟨[(0, ⟨[], [14, 15, 16, 17, 18, 19]⟩)], [], [(3, .l [(0, []), (1, []), (2, []), (3, []), (4, []), (5, [2, 4, 1, 3, 0])])], []⟩ [.pointer a0] R w = sh35 a0 R w := by kernel_rfl
theorem call35 {a0 : Option Addr} {w : World} {K : TK [.a [(.i .i64), (.i .i64)], kB] → World → Prop} (h : sh35 a0 (fun vs w' => ∃ t, encK [.a [(.i .i64), (.i .i64)], kB] t = vs ∧ K t w') w) : cl Pg 35 [.pointer a0] [.a [(.i .i64), (.i .i64)], kB] w K := cl_of Try.func35 (tie35 ..) h
/-- (*detent/dtq.Queue).TrySend -/
def sh11 (a0 : Option Addr) (a1 : Int) (R : List Value → World → Prop) (w : World) : Prop :=
 nn a0 fun b1 o2 =>
 ldP w b1 (o2 + 1) fun p3 =>
 cl Pg 35 [.pointer p3] [.a [(.i .i64), (.i .i64)], kB] w fun (r4 : (Int × Int × Unit) × Bool × Unit) w5 =>
 al w5 76 [.int .i64 0, .int .i64 0] fun b6 w7 =>
 st1 w7 b6 0 (.int .i64 r4.1.1) fun w8 =>
 st1 w8 b6 (0 + 1) (.int .i64 r4.1.2.1) fun w9 =>
 cs r4.2.1 (
 dr w9 fun w10 =>
 ldI w10 .i64 b6 0 fun n11 =>
 R [.bool true, .int .i64 n11] w10) (
 dr w9 fun w12 =>
 nn a0 fun b13 o14 =>
 ldS w12 b13 (o14 + 3) fun s15 =>
 nn a0 fun b16 o17 =>
 ldI w12 .i64 b16 (o17 + 2) fun n18 =>
 cs (decide (((s15.len : Int) : Int) ≥ (n18 : Int))) (
 R [.bool false, .int .i64 0] w12) (
 nn a0 fun b19 o20 =>
 ldS w12 b19 (o20 + 3) fun s21 =>
 al w12 3 [.int .i64 a1] fun b22 w23 =>
 ef Pg (Builtin.append_ #[32, 32] 32 #[vS s21, vS ⟨some ⟨b22, 0, none⟩, 1, 1⟩]) [kS] w23 fun (r24 : Sl × Unit) w25 =>
 nn a0 fun b26 o27 =>
 st1 w25 b26 (o27 + 3) (vS r24.1) fun w28 =>
 R [.bool true, .int .i64 0] w28))
theorem tie11 (a0 : Option Addr) (a1 : Int) (R : List Value → World → Prop) (w : World) : compF Pg Try.f11 ⟨[], [], [(3, .l [(0, []), (1, []), (2, []), (3, [])]), (4, .l [(0, []), (1, []), (2, []), (3, []), (4, []), (5, []), (6, []), (7, []), (8, []), (9, [])])], []⟩ [.pointer a0, .int .i64 a1] R w = sh11 a0 a1 R w := by kernel_rfl
theorem call11 {a0 : Option Addr} {a1 : Int} {w : World} {K : TK [kB, kI] → World → Prop} (h : sh11 a0 a1 (fun vs w' => ∃ t, encK [kB, kI] t = vs ∧ K t w') w) : cl Pg 11 [.pointer a0, .int .i64 a1] [kB, kI] w K := cl_of Try.func11 (tie11 ..) h
/-- (*detent/order.Line).Has -/
def sh36 (a0 : Option Addr) (a1 : Int) (R : List Value → World → Prop) (w : World) : Prop :=
 cl Pg 54 [.pointer a0, .int .i64 a1] [kI] w fun (r1 : Int × Unit) w2 =>
 R [.bool (decide ((r1.1 : Int) ≥ (0 : Int)))] w2
theorem tie36 (a0 : Option Addr) (a1 : Int) (R : List Value → World → Prop) (w : World) : compF Pg Try.f36 ⟨[], [], [], []⟩ [.pointer a0, .int .i64 a1] R w = sh36 a0 a1 R w := by kernel_rfl
theorem call36 {a0 : Option Addr} {a1 : Int} {w : World} {K : TK [kB] → World → Prop} (h : sh36 a0 a1 (fun vs w' => ∃ t, encK [kB] t = vs ∧ K t w') w) : cl Pg 36 [.pointer a0, .int .i64 a1] [kB] w K := cl_of Try.func36 (tie36 ..) h
/-- detent/order.may -/
def sh55 (a0 : Int) (R : List Value → World → Prop) (w : World) : Prop :=
 jn [kB] w (fun (t2 : Bool × Unit) w3 =>
 R [.bool t2.1] w3) fun J1 w4 =>
 cs (decide ((a0 : Int) ≥ (1 : Int))) (
 J1 (decide ((a0 : Int) ≤ (16 : Int)), ()) w4) (
 J1 (false, ()) w4)
theorem tie55 (a0 : Int) (R : List Value → World → Prop) (w : World) : compF Pg Try.f55 ⟨[], [], [], [(1, [(3, 3, ⟨[(8, kB)], [6, 7]⟩)])]⟩ [.int .i64 a0] R w = sh55 a0 R w := by kernel_rfl
theorem call55 {a0 : Int} {w : World} {K : TK [kB] → World → Prop} (h : sh55 a0 (fun vs w' => ∃ t, encK [kB] t = vs ∧ K t w') w) : cl Pg 55 [.int .i64 a0] [kB] w K := cl_of Try.func55 (tie55 ..) h
/-- slices.Reverse[[]detent/order.Item,detent/order.Item] -/
def sh69 (a0 : Sl) (R : List Value → World → Prop) (w : World) : Prop :=
 lp [kI, kI] w ((0 : Int), w64 ((a0.len : Int) - 1), ()) fun (t1 : Int × Int × Unit) J2 w3 =>
 cs (decide ((t1.1 : Int) < (t1.2.1 : Int))) (
 dr w3 fun w4 =>
 ix a0 t1.2.1 2 fun b5 o6 =>
 ldI w4 .i64 b5 o6 fun n7 =>
 ldI w4 .i64 b5 (o6 + 1) fun n8 =>
 ix a0 t1.1 2 fun b9 o10 =>
 ldI w4 .i64 b9 o10 fun n11 =>
 ldI w4 .i64 b9 (o10 + 1) fun n12 =>
 ix a0 t1.1 2 fun b13 o14 =>
 st1 w4 b13 o14 (.int .i64 n7) fun w15 =>
 st1 w15 b13 (o14 + 1) (.int .i64 n8) fun w16 =>
 ix a0 t1.2.1 2 fun b17 o18 =>
 st1 w16 b17 o18 (.int .i64 n11) fun w19 =>
 st1 w19 b17 (o18 + 1) (.int .i64 n12) fun w20 =>
 J2 (w64 (t1.1 + 1), w64 (t1.2.1 - 1), ()) w20) (
 R [] w3)
theorem tie69 (a0 : Sl) (R : List Value → World → Prop) (w : World) : compF Pg Try.f69 ⟨[(1, ⟨[(2, kI), (3, kI)], [7, 8, 9, 10, 11, 12, 13, 14, 15, 16, 17, 18, 19, 20, 21, 22, 23, 24, 25, 26, 27]⟩)], [], [(3, .l [(0, []), (1, []), (2, []), (3, []), (4, []), (5, []), (6, []), (7, []), (8, []), (9, []), (10, []), (11, []), (12, []), (13, [12, 7, 0, 1, 4, 5, 6, 11, 10, 8, 9]), (14, []), (15, [14, 11, 13, 0, 1, 2, 3, 4, 5, 6, 7, 8, 9, 10, 12])])], []⟩ [vS a0] R w = sh69 a0 R w := by kernel_rfl
theorem call69 {a0 : Sl} {w : World} {K : TK [] → World → Prop} (h : sh69 a0 (fun vs w' => ∃ t, encK [] t = vs ∧ K t w') w) : cl Pg 69 [vS a0] [] w K := cl_of Try.func69 (tie69 ..) h
/-- slices.rotateLeft[detent/order.Item] -/
def sh68 (a0 : Sl) (a1 : Int) (R : List Value → World → Prop) (w : World) : Prop :=
 sb a0 0 a1 a0.cap 2 fun s1 =>
 cl Pg 69 [vS s1] [] w fun (r2 : Unit) w3 =>
 sb a0 a1 a0.len a0.cap 2 fun s4 =>
 cl Pg 69 [vS s4] [] w3 fun (r5 : Unit) w6 =>
 cl Pg 69 [vS a0] [] w6 fun (r7 : Unit) w8 =>
 R [] w8
theorem tie68 (a0 : Sl) (a1 : Int) (R : List Value → World → Prop) (w : World) : compF Pg Try.f68 ⟨[], [], [], []⟩ [vS a0, .int .i64 a1] R w = sh68 a0 a1 R w := by kernel_rfl
theorem call68 {a0 : Sl} {a1 : Int} {w : World} {K : TK [] → World → Prop} (h : sh68 a0 a1 (fun vs w' => ∃ t, encK [] t = vs ∧ K t w') w) : cl Pg 68 [vS a0, .int .i64 a1] [] w K := cl_of Try.func68 (tie68 ..) h
/-- slices.rotateRight[detent/order.Item] -/
def sh67 (a0 : Sl) (a1 : Int) (R : List Value → World → Prop) (w : World) : Prop :=
 cl Pg 68 [vS a0, .int .i64 (w64 ((a0.len : Int) - a1))] [] w fun (r1 : Unit) w2 =>
 R [] w2
theorem tie67 (a0 : Sl) (a1 : Int) (R : List Value → World → Prop) (w : World) : compF Pg Try.f67 ⟨[], [], [], []⟩ [vS a0, .int .i64 a1] R w = sh67 a0 a1 R w := by kernel_rfl
theorem call67 {a0 : Sl} {a1 : Int} {w : World} {K : TK [] → World → Prop} (h : sh67 a0 a1 (fun vs w' => ∃ t, encK [] t = vs ∧ K t w') w) : cl Pg 67 [vS a0, .int .i64 a1] [] w K := cl_of Try.func67 (tie67 ..) h
/-- slices.Insert[[]detent/order.Item,detent/order.Item] -/
def sh64 (a0 : Sl) (a1 : Int) (a2 : Sl) (R : List Value → World → Prop) (w : World) : Prop :=
 sb a0 a1 a0.len a0.cap 2 fun s1 =>
 cs (((a2.len : Int) : Int) == (0 : Int)) (
 R [vS a0] w) (
 cs ((a1 : Int) == ((a0.len : Int) : Int)) (
 ef Pg (Builtin.append_ #[79, 79] 79 #[vS a0, vS a2]) [kS] w fun (r2 : Sl × Unit) w3 =>
 R [vS r2.1] w3) (
 cs (decide ((w64 ((a0.len : Int) + (a2.len : Int)) : Int) > ((a0.cap : Int) : Int))) (
 sb a0 0 a1 a0.cap 2 fun s4 =>
 ef Pg (Builtin.append_ #[79, 3] 79 #[vS s4, .int .i64 (w64 ((w64 ((a0.len : Int) + (a2.len : Int))) - a1))]) [kS] w fun (r5 : Sl × Unit) w6 =>
 sb r5.1 a1 r5.1.len r5.1.cap 2 fun s7 =>
 ef Pg (Builtin.copy_ #[79, 79] 3 #[vS s7, vS a2]) [kI] w6 fun (r8 : Int × Unit) w9 =>
 dr w9 fun w10 =>
 sb r5.1 (w64 (a1 + (a2.len : Int))) r5.1.len r5.1.cap 2 fun s11 =>
 sb a0 a1 a0.len a0.cap 2 fun s12 =>
 ef Pg (Builtin.copy_ #[79, 79] 3 #[vS s11, vS s12]) [kI] w10 fun (r13 : Int × Unit) w14 =>
 R [vS r5.1] w14) (
 sb a0 0 (w64 ((a0.len : Int) + (a2.len : Int))) a0.cap 2 fun s15 =>
 sb s15 (w64 (a1 + (a2.len : Int))) s15.len s15.cap 2 fun s16 =>
 xt Pg 66 [vS a2, vS s16] [kB] w fun (r17 : Bool × Unit) w18 =>
 cs (!r17.1) (
 dr w18 fun w19 =>
 sb s15 (w64 (a1 + (a2.len : Int))) s15.len s15.cap 2 fun s20 =>
 sb s15 a1 s15.len s15.cap 2 fun s21 =>
 ef Pg (Builtin.copy_ #[79, 79] 3 #[vS s20, vS s21]) [kI] w19 fun (r22 : Int × Unit) w23 =>
 sb s15 a1 s15.len s15.cap 2 fun s24 =>
 ef Pg (Builtin.copy_ #[79, 79] 3 #[vS s24, vS a2]) [kI] w23 fun (r25 : Int × Unit) w26 =>
 R [vS s15] w26) (
 sb s15 (a0.len : Int) s15.len s15.cap 2 fun s27 =>
 ef Pg (Builtin.copy_ #[79, 79] 3 #[vS s27, vS a2]) [kI] w18 fun (r28 : Int × Unit) w29 =>
 sb s15 a1 s15.len s15.cap 2 fun s30 =>
 cl Pg 67 [vS s30, .int .i64 (a2.len : Int)] [] w29 fun (r31 : Unit) w32 =>
 R [vS s15] w32))))
theorem tie64 (a0 : Sl) (a1 : Int) (a2 : Sl) (R : List Value → World → Prop) (w : World) : compF Pg Try.f64 ⟨[], [], [(11, .l [(0, []), (1, []), (2, []), (3, []), (4, []), (5, []), (6, []), (7, []), (8, [4, 7, 0, 3, 5, 6, 1, 2])]), (15, .l [(0, []), (1, []), (2, []), (3, []), (4, []), (5, []), (6, []), (7, []), (8, [4, 7, 0, 3, 5, 6, 1, 2])])], []⟩ [vS a0, .int .i64 a1, vS a2] R w = sh64 a0 a1 a2 R w := by kernel_rfl
theorem call64 {a0 : Sl} {a1 : Int} {a2 : Sl} {w : World} {K : TK [kS] → World → Prop} (h : sh64 a0 a1 a2 (fun vs w' => ∃ t, encK [kS] t = vs ∧ K t w') w) : cl Pg 64 [vS a0, .int .i64 a1, vS a2] [kS] w K := cl_of Try.func64 (tie64 ..) h
/-- (*detent/order.Queue).put -/
def sh56 (a0 : Option Addr) (a1 : (Int × Int × Unit)) (R : List Value → World → Prop) (w : World) : Prop :=
 al w 76 [.int .i64 a1.1, .int .i64 a1.2.1] fun b1 w2 =>
 nn a0 fun b3 o4 =>
 ldS w2 b3 o4 fun s5 =>
 lp [kI] w2 ((s5.len : Int), ()) fun (t6 : Int × Unit) J7 w8 =>
 dr w8 fun w9 =>
 jn [kB] w9 (fun (t11 : Bool × Unit) w12 =>
 cs t11.1 (
 J7 (w64 (t6.1 - 1), ()) w12) (
 dr w12 fun w14 =>
 nn a0 fun b15 o16 =>
 ldS w14 b15 o16 fun s17 =>
 ldI w14 .i64 b1 0 fun n18 =>
 ldI w14 .i64 b1 (0 + 1) fun n19 =>
 al w14 76 [.int .i64 n18, .int .i64 n19] fun b20 w21 =>
(w21.cell? ⟨b15, o16, none⟩ = some (vS s17)) ∧ (
 cl Pg 64 [vS s17, .int .i64 t6.1, vS ⟨some ⟨b20, 0, none⟩, 1, 1⟩] [kS] w21 fun (r22 : Sl × Unit) w23 =>
 nn a0 fun b24 o25 =>
 st1 w23 b24 o25 (vS r22.1) fun w26 =>
 R [] w26))) fun J10 w13 =>
 nn a0 fun b27 o28 =>
 ldB w13 b27 (o28 + 1) fun b29 =>
 cs b29 (
 cs (decide ((t6.1 : Int) > (0 : Int))) (
 nn a0 fun b30 o31 =>
 ldS w13 b30 o31 fun s32 =>
 ix s32 (w64 (t6.1 - 1)) 2 fun b33 o34 =>
 ldI w13 .i64 b33 (o34 + 1) fun n35 =>
 ldI w13 .i64 b1 (0 + 1) fun n36 =>
 J10 (decide ((n35 : Int) > (n36 : Int)), ()) w13) (
 J10 (false, ()) w13)) (
 J10 (false, ()) w13)
theorem tie56 (a0 : Option Addr) (a1 : (Int × Int × Unit)) (R : List Value → World → Prop) (w : World) : compF Pg Try.f56 ⟨[(1, ⟨[(4, kI)], [11, 12, 13, 14, 15, 16, 17, 18, 19, 20, 21, 22, 23, 24, 25, 26, 27, 28, 29, 30, 31, 32, 33, 34, 35]⟩)], [(2, ⟨[(33, kB)], [11, 12, 13, 14, 15, 16, 17, 18, 19, 20, 21, 22, 23, 24, 25, 26, 27, 28, 29, 30, 31, 32]⟩)], [(2, .l [(0, []), (1, []), (2, []), (3, []), (4, []), (5, []), (6, []), (7, []), (8, []), (9, []), (10, []), (11, []), (12, []), (13, []), (14, []), (15, []), (16, []), (17, []), (18, []), (19, []), (20, []), (21, []), (22, [])]), (4, .l [(0, []), (1, []), (2, []), (3, []), (4, []), (5, []), (6, []), (7, []), (8, [7]), (9, [5, 6, 8, 4, 7, 3, 2, 1]), (10, []), (11, []), (12, []), (13, [12, 9, 0, 1, 2, 3, 4, 5, 6, 7, 8, 11, 10])])], []⟩ [.pointer a0, .agg #[.int .i64 a1.1, .int .i64 a1.2.1]] R w = sh56 a0 a1 R w := by kernel_rfl
theorem call56 {a0 : Option Addr} {a1 : (Int × Int × Unit)} {w : World} {K : TK [] → World → Prop} (h : sh56 a0 a1 (fun vs w' => ∃ t, encK [] t = vs ∧ K t w') w) : cl Pg 56 [.pointer a0, .agg #[.int .i64 a1.1, .int .i64 a1.2.1]] [] w K := cl_of Try.func56 (tie56 ..) h
/-- (*detent/order.Queue).Add -/
def sh37 (a0 : Option Addr) (a1 : Int) (a2 : Int) (R : List Value → World → Prop) (w : World) : Prop :=
 jn [kB] w (fun (t2 : Bool × Unit) w3 =>
 jn [kB] w3 (fun (t6 : Bool × Unit) w7 =>
 cs t6.1 (
 R [.int .i64 (-17)] w7) (
 nn a0 fun b9 o10 =>
 cl Pg 36 [.pointer (some ⟨b9, o10, none⟩), .int .i64 a1] [kB] w7 fun (r11 : Bool × Unit) w12 =>
 cs r11.1 (
 R [.int .i64 (-41)] w12) (
 cl Pg 56 [.pointer a0, .agg #[.int .i64 a1, .int .i64 a2]] [] w12 fun (r13 : Unit) w14 =>
 R [.int .i64 0] w14))) fun J5 w8 =>
 cs t2.1 (
 J5 (true, ()) w8) (
 cl Pg 55 [.int .i64 a2] [kB] w8 fun (r15 : Bool × Unit) w16 =>
 J5 (!r15.1, ()) w16)) fun J1 w4 =>
 cs (decide ((a1 : Int) < (1 : Int))) (
 J1 (true, ()) w4) (
 J1 (decide ((a1 : Int) > (16 : Int)), ()) w4)
theorem tie37 (a0 : Option Addr) (a1 : Int) (a2 : Int) (R : List Value → World → Prop) (w : World) : compF Pg Try.f37 ⟨[], [], [], [(1, [(3, 3, ⟨[(13, kB)], [11, 12]⟩), (7, 4, ⟨[(18, kB)], [15, 16, 17]⟩)])]⟩ [.pointer a0, .int .i64 a1, .int .i64 a2] R w = sh37 a0 a1 a2 R w := by kernel_rfl
theorem call37 {a0 : Option Addr} {a1 : Int} {a2 : Int} {w : World} {K : TK [kI] → World → Prop} (h : sh37 a0 a1 a2 (fun vs w' => ∃ t, encK [kI] t = vs ∧ K t w') w) : cl Pg 37 [.pointer a0, .int .i64 a1, .int .i64 a2] [kI] w K := cl_of Try.func37 (tie37 ..) h
/-- (*detent/dtq.Queue).Send -/
def sh12 (a0 : Option Addr) (a1 : Int) (a2 : Int) (a3 : Int) (R : List Value → World → Prop) (w : World) : Prop :=
 cl Pg 11 [.pointer a0, .int .i64 a3] [kB, kI] w fun (r1 : Bool × Int × Unit) w2 =>
 cs r1.1 (
 R [.bool true, .int .i64 r1.2.1, .int .i64 0] w2) (
 nn a0 fun b3 o4 =>
 ldP w2 b3 (o4 + 1) fun p5 =>
 nn p5 fun b6 o7 =>
 cl Pg 36 [.pointer (some ⟨b6, o7, none⟩), .int .i64 a1] [kB] w2 fun (r8 : Bool × Unit) w9 =>
 cs r8.1 (
 R [.bool false, .int .i64 0, .int .i64 (-41)] w9) (
 nn a0 fun b10 o11 =>
 ldP w9 b10 o11 fun p12 =>
 cl Pg 37 [.pointer p12, .int .i64 a1, .int .i64 a2] [kI] w9 fun (r13 : Int × Unit) w14 =>
 cs ((r13.1 : Int) != (0 : Int)) (
 R [.bool false, .int .i64 0, .int .i64 r13.1] w14) (
 nn a0 fun b15 o16 =>
 ldM w14 b15 (o16 + 4) fun m17 =>
 efU Pg (Instr.mapUpdate 72 (.map m17) (.int .i64 a1) (.int .i64 a3)) w14 fun w18 =>
 R [.bool false, .int .i64 0, .int .i64 0] w18)))
theorem tie12 (a0 : Option Addr) (a1 : Int) (a2 : Int) (a3 : Int) (R : List Value → World → Prop) (w : World) : compF Pg Try.f12 ⟨[], [], [], []⟩ [.pointer a0, .int .i64 a1, .int .i64 a2, .int .i64 a3] R w = sh12 a0 a1 a2 a3 R w := by kernel_rfl
theorem call12 {a0 : Option Addr} {a1 : Int} {a2 : Int} {a3 : Int} {w : World} {K : TK [kB, kI, kI] → World → Prop} (h : sh12 a0 a1 a2 a3 (fun vs w' => ∃ t, encK [kB, kI, kI] t = vs ∧ K t w') w) : cl Pg 12 [.pointer a0, .int .i64 a1, .int .i64 a2, .int .i64 a3] [kB, kI, kI] w K := cl_of Try.func12 (tie12 ..) h
/-- (*detent/dtq.Queue).next -/
def sh39 (a0 : Option Addr) (R : List Value → World → Prop) (w : World) : Prop :=
 nn a0 fun b1 o2 =>
 ldP w b1 o2 fun p3 =>
 cl Pg 35 [.pointer p3] [.a [(.i .i64), (.i .i64)], kB] w fun (r4 : (Int × Int × Unit) × Bool × Unit) w5 =>
 al w5 76 [.int .i64 0, .int .i64 0] fun b6 w7 =>
 st1 w7 b6 0 (.int .i64 r4.1.1) fun w8 =>
 st1 w8 b6 (0 + 1) (.int .i64 r4.1.2.1) fun w9 =>
 cs (!r4.2.1) (
 R [.int .i64 0, .int .i64 0, .bool false] w9) (
 dr w9 fun w10 =>
 nn a0 fun b11 o12 =>
 ldM w10 b11 (o12 + 4) fun m13 =>
 ldI w10 .i64 b6 0 fun n14 =>
 ef Pg (Instr.lookup 72 (.map m13) (.int .i64 n14) false) [kI] w10 fun (r15 : Int × Unit) w16 =>
 dr w16 fun w17 =>
 nn a0 fun b18 o19 =>
 ldM w17 b18 (o19 + 4) fun m20 =>
 ldI w17 .i64 b6 0 fun n21 =>
 ef Pg (Builtin.delete_ #[72, 3] 0 #[.map m20, .int .i64 n21]) [] w17 fun (r22 : Unit) w23 =>
 dr w23 fun w24 =>
 ldI w24 .i64 b6 0 fun n25 =>
 R [.int .i64 r15.1, .int .i64 n25, .bool true] w24)
theorem tie39 (a0 : Option Addr) (R : List Value → World → Prop) (w : World) : compF Pg Try.f39 ⟨[], [], [(4, .l [(0, []), (1, []), (2, []), (3, []), (4, []), (5, []), (6, [3, 5, 2, 4, 1, 0]), (7, [])]), (5, .l [(0, []), (1, []), (2, []), (3, []), (4, []), (5, []), (6, [3, 5, 2, 4, 1, 0])]), (6, .l [(0, []), (1, []), (2, []), (3, []), (4, []), (5, [])])], []⟩ [.pointer a0] R w = sh39 a0 R w := by kernel_rfl
theorem call39 {a0 : Option Addr} {w : World} {K : TK [kI, kI, kB] → World → Prop} (h : sh39 a0 (fun vs w' => ∃ t, encK [kI, kI, kB] t = vs ∧ K t w') w) : cl Pg 39 [.pointer a0] [kI, kI, kB] w K := cl_of Try.func39 (tie39 ..) h
/-- slices.Clone[[]int,int] -/
def sh40 (a0 : Sl) (R : List Value → World → Prop) (w : World) : Prop :=
 cs a0.a.isNone (
 R [.slice none 0 0] w) (
 al w 3 [] fun b1 w2 =>
 ef Pg (Builtin.append_ #[32, 32] 32 #[vS ⟨some ⟨b1, 0, none⟩, 0, 0⟩, vS a0]) [kS] w2 fun (r3 : Sl × Unit) w4 =>
 R [vS r3.1] w4)
theorem tie40 (a0 : Sl) (R : List Value → World → Prop) (w : World) : compF Pg Try.f40 ⟨[], [], [], []⟩ [vS a0] R w = sh40 a0 R w := by kernel_rfl
theorem call40 {a0 : Sl} {w : World} {K : TK [kS] → World → Prop} (h : sh40 a0 (fun vs w' => ∃ t, encK [kS] t = vs ∧ K t w') w) : cl Pg 40 [vS a0] [kS] w K := cl_of Try.func40 (tie40 ..) h
/-- (*detent/dtq.Queue).TryRecv -/
def sh14 (a0 : Option Addr) (R : List Value → World → Prop) (w : World) : Prop :=
 al w 34 [.int .i64 0, .bool false, .int .i64 0] fun b1 w2 =>
 nn a0 fun b3 o4 =>
 ldS w2 b3 (o4 + 3) fun s5 =>
 cs (((s5.len : Int) : Int) == (0 : Int)) (
 cl Pg 39 [.pointer a0] [kI, kI, kB] w2 fun (r6 : Int × Int × Bool × Unit) w7 =>
 st1 w7 b1 0 (.int .i64 r6.1) fun w8 =>
 st1 w8 b1 (0 + 1) (.bool r6.2.2.1) fun w9 =>
 st1 w9 b1 (0 + 2) (.int .i64 r6.2.1) fun w10 =>
 ldI w10 .i64 b1 0 fun n11 =>
 ldB w10 b1 (0 + 1) fun b12 =>
 ldI w10 .i64 b1 (0 + 2) fun n13 =>
 R [.agg #[.int .i64 n11, .bool b12, .int .i64 n13]] w10) (
 nn a0 fun b14 o15 =>
 ldS w2 b14 (o15 + 3) fun s16 =>
 ix s16 0 1 fun b17 o18 =>
 ldI w2 .i64 b17 o18 fun n19 =>
 al w2 34 [.int .i64 0, .bool false, .int .i64 0] fun b20 w21 =>
 st1 w21 b20 0 (.int .i64 n19) fun w22 =>
 st1 w22 b20 (0 + 1) (.bool true) fun w23 =>
 st1 w23 b20 (0 + 2) (.int .i64 0) fun w24 =>
 nn a0 fun b25 o26 =>
 ldS w24 b25 (o26 + 3) fun s27 =>
 sb s27 1 s27.len s27.cap 1 fun s28 =>
 cl Pg 40 [vS s28] [kS] w24 fun (r29 : Sl × Unit) w30 =>
 nn a0 fun b31 o32 =>
 st1 w30 b31 (o32 + 3) (vS r29.1) fun w33 =>
 cl Pg 39 [.pointer a0] [kI, kI, kB] w33 fun (r34 : Int × Int × Bool × Unit) w35 =>
 cs r34.2.2.1 (
 nn a0 fun b36 o37 =>
 ldS w35 b36 (o37 + 3) fun s38 =>
 al w35 3 [.int .i64 r34.1] fun b39 w40 =>
 ef Pg (Builtin.append_ #[32, 32] 32 #[vS s38, vS ⟨some ⟨b39, 0, none⟩, 1, 1⟩]) [kS] w40 fun (r41 : Sl × Unit) w42 =>
 nn a0 fun b43 o44 =>
 st1 w42 b43 (o44 + 3) (vS r41.1) fun w45 =>
 st1 w45 b20 (0 + 2) (.int .i64 r34.2.1) fun w46 =>
 ldI w46 .i64 b20 0 fun n47 =>
 ldB w46 b20 (0 + 1) fun b48 =>
 ldI w46 .i64 b20 (0 + 2) fun n49 =>
 st1 w46 b1 0 (.int .i64 n47) fun w50 =>
 st1 w50 b1 (0 + 1) (.bool b48) fun w51 =>
 st1 w51 b1 (0 + 2) (.int .i64 n49) fun w52 =>
 ldI w52 .i64 b1 0 fun n53 =>
 ldB w52 b1 (0 + 1) fun b54 =>
 ldI w52 .i64 b1 (0 + 2) fun n55 =>
 R [.agg #[.int .i64 n53, .bool b54, .int .i64 n55]] w52) (
 ldI w35 .i64 b20 0 fun n56 =>
 ldB w35 b20 (0 + 1) fun b57 =>
 ldI w35 .i64 b20 (0 + 2) fun n58 =>
 st1 w35 b1 0 (.int .i64 n56) fun w59 =>
 st1 w59 b1 (0 + 1) (.bool b57) fun w60 =>
 st1 w60 b1 (0 + 2) (.int .i64 n58) fun w61 =>
 ldI w61 .i64 b1 0 fun n62 =>
 ldB w61 b1 (0 + 1) fun b63 =>
 ldI w61 .i64 b1 (0 + 2) fun n64 =>
 R [.agg #[.int .i64 n62, .bool b63, .int .i64 n64]] w61))
theorem tie14 (a0 : Option Addr) (R : List Value → World → Prop) (w : World) : compF Pg Try.f14 ⟨[], [], [], []⟩ [.pointer a0] R w = sh14 a0 R w := by kernel_rfl
theorem call14 {a0 : Option Addr} {w : World} {K : TK [.a [(.i .i64), .b, (.i .i64)]] → World → Prop} (h : sh14 a0 (fun vs w' => ∃ t, encK [.a [(.i .i64), .b, (.i .i64)]] t = vs ∧ K t w') w) : cl Pg 14 [.pointer a0] [.a [(.i .i64), .b, (.i .i64)]] w K := cl_of Try.func14 (tie14 ..) h
/-- (*detent/dtq.Queue).Recv -/
def sh18 (a0 : Option Addr) (a1 : Int) (a2 : Int) (R : List Value → World → Prop) (w : World) : Prop :=
 al w 34 [.int .i64 0, .bool false, .int .i64 0] fun b1 w2 =>
 cl Pg 14 [.pointer a0] [.a [(.i .i64), .b, (.i .i64)]] w2 fun (r3 : (Int × Bool × Int × Unit) × Unit) w4 =>
 al w4 34 [.int .i64 0, .bool false, .int .i64 0] fun b5 w6 =>
 st1 w6 b5 0 (.int .i64 r3.1.1) fun w7 =>
 st1 w7 b5 (0 + 1) (.bool r3.1.2.1) fun w8 =>
 st1 w8 b5 (0 + 2) (.int .i64 r3.1.2.2.1) fun w9 =>
 ldB w9 b5 (0 + 1) fun b10 =>
 cs b10 (
 ldI w9 .i64 b5 0 fun n11 =>
 ldB w9 b5 (0 + 1) fun b12 =>
 ldI w9 .i64 b5 (0 + 2) fun n13 =>
 st1 w9 b1 0 (.int .i64 n11) fun w14 =>
 st1 w14 b1 (0 + 1) (.bool b12) fun w15 =>
 st1 w15 b1 (0 + 2) (.int .i64 n13) fun w16 =>
 ldI w16 .i64 b1 0 fun n17 =>
 ldB w16 b1 (0 + 1) fun b18 =>
 ldI w16 .i64 b1 (0 + 2) fun n19 =>
 R [.agg #[.int .i64 n17, .bool b18, .int .i64 n19], .int .i64 0] w16) (
 nn a0 fun b20 o21 =>
 ldP w9 b20 (o21 + 1) fun p22 =>
 cl Pg 37 [.pointer p22, .int .i64 a1, .int .i64 a2] [kI] w9 fun (r23 : Int × Unit) w24 =>
 st1 w24 b1 0 (.int .i64 0) fun w25 =>
 st1 w25 b1 (0 + 1) (.bool false) fun w26 =>
 st1 w26 b1 (0 + 2) (.int .i64 0) fun w27 =>
 ldI w27 .i64 b1 0 fun n28 =>
 ldB w27 b1 (0 + 1) fun b29 =>
 ldI w27 .i64 b1 (0 + 2) fun n30 =>
 R [.agg #[.int .i64 n28, .bool b29, .int .i64 n30], .int .i64 r23.1] w27)
theorem tie18 (a0 : Option Addr) (a1 : Int) (a2 : Int) (R : List Value → World → Prop) (w : World) : compF Pg Try.f18 ⟨[], [], [], []⟩ [.pointer a0, .int .i64 a1, .int .i64 a2] R w = sh18 a0 a1 a2 R w := by kernel_rfl
theorem call18 {a0 : Option Addr} {a1 : Int} {a2 : Int} {w : World} {K : TK [.a [(.i .i64), .b, (.i .i64)], kI] → World → Prop} (h : sh18 a0 a1 a2 (fun vs w' => ∃ t, encK [.a [(.i .i64), .b, (.i .i64)], kI] t = vs ∧ K t w') w) : cl Pg 18 [.pointer a0, .int .i64 a1, .int .i64 a2] [.a [(.i .i64), .b, (.i .i64)], kI] w K := cl_of Try.func18 (tie18 ..) h
/-- detent/detentlaw13.known -/
def sh9  (R : List Value → World → Prop) (w : World) : Prop :=
 cl Pg 10 [.bool false, .int .i64 1] [kP, kI] w fun (r1 : Option Addr × Int × Unit) w2 =>
 jn [kB] w2 (fun (t4 : Bool × Unit) w5 =>
 cs t4.1 (
 R [.bool false] w5) (
 cl Pg 12 [.pointer r1.1, .int .i64 1, .int .i64 5, .int .i64 10] [kB, kI, kI] w5 fun (r7 : Bool × Int × Int × Unit) w8 =>
 cl Pg 12 [.pointer r1.1, .int .i64 2, .int .i64 5, .int .i64 20] [kB, kI, kI] w8 fun (r9 : Bool × Int × Int × Unit) w10 =>
 cl Pg 18 [.pointer r1.1, .int .i64 3, .int .i64 5] [.a [(.i .i64), .b, (.i .i64)], kI] w10 fun (r11 : (Int × Bool × Int × Unit) × Int × Unit) w12 =>
 al w12 34 [.int .i64 0, .bool false, .int .i64 0] fun b13 w14 =>
 st1 w14 b13 0 (.int .i64 r11.1.1) fun w15 =>
 st1 w15 b13 (0 + 1) (.bool r11.1.2.1) fun w16 =>
 st1 w16 b13 (0 + 2) (.int .i64 r11.1.2.2.1) fun w17 =>
 cl Pg 14 [.pointer r1.1] [.a [(.i .i64), .b, (.i .i64)]] w17 fun (r18 : (Int × Bool × Int × Unit) × Unit) w19 =>
 al w19 34 [.int .i64 0, .bool false, .int .i64 0] fun b20 w21 =>
 st1 w21 b20 0 (.int .i64 r18.1.1) fun w22 =>
 st1 w22 b20 (0 + 1) (.bool r18.1.2.1) fun w23 =>
 st1 w23 b20 (0 + 2) (.int .i64 r18.1.2.2.1) fun w24 =>
 cl Pg 18 [.pointer r1.1, .int .i64 4, .int .i64 5] [.a [(.i .i64), .b, (.i .i64)], kI] w24 fun (r25 : (Int × Bool × Int × Unit) × Int × Unit) w26 =>
 al w26 34 [.int .i64 0, .bool false, .int .i64 0] fun b27 w28 =>
 st1 w28 b27 0 (.int .i64 r25.1.1) fun w29 =>
 st1 w29 b27 (0 + 1) (.bool r25.1.2.1) fun w30 =>
 st1 w30 b27 (0 + 2) (.int .i64 r25.1.2.2.1) fun w31 =>
 cl Pg 11 [.pointer r1.1, .int .i64 30] [kB, kI] w31 fun (r32 : Bool × Int × Unit) w33 =>
 jn [kB] w33 (fun (t35 : Bool × Unit) w36 =>
 jn [kB] w36 (fun (t39 : Bool × Unit) w40 =>
 jn [kB] w40 (fun (t43 : Bool × Unit) w44 =>
 jn [kB] w44 (fun (t47 : Bool × Unit) w48 =>
 jn [kB] w48 (fun (t51 : Bool × Unit) w52 =>
 jn [kB] w52 (fun (t55 : Bool × Unit) w56 =>
 jn [kB] w56 (fun (t59 : Bool × Unit) w60 =>
 jn [kB] w60 (fun (t63 : Bool × Unit) w65 =>
 jn [kB] w65 (fun (t68 : Bool × Unit) w69 =>
 jn [kB] w69 (fun (t72 : Bool × Unit) w73 =>
 R [.bool t72.1] w73) fun J71 w74 =>
 cs t68.1 (
 J71 ((r32.2.1 : Int) == (4 : Int), ()) w74) (
 J71 (false, ()) w74)) fun J67 w70 =>
 cs t63.1 (
 J67 (r32.1, ()) w70) (
 J67 (false, ()) w70)) fun J62 w66 =>
 cs t59.1 (
 ldB w66 b27 (0 + 1) fun b75 =>
 J62 (!b75, ()) w66) (
 J62 (false, ()) w66)) fun J58 w61 =>
 cs t55.1 (
 ldI w61 .i64 b20 0 fun n76 =>
 J58 ((n76 : Int) == (20 : Int), ()) w61) (
 J58 (false, ()) w61)) fun J54 w57 =>
 cs t51.1 (
 ldB w57 b20 (0 + 1) fun b77 =>
 J54 (b77, ()) w57) (
 J54 (false, ()) w57)) fun J50 w53 =>
 cs t47.1 (
 ldI w53 .i64 b13 (0 + 2) fun n78 =>
 J50 ((n78 : Int) == (2 : Int), ()) w53) (
 J50 (false, ()) w53)) fun J46 w49 =>
 cs t43.1 (
 ldI w49 .i64 b13 0 fun n79 =>
 J46 ((n79 : Int) == (10 : Int), ()) w49) (
 J46 (false, ()) w49)) fun J42 w45 =>
 cs t39.1 (
 ldB w45 b13 (0 + 1) fun b80 =>
 J42 (b80, ()) w45) (
 J42 (false, ()) w45)) fun J38 w41 =>
 cs t35.1 (
 J38 (!r9.1, ()) w41) (
 J38 (false, ()) w41)) fun J34 w37 =>
 cs ((w64 ((w64 ((w64 (r7.2.2.1 + r9.2.2.1)) + r11.2.1)) + r25.2.1) : Int) == (0 : Int)) (
 J34 (r7.1, ()) w37) (
 J34 (false, ()) w37))) fun J3 w6 =>
 cs ((r1.2.1 : Int) != (0 : Int)) (
 J3 (true, ()) w6) (
 J3 (r1.1.isNone, ()) w6)
theorem tie9  (R : List Value → World → Prop) (w : World) : compF Pg Try.f9 ⟨[], [], [], [(2, [(3, 3, ⟨[(25, kB)], [23, 24]⟩)]), (10, [(9, 2, ⟨[(65, kB)], [64]⟩), (12, 3, ⟨[(69, kB)], [67, 68]⟩), (16, 3, ⟨[(73, kB)], [71, 72]⟩), (20, 4, ⟨[(78, kB)], [75, 76, 77]⟩), (25, 4, ⟨[(83, kB)], [80, 81, 82]⟩), (30, 3, ⟨[(87, kB)], [85, 86]⟩), (34, 4, ⟨[(92, kB)], [89, 90, 91]⟩), (39, 4, ⟨[(97, kB)], [94, 95, 96]⟩), (44, 2, ⟨[(100, kB)], [99]⟩), (47, 3, ⟨[(104, kB)], [102, 103]⟩)])]⟩ [] R w = sh9  R w := by kernel_rfl
theorem call9  {w : World} {K : TK [kB] → World → Prop} (h : sh9  (fun vs w' => ∃ t, encK [kB] t = vs ∧ K t w') w) : cl Pg 9 [] [kB] w K := cl_of Try.func9 (tie9 ..) h
/-- (*detent/dtq.Queue).Drop -/
def sh13 (a0 : Option Addr) (a1 : Int) (R : List Value → World → Prop) (w : World) : Prop :=
 nn a0 fun b1 o2 =>
 ldM w b1 (o2 + 4) fun m3 =>
 ef Pg (Builtin.delete_ #[72, 3] 0 #[.map m3, .int .i64 a1]) [] w fun (r4 : Unit) w5 =>
 nn a0 fun b6 o7 =>
 ldP w5 b6 o7 fun p8 =>
 nn p8 fun b9 o10 =>
 cl Pg 38 [.pointer (some ⟨b9, o10, none⟩), .int .i64 a1] [kB] w5 fun (r11 : Bool × Unit) w12 =>
 jn [kB] w12 (fun (t14 : Bool × Unit) w15 =>
 R [.bool t14.1] w15) fun J13 w16 =>
 cs r11.1 (
 J13 (true, ()) w16) (
 nn a0 fun b17 o18 =>
 ldP w16 b17 (o18 + 1) fun p19 =>
 nn p19 fun b20 o21 =>
 cl Pg 38 [.pointer (some ⟨b20, o21, none⟩), .int .i64 a1] [kB] w16 fun (r22 : Bool × Unit) w23 =>
 J13 (r22.1, ()) w23)
theorem tie13 (a0 : Option Addr) (a1 : Int) (R : List Value → World → Prop) (w : World) : compF Pg Try.f13 ⟨[], [], [], [(2, [(10, 10, ⟨[(29, kB)], [20, 21, 22, 23, 24, 25, 26, 27, 28]⟩)])]⟩ [.pointer a0, .int .i64 a1] R w = sh13 a0 a1 R w := by kernel_rfl
theorem call13 {a0 : Option Addr} {a1 : Int} {w : World} {K : TK [kB] → World → Prop} (h : sh13 a0 a1 (fun vs w' => ∃ t, encK [kB] t = vs ∧ K t w') w) : cl Pg 13 [.pointer a0, .int .i64 a1] [kB] w K := cl_of Try.func13 (tie13 ..) h
/-- detent/detentlaw3.Same -/
def sh15 (a0 : Sl) (a1 : Sl) (R : List Value → World → Prop) (w : World) : Prop :=
 cs (((a0.len : Int) : Int) != ((a1.len : Int) : Int)) (
 R [.bool false] w) (
 lp [kI] w ((0 : Int), ()) fun (t1 : Int × Unit) J2 w3 =>
 cs (decide ((t1.1 : Int) < ((a0.len : Int) : Int))) (
 dr w3 fun w4 =>
 ix a0 t1.1 1 fun b5 o6 =>
 ldI w4 .i64 b5 o6 fun n7 =>
 ix a1 t1.1 1 fun b8 o9 =>
 ldI w4 .i64 b8 o9 fun n10 =>
 cs ((n7 : Int) != (n10 : Int)) (
 R [.bool false] w4) (
 J2 (w64 (t1.1 + 1), ()) w4)) (
 R [.bool true] w3))
theorem tie15 (a0 : Sl) (a1 : Sl) (R : List Value → World → Prop) (w : World) : compF Pg Try.f15 ⟨[(2, ⟨[(5, kI)], [4, 11, 12, 13, 14, 15, 16, 17, 18, 19, 20, 21, 22, 23, 24, 25]⟩)], [], [(6, .l [(0, []), (1, []), (2, []), (3, []), (4, []), (5, []), (6, []), (7, []), (8, [])])], []⟩ [vS a0, vS a1] R w = sh15 a0 a1 R w := by kernel_rfl
theorem call15 {a0 : Sl} {a1 : Sl} {w : World} {K : TK [kB] → World → Prop} (h : sh15 a0 a1 (fun vs w' => ∃ t, encK [kB] t = vs ∧ K t w') w) : cl Pg 15 [vS a0, vS a1] [kB] w K := cl_of Try.func15 (tie15 ..) h
/-- detent/detentlaw13.DataDrops -/
def sh3 (a0 : Int) (a1 : Int) (a2 : Int) (R : List Value → World → Prop) (w : World) : Prop :=
 cl Pg 9 [] [kB] w fun (r1 : Bool × Unit) w2 =>
 cs (!r1.1) (
 R [.bool false] w2) (
 jn [kB] w2 (fun (t4 : Bool × Unit) w5 =>
 jn [kB] w5 (fun (t8 : Bool × Unit) w9 =>
 jn [kB] w9 (fun (t12 : Bool × Unit) w13 =>
 cs t12.1 (
 R [.bool true] w13) (
 cl Pg 10 [.bool false, .int .i64 (w64 (Int.tmod a0 5))] [kP, kI] w13 fun (r15 : Option Addr × Int × Unit) w16 =>
 lp [kI] w16 ((0 : Int), ()) fun (t17 : Int × Unit) J18 w19 =>
 cs (decide ((t17.1 : Int) < (w64 (Int.tmod a0 5) : Int))) (
 cl Pg 11 [.pointer r15.1, .int .i64 (w64 (100 + t17.1))] [kB, kI] w19 fun (r20 : Bool × Int × Unit) w21 =>
 J18 (w64 (t17.1 + 1), ()) w21) (
 lp [kI] w19 ((1 : Int), ()) fun (t22 : Int × Unit) J23 w24 =>
 cs (decide ((t22.1 : Int) ≤ (a1 : Int))) (
 cl Pg 12 [.pointer r15.1, .int .i64 t22.1, .int .i64 1, .int .i64 t22.1] [kB, kI, kI] w24 fun (r25 : Bool × Int × Int × Unit) w26 =>
 J23 (w64 (t22.1 + 1), ()) w26) (
 cl Pg 13 [.pointer r15.1, .int .i64 a2] [kB] w24 fun (r27 : Bool × Unit) w28 =>
 jn [kB] w28 (fun (t30 : Bool × Unit) w31 =>
 cs t30.1 (
 R [.bool false] w31) (
 lp [kS, kI] w31 (⟨none, 0, 0⟩, (0 : Int), ()) fun (t33 : Sl × Int × Unit) J34 w35 =>
 cs (decide ((t33.2.1 : Int) < (w64 (Int.tmod a0 5) : Int))) (
 al w35 3 [.int .i64 (w64 (100 + t33.2.1))] fun b36 w37 =>
 ef Pg (Builtin.append_ #[32, 32] 32 #[vS t33.1, vS ⟨some ⟨b36, 0, none⟩, 1, 1⟩]) [kS] w37 fun (r38 : Sl × Unit) w39 =>
 J34 (r38.1, w64 (t33.2.1 + 1), ()) w39) (
 lp [kS, kI] w35 (t33.1, (1 : Int), ()) fun (t40 : Sl × Int × Unit) J41 w42 =>
 cs (decide ((t40.2.1 : Int) ≤ (a1 : Int))) (
 cs ((t40.2.1 : Int) != (a2 : Int)) (
 al w42 3 [.int .i64 t40.2.1] fun b43 w44 =>
 ef Pg (Builtin.append_ #[32, 32] 32 #[vS t40.1, vS ⟨some ⟨b43, 0, none⟩, 1, 1⟩]) [kS] w44 fun (r45 : Sl × Unit) w46 =>
 J41 (r45.1, w64 (t40.2.1 + 1), ()) w46) (
 J41 (t40.1, w64 (t40.2.1 + 1), ()) w42)) (
 lp [kS, kI] w42 (⟨none, 0, 0⟩, (0 : Int), ()) fun (t47 : Sl × Int × Unit) J48 w49 =>
 cs (decide ((t47.2.1 : Int) < (30 : Int))) (
 cl Pg 14 [.pointer r15.1] [.a [(.i .i64), .b, (.i .i64)]] w49 fun (r50 : (Int × Bool × Int × Unit) × Unit) w51 =>
 al w51 34 [.int .i64 0, .bool false, .int .i64 0] fun b52 w53 =>
 st1 w53 b52 0 (.int .i64 r50.1.1) fun w54 =>
 st1 w54 b52 (0 + 1) (.bool r50.1.2.1) fun w55 =>
 st1 w55 b52 (0 + 2) (.int .i64 r50.1.2.2.1) fun w56 =>
 ldI w56 .i64 b52 (0 + 2) fun n57 =>
 cs ((n57 : Int) == (a2 : Int)) (
 R [.bool false] w56) (
 ldB w56 b52 (0 + 1) fun b58 =>
 cs b58 (
 ldI w56 .i64 b52 0 fun n59 =>
 al w56 3 [.int .i64 n59] fun b60 w61 =>
 ef Pg (Builtin.append_ #[32, 32] 32 #[vS t47.1, vS ⟨some ⟨b60, 0, none⟩, 1, 1⟩]) [kS] w61 fun (r62 : Sl × Unit) w63 =>
 J48 (r62.1, w64 (t47.2.1 + 1), ()) w63) (
 J48 (t47.1, w64 (t47.2.1 + 1), ()) w56))) (
 cl Pg 15 [vS t47.1, vS t40.1] [kB] w49 fun (r64 : Bool × Unit) w65 =>
 R [.bool r64.1] w65))))) fun J29 w32 =>
 cs (!r27.1) (
 J29 (true, ()) w32) (
 cl Pg 13 [.pointer r15.1, .int .i64 a2] [kB] w32 fun (r66 : Bool × Unit) w67 =>
 J29 (r66.1, ()) w67))))) fun J11 w14 =>
 cs t8.1 (
 J11 (true, ()) w14) (
 J11 (decide ((a2 : Int) > (a1 : Int)), ()) w14)) fun J7 w10 =>
 cs t4.1 (
 J7 (true, ()) w10) (
 J7 (decide ((a2 : Int) < (1 : Int)), ()) w10)) fun J3 w6 =>
 cs (decide ((a1 : Int) < (1 : Int))) (
 J3 (true, ()) w6) (
 J3 (decide ((a1 : Int) > (10 : Int)), ()) w6))
theorem tie3 (a0 : Int) (a1 : Int) (a2 : Int) (R : List Value → World → Prop) (w : World) : compF Pg Try.f3 ⟨[(3, ⟨[(10, kI)], [43, 44, 45, 46, 47, 48, 49, 50, 51]⟩), (7, ⟨[(11, kI)], [52, 53, 54, 55, 56, 57, 58, 59, 60]⟩), (12, ⟨[(12, kS), (13, kI)], [70, 71, 72, 73, 74, 75, 76, 77, 78, 79]⟩), (16, ⟨[(12, kS), (14, kI)], [80, 81, 82, 83, 84, 85, 86, 87, 88, 89, 90, 91]⟩), (21, ⟨[(15, kS), (16, kI)], [6, 17, 92, 93, 94, 95, 96, 97, 98, 99, 100, 101, 102, 103, 104, 105, 106, 107, 108]⟩)], [], [], [(4, [(3, 3, ⟨[(28, kB)], [26, 27]⟩), (7, 3, ⟨[(32, kB)], [30, 31]⟩), (11, 4, ⟨[(37, kB)], [34, 35, 36]⟩)]), (15, [(5, 4, ⟨[(69, kB)], [66, 67, 68]⟩)])]⟩ [.int .u8 a0, .int .i64 a1, .int .i64 a2] R w = sh3 a0 a1 a2 R w := by kernel_rfl
theorem call3 {a0 : Int} {a1 : Int} {a2 : Int} {w : World} {K : TK [kB] → World → Prop} (h : sh3 a0 a1 a2 (fun vs w' => ∃ t, encK [kB] t = vs ∧ K t w') w) : cl Pg 3 [.int .u8 a0, .int .i64 a1, .int .i64 a2] [kB] w K := cl_of Try.func3 (tie3 ..) h
/-- slices.Clip[[]int,int] -/
def sh41 (a0 : Sl) (R : List Value → World → Prop) (w : World) : Prop :=
 sb a0 0 (a0.len : Int) (a0.len : Int) 1 fun s1 =>
 R [vS s1] w
theorem tie41 (a0 : Sl) (R : List Value → World → Prop) (w : World) : compF Pg Try.f41 ⟨[], [], [], []⟩ [vS a0] R w = sh41 a0 R w := by kernel_rfl
theorem call41 {a0 : Sl} {w : World} {K : TK [kS] → World → Prop} (h : sh41 a0 (fun vs w' => ∃ t, encK [kS] t = vs ∧ K t w') w) : cl Pg 41 [vS a0] [kS] w K := cl_of Try.func41 (tie41 ..) h
/-- (*detent/dtq.Queue).Data -/
def sh16 (a0 : Option Addr) (R : List Value → World → Prop) (w : World) : Prop :=
 nn a0 fun b1 o2 =>
 ldS w b1 (o2 + 3) fun s3 =>
 cl Pg 40 [vS s3] [kS] w fun (r4 : Sl × Unit) w5 =>
 cl Pg 41 [vS r4.1] [kS] w5 fun (r6 : Sl × Unit) w7 =>
 R [vS r6.1] w7
theorem tie16 (a0 : Option Addr) (R : List Value → World → Prop) (w : World) : compF Pg Try.f16 ⟨[], [], [], []⟩ [.pointer a0] R w = sh16 a0 R w := by kernel_rfl
theorem call16 {a0 : Option Addr} {w : World} {K : TK [kS] → World → Prop} (h : sh16 a0 (fun vs w' => ∃ t, encK [kS] t = vs ∧ K t w') w) : cl Pg 16 [.pointer a0] [kS] w K := cl_of Try.func16 (tie16 ..) h
/-- detent/detentlaw13.DataFull -/
def sh4 (a0 : Int) (R : List Value → World → Prop) (w : World) : Prop :=
 cl Pg 9 [] [kB] w fun (r1 : Bool × Unit) w2 =>
 cs (!r1.1) (
 R [.bool false] w2) (
 cl Pg 10 [.bool true, .int .i64 a0] [kP, kI] w2 fun (r3 : Option Addr × Int × Unit) w4 =>
 jn [kB] w4 (fun (t6 : Bool × Unit) w7 =>
 cs t6.1 (
 jn [kB] w7 (fun (t10 : Bool × Unit) w11 =>
 R [.bool t10.1] w11) fun J9 w12 =>
 cs ((r3.2.1 : Int) == ((-17) : Int)) (
 J9 (r3.1.isNone, ()) w12) (
 J9 (false, ()) w12)) (
 lp [kI] w7 ((0 : Int), ()) fun (t13 : Int × Unit) J14 w15 =>
 cs (decide ((t13.1 : Int) < (a0 : Int))) (
 cl Pg 11 [.pointer r3.1, .int .i64 t13.1] [kB, kI] w15 fun (r16 : Bool × Int × Unit) w17 =>
 jn [kB] w17 (fun (t19 : Bool × Unit) w20 =>
 cs t19.1 (
 R [.bool false] w20) (
 J14 (w64 (t13.1 + 1), ()) w20)) fun J18 w21 =>
 cs (!r16.1) (
 J18 (true, ()) w21) (
 J18 ((r16.2.1 : Int) != (0 : Int), ()) w21)) (
 cl Pg 11 [.pointer r3.1, .int .i64 99] [kB, kI] w15 fun (r22 : Bool × Int × Unit) w23 =>
 jn [kB] w23 (fun (t25 : Bool × Unit) w26 =>
 jn [kB] w26 (fun (t29 : Bool × Unit) w30 =>
 jn [kB] w30 (fun (t33 : Bool × Unit) w34 =>
 R [.bool t33.1] w34) fun J32 w35 =>
 cs t29.1 (
 cl Pg 16 [.pointer r3.1] [kS] w35 fun (r36 : Sl × Unit) w37 =>
 J32 (((r36.1.len : Int) : Int) == (a0 : Int), ()) w37) (
 J32 (false, ()) w35)) fun J28 w31 =>
 cs t25.1 (
 J28 ((r22.2.1 : Int) == (0 : Int), ()) w31) (
 J28 (false, ()) w31)) fun J24 w27 =>
 cs ((r3.2.1 : Int) == (0 : Int)) (
 J24 (!r22.1, ()) w27) (
 J24 (false, ()) w27)))) fun J5 w8 =>
 cs (decide ((a0 : Int) < (0 : Int))) (
 J5 (true, ()) w8) (
 J5 (decide ((a0 : Int) > (64 : Int)), ()) w8))
theorem tie4 (a0 : Int) (R : List Value → World → Prop) (w : World) : compF Pg Try.f4 ⟨[(3, ⟨[(5, kI)], [2, 6, 7, 29, 30, 31, 32, 33, 34, 35, 36, 37, 38, 39, 40, 41, 42, 43, 44, 45]⟩)], [], [], [(4, [(3, 3, ⟨[(22, kB)], [20, 21]⟩)]), (5, [(3, 3, ⟨[(28, kB)], [26, 27]⟩)]), (10, [(3, 3, ⟨[(45, kB)], [43, 44]⟩)]), (13, [(3, 3, ⟨[(56, kB)], [54, 55]⟩), (7, 3, ⟨[(60, kB)], [58, 59]⟩), (11, 6, ⟨[(67, kB)], [62, 63, 64, 65, 66]⟩)])]⟩ [.int .i64 a0] R w = sh4 a0 R w := by kernel_rfl
theorem call4 {a0 : Int} {w : World} {K : TK [kB] → World → Prop} (h : sh4 a0 (fun vs w' => ∃ t, encK [kB] t = vs ∧ K t w') w) : cl Pg 4 [.int .i64 a0] [kB] w K := cl_of Try.func4 (tie4 ..) h
/-- slices.Clone[[]detent/order.Item,detent/order.Item] -/
def sh60 (a0 : Sl) (R : List Value → World → Prop) (w : World) : Prop :=
 cs a0.a.isNone (
 R [.slice none 0 0] w) (
 al w 76 [] fun b1 w2 =>
 ef Pg (Builtin.append_ #[79, 79] 79 #[vS ⟨some ⟨b1, 0, none⟩, 0, 0⟩, vS a0]) [kS] w2 fun (r3 : Sl × Unit) w4 =>
 R [vS r3.1] w4)
theorem tie60 (a0 : Sl) (R : List Value → World → Prop) (w : World) : compF Pg Try.f60 ⟨[], [], [], []⟩ [vS a0] R w = sh60 a0 R w := by kernel_rfl
theorem call60 {a0 : Sl} {w : World} {K : TK [kS] → World → Prop} (h : sh60 a0 (fun vs w' => ∃ t, encK [kS] t = vs ∧ K t w') w) : cl Pg 60 [vS a0] [kS] w K := cl_of Try.func60 (tie60 ..) h
/-- slices.Clip[[]detent/order.Item,detent/order.Item] -/
def sh65 (a0 : Sl) (R : List Value → World → Prop) (w : World) : Prop :=
 sb a0 0 (a0.len : Int) (a0.len : Int) 2 fun s1 =>
 R [vS s1] w
theorem tie65 (a0 : Sl) (R : List Value → World → Prop) (w : World) : compF Pg Try.f65 ⟨[], [], [], []⟩ [vS a0] R w = sh65 a0 R w := by kernel_rfl
theorem call65 {a0 : Sl} {w : World} {K : TK [kS] → World → Prop} (h : sh65 a0 (fun vs w' => ∃ t, encK [kS] t = vs ∧ K t w') w) : cl Pg 65 [vS a0] [kS] w K := cl_of Try.func65 (tie65 ..) h
/-- (*detent/order.Line).Row -/
def sh58 (a0 : Option Addr) (R : List Value → World → Prop) (w : World) : Prop :=
 nn a0 fun b1 o2 =>
 ldS w b1 o2 fun s3 =>
 cl Pg 60 [vS s3] [kS] w fun (r4 : Sl × Unit) w5 =>
 cl Pg 65 [vS r4.1] [kS] w5 fun (r6 : Sl × Unit) w7 =>
 R [vS r6.1] w7
theorem tie58 (a0 : Option Addr) (R : List Value → World → Prop) (w : World) : compF Pg Try.f58 ⟨[], [], [], []⟩ [.pointer a0] R w = sh58 a0 R w := by kernel_rfl
theorem call58 {a0 : Option Addr} {w : World} {K : TK [kS] → World → Prop} (h : sh58 a0 (fun vs w' => ∃ t, encK [kS] t = vs ∧ K t w') w) : cl Pg 58 [.pointer a0] [kS] w K := cl_of Try.func58 (tie58 ..) h
/-- detent/dtq.ids -/
def sh42 (a0 : Option Addr) (R : List Value → World → Prop) (w : World) : Prop :=
 nn a0 fun b1 o2 =>
 cl Pg 58 [.pointer (some ⟨b1, o2, none⟩)] [kS] w fun (r3 : Sl × Unit) w4 =>
 lp [kS, kI] w4 (⟨none, 0, 0⟩, (0 : Int), ()) fun (t5 : Sl × Int × Unit) J6 w7 =>
 cs (decide ((t5.2.1 : Int) < ((r3.1.len : Int) : Int))) (
 ix r3.1 t5.2.1 2 fun b8 o9 =>
 ldI w7 .i64 b8 o9 fun n10 =>
 ldI w7 .i64 b8 (o9 + 1) fun n11 =>
 al w7 76 [.int .i64 0, .int .i64 0] fun b12 w13 =>
 st1 w13 b12 0 (.int .i64 n10) fun w14 =>
 st1 w14 b12 (0 + 1) (.int .i64 n11) fun w15 =>
 ldI w15 .i64 b12 0 fun n16 =>
 al w15 3 [.int .i64 n16] fun b17 w18 =>
 ef Pg (Builtin.append_ #[32, 32] 32 #[vS t5.1, vS ⟨some ⟨b17, 0, none⟩, 1, 1⟩]) [kS] w18 fun (r19 : Sl × Unit) w20 =>
 J6 (r19.1, w64 (t5.2.1 + 1), ()) w20) (
 cl Pg 41 [vS t5.1] [kS] w7 fun (r21 : Sl × Unit) w22 =>
 R [vS r21.1] w22)
theorem tie42 (a0 : Option Addr) (R : List Value → World → Prop) (w : World) : compF Pg Try.f42 ⟨[(1, ⟨[(3, kS), (11, kI)], [5, 12, 13, 14, 15, 16, 17, 18, 19, 20]⟩)], [], [], []⟩ [.pointer a0] R w = sh42 a0 R w := by kernel_rfl
theorem call42 {a0 : Option Addr} {w : World} {K : TK [kS] → World → Prop} (h : sh42 a0 (fun vs w' => ∃ t, encK [kS] t = vs ∧ K t w') w) : cl Pg 42 [.pointer a0] [kS] w K := cl_of Try.func42 (tie42 ..) h
/-- (*detent/dtq.Queue).Senders -/
def sh19 (a0 : Option Addr) (R : List Value → World → Prop) (w : World) : Prop :=
 nn a0 fun b1 o2 =>
 ldP w b1 o2 fun p3 =>
 cl Pg 42 [.pointer p3] [kS] w fun (r4 : Sl × Unit) w5 =>
 R [vS r4.1] w5
theorem tie19 (a0 : Option Addr) (R : List Value → World → Prop) (w : World) : compF Pg Try.f19 ⟨[], [], [], []⟩ [.pointer a0] R w = sh19 a0 R w := by kernel_rfl
theorem call19 {a0 : Option Addr} {w : World} {K : TK [kS] → World → Prop} (h : sh19 a0 (fun vs w' => ∃ t, encK [kS] t = vs ∧ K t w') w) : cl Pg 19 [.pointer a0] [kS] w K := cl_of Try.func19 (tie19 ..) h
/-- detent/detentlaw13.free -/
def sh17 (a0 : Option Addr) (R : List Value → World → Prop) (w : World) : Prop :=
 cl Pg 19 [.pointer a0] [kS] w fun (r1 : Sl × Unit) w2 =>
 lp [kI] w2 ((1 : Int), ()) fun (t3 : Int × Unit) J4 w5 =>
 cs (decide ((t3.1 : Int) ≤ (16 : Int))) (
 lp [kB, kI] w5 (false, (0 : Int), ()) fun (t6 : Bool × Int × Unit) J7 w8 =>
 cs (decide ((t6.2.1 : Int) < ((r1.1.len : Int) : Int))) (
 jn [kB] w8 (fun (t10 : Bool × Unit) w11 =>
 J7 (t10.1, w64 (t6.2.1 + 1), ()) w11) fun J9 w12 =>
 cs t6.1 (
 J9 (true, ()) w12) (
 ix r1.1 t6.2.1 1 fun b13 o14 =>
 ldI w12 .i64 b13 o14 fun n15 =>
 J9 ((n15 : Int) == (t3.1 : Int), ()) w12)) (
 cs (!t6.1) (
 R [.int .i64 t3.1] w8) (
 J4 (w64 (t3.1 + 1), ()) w8))) (
 R [.int .i64 1] w5)
theorem tie17 (a0 : Option Addr) (R : List Value → World → Prop) (w : World) : compF Pg Try.f17 ⟨[(1, ⟨[(4, kI)], [2, 5, 6, 9, 10, 11, 12, 13, 14, 15, 16, 17, 18, 19, 20, 21, 22, 23, 24, 25, 26, 27, 28, 29, 30]⟩), (5, ⟨[(5, kB), (6, kI)], [13, 14, 15, 16, 17, 18, 19, 20, 21, 22, 23, 24, 25, 26, 27]⟩)], [], [], [(9, [(2, 7, ⟨[(27, kB)], [21, 22, 23, 24, 25, 26]⟩)])]⟩ [.pointer a0] R w = sh17 a0 R w := by kernel_rfl
theorem call17 {a0 : Option Addr} {w : World} {K : TK [kI] → World → Prop} (h : sh17 a0 (fun vs w' => ∃ t, encK [kI] t = vs ∧ K t w') w) : cl Pg 17 [.pointer a0] [kI] w K := cl_of Try.func17 (tie17 ..) h
/-- detent/detentlaw13.DataOrder -/
def sh5 (a0 : Int) (a1 : Sl) (a2 : Sl) (R : List Value → World → Prop) (w : World) : Prop :=
 cl Pg 9 [] [kB] w fun (r1 : Bool × Unit) w2 =>
 cs (!r1.1) (
 R [.bool false] w2) (
 jn [kB] w2 (fun (t4 : Bool × Unit) w5 =>
 cs t4.1 (
 R [.bool true] w5) (
 cl Pg 10 [.bool false, .int .i64 (w64 (Int.tmod a0 65))] [kP, kI] w5 fun (r7 : Option Addr × Int × Unit) w8 =>
 lp [kI, kI, kS, kI] w8 ((0 : Int), (0 : Int), ⟨none, 0, 0⟩, (0 : Int), ()) fun (t9 : Int × Int × Sl × Int × Unit) J10 w11 =>
 cs (decide ((t9.2.2.2.1 : Int) < ((a2.len : Int) : Int))) (
 ix a2 t9.2.2.2.1 1 fun b12 o13 =>
 ldB w11 b12 o13 fun b14 =>
 jn [kB] w11 (fun (t16 : Bool × Unit) w17 =>
 jn [kB] w17 (fun (t20 : Bool × Unit) w21 =>
 cs t20.1 (
 dr w21 fun w23 =>
 ix a1 t9.1 1 fun b24 o25 =>
 ldI w23 .i64 b24 o25 fun n26 =>
 cl Pg 17 [.pointer r7.1] [kI] w23 fun (r27 : Int × Unit) w28 =>
(w28.cell? ⟨b24, o25, none⟩ = some (.int .i64 n26)) ∧ (
 cl Pg 12 [.pointer r7.1, .int .i64 r27.1, .int .i64 1, .int .i64 n26] [kB, kI, kI] w28 fun (r29 : Bool × Int × Int × Unit) w30 =>
 jn [kB] w30 (fun (t32 : Bool × Unit) w33 =>
 cs t32.1 (
 R [.bool false] w33) (
 jn [kI] w33 (fun (t36 : Int × Unit) w37 =>
 J10 (w64 (t9.1 + 1), t36.1, t9.2.2.1, w64 (t9.2.2.2.1 + 1), ()) w37) fun J35 w38 =>
 cs (!r29.1) (
 J35 (w64 (t9.2.1 + 1), ()) w38) (
 J35 (t9.2.1, ()) w38))) fun J31 w34 =>
 cs ((r29.2.2.1 : Int) != (0 : Int)) (
 J31 (true, ()) w34) (
 J31 ((r29.2.1 : Int) != (0 : Int), ()) w34))) (
 cl Pg 14 [.pointer r7.1] [.a [(.i .i64), .b, (.i .i64)]] w21 fun (r39 : (Int × Bool × Int × Unit) × Unit) w40 =>
 al w40 34 [.int .i64 0, .bool false, .int .i64 0] fun b41 w42 =>
 st1 w42 b41 0 (.int .i64 r39.1.1) fun w43 =>
 st1 w43 b41 (0 + 1) (.bool r39.1.2.1) fun w44 =>
 st1 w44 b41 (0 + 2) (.int .i64 r39.1.2.2.1) fun w45 =>
 ldB w45 b41 (0 + 1) fun b46 =>
 jn [kS] w45 (fun (t48 : Sl × Unit) w49 =>
 ldI w49 .i64 b41 (0 + 2) fun n51 =>
 cs ((n51 : Int) != (0 : Int)) (
 J10 (t9.1, w64 (t9.2.1 - 1), t48.1, w64 (t9.2.2.2.1 + 1), ()) w49) (
 J10 (t9.1, t9.2.1, t48.1, w64 (t9.2.2.2.1 + 1), ()) w49)) fun J47 w50 =>
 cs b46 (
 ldI w50 .i64 b41 0 fun n52 =>
 al w50 3 [.int .i64 n52] fun b53 w54 =>
 ef Pg (Builtin.append_ #[32, 32] 32 #[vS t9.2.2.1, vS ⟨some ⟨b53, 0, none⟩, 1, 1⟩]) [kS] w54 fun (r55 : Sl × Unit) w56 =>
 J47 (r55.1, ()) w56) (
 J47 (t9.2.2.1, ()) w50))) fun J19 w22 =>
 cs t16.1 (
 J19 (decide ((t9.2.1 : Int) < (16 : Int)), ()) w22) (
 J19 (false, ()) w22)) fun J15 w18 =>
 cs b14 (
 J15 (decide ((t9.1 : Int) < ((a1.len : Int) : Int)), ()) w18) (
 J15 (false, ()) w18)) (
 jn [kS] w11 (fun (t58 : Sl × Unit) w59 =>
 sb a1 0 t9.1 a1.cap 1 fun s61 =>
 cl Pg 15 [vS t58.1, vS s61] [kB] w59 fun (r62 : Bool × Unit) w63 =>
 R [.bool r62.1] w63) fun J57 w60 =>
 lp [kS, kI] w60 (t9.2.2.1, (0 : Int), ()) fun (t64 : Sl × Int × Unit) J65 w66 =>
 cs (decide ((t64.2.1 : Int) < (200 : Int))) (
 cl Pg 14 [.pointer r7.1] [.a [(.i .i64), .b, (.i .i64)]] w66 fun (r67 : (Int × Bool × Int × Unit) × Unit) w68 =>
 al w68 34 [.int .i64 0, .bool false, .int .i64 0] fun b69 w70 =>
 st1 w70 b69 0 (.int .i64 r67.1.1) fun w71 =>
 st1 w71 b69 (0 + 1) (.bool r67.1.2.1) fun w72 =>
 st1 w72 b69 (0 + 2) (.int .i64 r67.1.2.2.1) fun w73 =>
 ldB w73 b69 (0 + 1) fun b74 =>
 cs (!b74) (
 J57 (t64.1, ()) w73) (
 ldI w73 .i64 b69 0 fun n75 =>
 al w73 3 [.int .i64 n75] fun b76 w77 =>
 ef Pg (Builtin.append_ #[32, 32] 32 #[vS t64.1, vS ⟨some ⟨b76, 0, none⟩, 1, 1⟩]) [kS] w77 fun (r78 : Sl × Unit) w79 =>
 J65 (r78.1, w64 (t64.2.1 + 1), ()) w79)) (
 J57 (t64.1, ()) w66)))) fun J3 w6 =>
 cs (decide (((a1.len : Int) : Int) > (100 : Int))) (
 J3 (true, ()) w6) (
 J3 (decide (((a2.len : Int) : Int) > (300 : Int)), ()) w6))
theorem tie5 (a0 : Int) (a1 : Sl) (a2 : Sl) (R : List Value → World → Prop) (w : World) : compF Pg Try.f5 ⟨[(3, ⟨[(9, kI), (10, kI), (11, kS), (12, kI)], [6, 13, 14, 15, 16, 36, 37, 38, 39, 40, 41, 42, 43, 44, 45, 46, 47, 48, 49, 50, 51, 52, 53, 54, 55, 56, 57, 58, 59, 60, 61, 62, 63, 64, 65, 66, 67, 68, 69, 70, 71, 72, 73, 74, 75, 76, 77, 78, 79, 80, 81, 82, 83, 84, 85, 86, 87, 88, 89, 90, 91, 92, 93]⟩), (8, ⟨[(10, kI)], [78, 79]⟩), (9, ⟨[(11, kS)], [84, 85, 86, 87, 88]⟩), (11, ⟨[(11, kS)], [17, 18, 94, 95, 96, 97, 98, 99, 100, 101, 102, 103, 104, 105, 106, 107]⟩), (12, ⟨[(11, kS), (17, kI)], [18, 94, 95, 96, 97, 98, 99, 100, 101, 102, 103, 104, 105, 106, 107]⟩)], [], [(13, .l [(0, []), (1, []), (3, []), (4, []), (5, []), (6, []), (2, [1]), (7, [0, 2, 6, 1, 5, 3, 4]), (8, []), (9, []), (10, []), (11, []), (12, []), (13, []), (14, [])])], [(3, [(4, 4, ⟨[(28, kB)], [25, 26, 27]⟩)]), (12, [(5, 5, ⟨[(51, kB)], [47, 48, 49, 50]⟩), (11, 3, ⟨[(55, kB)], [53, 54]⟩)]), (14, [(3, 3, ⟨[(73, kB)], [71, 72]⟩)])]⟩ [.int .u8 a0, vS a1, vS a2] R w = sh5 a0 a1 a2 R w := by kernel_rfl
theorem call5 {a0 : Int} {a1 : Sl} {a2 : Sl} {w : World} {K : TK [kB] → World → Prop} (h : sh5 a0 a1 a2 (fun vs w' => ∃ t, encK [kB] t = vs ∧ K t w') w) : cl Pg 5 [.int .u8 a0, vS a1, vS a2] [kB] w K := cl_of Try.func5 (tie5 ..) h
/-- (*detent/dtq.Queue).Receivers -/
def sh20 (a0 : Option Addr) (R : List Value → World → Prop) (w : World) : Prop :=
 nn a0 fun b1 o2 =>
 ldP w b1 (o2 + 1) fun p3 =>
 cl Pg 42 [.pointer p3] [kS] w fun (r4 : Sl × Unit) w5 =>
 R [vS r4.1] w5
theorem tie20 (a0 : Option Addr) (R : List Value → World → Prop) (w : World) : compF Pg Try.f20 ⟨[], [], [], []⟩ [.pointer a0] R w = sh20 a0 R w := by kernel_rfl
theorem call20 {a0 : Option Addr} {w : World} {K : TK [kS] → World → Prop} (h : sh20 a0 (fun vs w' => ∃ t, encK [kS] t = vs ∧ K t w') w) : cl Pg 20 [.pointer a0] [kS] w K := cl_of Try.func20 (tie20 ..) h
/-- detent/detentlaw13.DataHands -/
def sh6 (a0 : Sl) (a1 : Bool) (R : List Value → World → Prop) (w : World) : Prop :=
 cl Pg 9 [] [kB] w fun (r1 : Bool × Unit) w2 =>
 cs (!r1.1) (
 R [.bool false] w2) (
 cs (decide (((a0.len : Int) : Int) > (8 : Int))) (
 R [.bool true] w2) (
 cl Pg 10 [.bool false, .int .i64 0] [kP, kI] w2 fun (r3 : Option Addr × Int × Unit) w4 =>
 lp [kI] w4 ((0 : Int), ()) fun (t5 : Int × Unit) J6 w7 =>
 cs (decide ((t5.1 : Int) < ((a0.len : Int) : Int))) (
 cs a1 (
 ix a0 t5.1 1 fun b8 o9 =>
 ldI w7 .i64 b8 o9 fun n10 =>
 cl Pg 12 [.pointer r3.1, .int .i64 (w64 (t5.1 + 1)), .int .i64 1, .int .i64 n10] [kB, kI, kI] w7 fun (r11 : Bool × Int × Int × Unit) w12 =>
 jn [kB] w12 (fun (t14 : Bool × Unit) w15 =>
 jn [kB] w15 (fun (t18 : Bool × Unit) w19 =>
 cs t18.1 (
 R [.bool false] w19) (
 J6 (w64 (t5.1 + 1), ()) w19)) fun J17 w20 =>
 cs t14.1 (
 J17 (true, ()) w20) (
 J17 ((r11.2.2.1 : Int) != (0 : Int), ()) w20)) fun J13 w16 =>
 cs r11.1 (
 J13 (true, ()) w16) (
 J13 ((r11.2.1 : Int) != (0 : Int), ()) w16)) (
 cl Pg 18 [.pointer r3.1, .int .i64 (w64 (t5.1 + 1)), .int .i64 1] [.a [(.i .i64), .b, (.i .i64)], kI] w7 fun (r21 : (Int × Bool × Int × Unit) × Int × Unit) w22 =>
 al w22 34 [.int .i64 0, .bool false, .int .i64 0] fun b23 w24 =>
 st1 w24 b23 0 (.int .i64 r21.1.1) fun w25 =>
 st1 w25 b23 (0 + 1) (.bool r21.1.2.1) fun w26 =>
 st1 w26 b23 (0 + 2) (.int .i64 r21.1.2.2.1) fun w27 =>
 ldB w27 b23 (0 + 1) fun b28 =>
 jn [kB] w27 (fun (t30 : Bool × Unit) w31 =>
 cs t30.1 (
 R [.bool false] w31) (
 J6 (w64 (t5.1 + 1), ()) w31)) fun J29 w32 =>
 cs b28 (
 J29 (true, ()) w32) (
 J29 ((r21.2.1 : Int) != (0 : Int), ()) w32))) (
 lp [kI] w7 ((0 : Int), ()) fun (t33 : Int × Unit) J34 w35 =>
 cs (decide ((t33.1 : Int) < ((a0.len : Int) : Int))) (
 cs a1 (
 cl Pg 18 [.pointer r3.1, .int .i64 (w64 (t33.1 + 9)), .int .i64 1] [.a [(.i .i64), .b, (.i .i64)], kI] w35 fun (r36 : (Int × Bool × Int × Unit) × Int × Unit) w37 =>
 al w37 34 [.int .i64 0, .bool false, .int .i64 0] fun b38 w39 =>
 st1 w39 b38 0 (.int .i64 r36.1.1) fun w40 =>
 st1 w40 b38 (0 + 1) (.bool r36.1.2.1) fun w41 =>
 st1 w41 b38 (0 + 2) (.int .i64 r36.1.2.2.1) fun w42 =>
 dr w42 fun w43 =>
 jn [kB] w43 (fun (t45 : Bool × Unit) w46 =>
 cs t45.1 (
 R [.bool false] w46) (
 J34 (w64 (t33.1 + 1), ()) w46)) fun J44 w47 =>
 ldB w47 b38 (0 + 1) fun b48 =>
 cs (!b48) (
 J44 (true, ()) w47) (
 ldI w47 .i64 b38 0 fun n49 =>
 ix a0 t33.1 1 fun b50 o51 =>
 ldI w47 .i64 b50 o51 fun n52 =>
 cs ((n49 : Int) != (n52 : Int)) (
 J44 (true, ()) w47) (
 ldI w47 .i64 b38 (0 + 2) fun n53 =>
 cs ((n53 : Int) != (w64 (t33.1 + 1) : Int)) (
 J44 (true, ()) w47) (
 J44 ((r36.2.1 : Int) != (0 : Int), ()) w47)))) (
 ix a0 t33.1 1 fun b54 o55 =>
 ldI w35 .i64 b54 o55 fun n56 =>
 cl Pg 12 [.pointer r3.1, .int .i64 (w64 (t33.1 + 9)), .int .i64 1, .int .i64 n56] [kB, kI, kI] w35 fun (r57 : Bool × Int × Int × Unit) w58 =>
 jn [kB] w58 (fun (t60 : Bool × Unit) w61 =>
 jn [kB] w61 (fun (t64 : Bool × Unit) w65 =>
 cs t64.1 (
 R [.bool false] w65) (
 J34 (w64 (t33.1 + 1), ()) w65)) fun J63 w66 =>
 cs t60.1 (
 J63 (true, ()) w66) (
 J63 ((r57.2.2.1 : Int) != (0 : Int), ()) w66)) fun J59 w62 =>
 cs (!r57.1) (
 J59 (true, ()) w62) (
 J59 ((r57.2.1 : Int) != (w64 (t33.1 + 1) : Int), ()) w62))) (
 cl Pg 19 [.pointer r3.1] [kS] w35 fun (r67 : Sl × Unit) w68 =>
 cl Pg 20 [.pointer r3.1] [kS] w68 fun (r69 : Sl × Unit) w70 =>
 cl Pg 16 [.pointer r3.1] [kS] w70 fun (r71 : Sl × Unit) w72 =>
 R [.bool ((w64 ((w64 ((r67.1.len : Int) + (r69.1.len : Int))) + (r71.1.len : Int)) : Int) == (0 : Int))] w72))))
theorem tie6 (a0 : Sl) (a1 : Bool) (R : List Value → World → Prop) (w : World) : compF Pg Try.f6 ⟨[(3, ⟨[(7, kI)], [4, 8, 9, 10, 11, 12, 28, 29, 30, 31, 32, 33, 34, 35, 36, 37, 38, 39, 40, 41, 42, 43, 44, 45, 46, 47, 48, 49, 50, 51, 52, 53, 54, 55, 56, 57, 58, 59, 60, 61, 62, 63, 64, 65, 66, 67, 68]⟩), (10, ⟨[(13, kI)], [4, 14, 15, 16, 17, 18, 69, 70, 71, 72, 73, 74, 75, 76, 77, 78, 79, 80, 81, 82, 83, 84, 85, 86, 87, 88, 89, 90, 91, 92, 93, 94, 95, 96, 97, 98, 99, 100, 101, 102, 103, 104, 105, 106, 107, 108, 109, 110, 111, 112, 113, 114, 115, 116, 117, 118, 119, 120, 121, 122, 123, 124, 125, 126, 127, 128, 129]⟩)], [(21, ⟨[(105, kB)], [83, 84, 85, 86, 87, 88, 89, 90, 91, 92, 93, 94, 95, 96, 97, 98, 99, 100, 101, 102, 103, 104]⟩)], [(21, .l [(0, []), (1, []), (2, []), (3, []), (4, []), (5, []), (6, []), (7, []), (8, []), (9, []), (10, []), (11, []), (12, []), (13, []), (14, []), (15, []), (16, []), (17, []), (18, []), (19, []), (20, []), (21, []), (22, [])])], [(11, [(2, 3, ⟨[(51, kB)], [49, 50]⟩), (6, 3, ⟨[(55, kB)], [53, 54]⟩)]), (14, [(3, 3, ⟨[(68, kB)], [66, 67]⟩)]), (24, [(3, 5, ⟨[(125, kB)], [121, 122, 123, 124]⟩), (9, 3, ⟨[(129, kB)], [127, 128]⟩)])]⟩ [vS a0, .bool a1] R w = sh6 a0 a1 R w := by kernel_rfl
theorem call6 {a0 : Sl} {a1 : Bool} {w : World} {K : TK [kB] → World → Prop} (h : sh6 a0 a1 (fun vs w' => ∃ t, encK [kB] t = vs ∧ K t w') w) : cl Pg 6 [vS a0, .bool a1] [kB] w K := cl_of Try.func6 (tie6 ..) h
/-- (*detent/dtq.Queue).Force -/
def sh21 (a0 : Option Addr) (a1 : Int) (R : List Value → World → Prop) (w : World) : Prop :=
 nn a0 fun b1 o2 =>
 ldI w .i64 b1 (o2 + 2) fun n3 =>
 cs ((n3 : Int) == (0 : Int)) (
 R [.int .i64 0, .int .i64 (-28)] w) (
 cl Pg 11 [.pointer a0, .int .i64 a1] [kB, kI] w fun (r4 : Bool × Int × Unit) w5 =>
 cs r4.1 (
 R [.int .i64 r4.2.1, .int .i64 0] w5) (
 nn a0 fun b6 o7 =>
 ldS w5 b6 (o7 + 3) fun s8 =>
 sb s8 1 s8.len s8.cap 1 fun s9 =>
 cl Pg 40 [vS s9] [kS] w5 fun (r10 : Sl × Unit) w11 =>
 al w11 3 [.int .i64 a1] fun b12 w13 =>
 ef Pg (Builtin.append_ #[32, 32] 32 #[vS r10.1, vS ⟨some ⟨b12, 0, none⟩, 1, 1⟩]) [kS] w13 fun (r14 : Sl × Unit) w15 =>
 nn a0 fun b16 o17 =>
 st1 w15 b16 (o17 + 3) (vS r14.1) fun w18 =>
 R [.int .i64 0, .int .i64 0] w18))
theorem tie21 (a0 : Option Addr) (a1 : Int) (R : List Value → World → Prop) (w : World) : compF Pg Try.f21 ⟨[], [], [], []⟩ [.pointer a0, .int .i64 a1] R w = sh21 a0 a1 R w := by kernel_rfl
theorem call21 {a0 : Option Addr} {a1 : Int} {w : World} {K : TK [kI, kI] → World → Prop} (h : sh21 a0 a1 (fun vs w' => ∃ t, encK [kI, kI] t = vs ∧ K t w') w) : cl Pg 21 [.pointer a0, .int .i64 a1] [kI, kI] w K := cl_of Try.func21 (tie21 ..) h
/-- detent/detentlaw13.DataForces -/
def sh7 (a0 : Int) (a1 : Sl) (R : List Value → World → Prop) (w : World) : Prop :=
 cl Pg 9 [] [kB] w fun (r1 : Bool × Unit) w2 =>
 cs (!r1.1) (
 R [.bool false] w2) (
 cs (decide (((a1.len : Int) : Int) > (150 : Int))) (
 R [.bool true] w2) (
 cl Pg 10 [.bool false, .int .i64 (w64 (Int.tmod a0 65))] [kP, kI] w2 fun (r3 : Option Addr × Int × Unit) w4 =>
 lp [kI] w4 ((0 : Int), ()) fun (t5 : Int × Unit) J6 w7 =>
 cs (decide ((t5.1 : Int) < ((a1.len : Int) : Int))) (
 ix a1 t5.1 1 fun b8 o9 =>
 ldI w7 .i64 b8 o9 fun n10 =>
 cl Pg 21 [.pointer r3.1, .int .i64 n10] [kI, kI] w7 fun (r11 : Int × Int × Unit) w12 =>
 cs ((w64 (Int.tmod a0 65) : Int) == (0 : Int)) (
 jn [kB] w12 (fun (t14 : Bool × Unit) w15 =>
 cs t14.1 (
 R [.bool false] w15) (
 J6 (w64 (t5.1 + 1), ()) w15)) fun J13 w16 =>
 cs ((r11.1 : Int) != (0 : Int)) (
 J13 (true, ()) w16) (
 J13 ((r11.2.1 : Int) != ((-28) : Int), ()) w16)) (
 jn [kB] w12 (fun (t18 : Bool × Unit) w19 =>
 cs t18.1 (
 R [.bool false] w19) (
 J6 (w64 (t5.1 + 1), ()) w19)) fun J17 w20 =>
 cs ((r11.1 : Int) != (0 : Int)) (
 J17 (true, ()) w20) (
 J17 ((r11.2.1 : Int) != (0 : Int), ()) w20))) (
 jn [kI] w7 (fun (t22 : Int × Unit) w23 =>
 dr w23 fun w25 =>
 jn [kB] w25 (fun (t27 : Bool × Unit) w28 =>
 R [.bool t27.1] w28) fun J26 w29 =>
 sb a1 t22.1 a1.len a1.cap 1 fun s30 =>
 cl Pg 16 [.pointer r3.1] [kS] w29 fun (r31 : Sl × Unit) w32 =>
 cl Pg 15 [vS r31.1, vS s30] [kB] w32 fun (r33 : Bool × Unit) w34 =>
 cs r33.1 (
 cl Pg 19 [.pointer r3.1] [kS] w34 fun (r35 : Sl × Unit) w36 =>
 cl Pg 20 [.pointer r3.1] [kS] w36 fun (r37 : Sl × Unit) w38 =>
 J26 ((w64 ((r35.1.len : Int) + (r37.1.len : Int)) : Int) == (0 : Int), ()) w38) (
 J26 (false, ()) w34)) fun J21 w24 =>
 cs (decide (((a1.len : Int) : Int) > (w64 (Int.tmod a0 65) : Int))) (
 J21 (w64 ((a1.len : Int) - (w64 (Int.tmod a0 65))), ()) w24) (
 J21 ((0 : Int), ()) w24))))
theorem tie7 (a0 : Int) (a1 : Sl) (R : List Value → World → Prop) (w : World) : compF Pg Try.f7 ⟨[(3, ⟨[(8, kI)], [4, 9, 10, 27, 28, 29, 30, 31, 32, 33, 34, 35, 36, 37, 38, 39, 40, 41, 42, 43, 44, 45, 46, 47, 48, 49, 50, 51, 52, 53, 54, 55]⟩), (9, ⟨[(11, kI)], [60, 61, 62, 63]⟩)], [(19, ⟨[(4, kB)], [64, 65, 66, 67, 68, 69, 70, 71, 72, 73, 74, 75, 76, 77, 78, 79]⟩)], [(19, .l [(0, []), (2, []), (3, []), (4, []), (1, [0]), (5, [1, 4, 0, 2, 3]), (6, []), (7, []), (10, []), (8, [7, 6, 5, 1, 4, 0, 2, 3]), (9, []), (11, [10, 8, 6, 7, 5, 1, 4, 0, 2, 3]), (12, []), (13, []), (14, []), (15, []), (16, [])])], [(12, [(3, 3, ⟨[(49, kB)], [47, 48]⟩)]), (14, [(3, 3, ⟨[(55, kB)], [53, 54]⟩)])]⟩ [.int .u8 a0, vS a1] R w = sh7 a0 a1 R w := by kernel_rfl
theorem call7 {a0 : Int} {a1 : Sl} {w : World} {K : TK [kB] → World → Prop} (h : sh7 a0 a1 (fun vs w' => ∃ t, encK [kB] t = vs ∧ K t w') w) : cl Pg 7 [.int .u8 a0, vS a1] [kB] w K := cl_of Try.func7 (tie7 ..) h
/-- detent/detentref13.New -/
def sh22 (a0 : Bool) (a1 : Int) (R : List Value → World → Prop) (w : World) : Prop :=
 jn [kB] w (fun (t2 : Bool × Unit) w3 =>
 cs t2.1 (
 R [.pointer none, .int .i64 (-17)] w3) (
 al w3 92 [.bool a0, .slice none 0 0] fun b5 w6 =>
 al w6 92 [.bool false, .slice none 0 0] fun b7 w8 =>
 al w8 95 [.pointer (some ⟨b5, 0, none⟩), .pointer (some ⟨b7, 0, none⟩), .int .i64 0, .int .i64 0, .int .i64 0, .int .i64 0, .int .i64 0, .int .i64 0, .int .i64 0, .int .i64 0, .int .i64 0, .int .i64 0, .int .i64 0, .int .i64 0, .int .i64 0, .int .i64 0, .int .i64 0, .int .i64 0, .int .i64 0, .int .i64 a1, .slice none 0 0] fun b9 w10 =>
 R [.pointer (some ⟨b9, 0, none⟩), .int .i64 0] w10)) fun J1 w4 =>
 cs (decide ((a1 : Int) < (0 : Int))) (
 J1 (true, ()) w4) (
 J1 (decide ((a1 : Int) > (64 : Int)), ()) w4)
theorem tie22 (a0 : Bool) (a1 : Int) (R : List Value → World → Prop) (w : World) : compF Pg Try.f22 ⟨[], [], [], [(1, [(3, 3, ⟨[(11, kB)], [9, 10]⟩)])]⟩ [.bool a0, .int .i64 a1] R w = sh22 a0 a1 R w := by kernel_rfl
theorem call22 {a0 : Bool} {a1 : Int} {w : World} {K : TK [kP, kI] → World → Prop} (h : sh22 a0 a1 (fun vs w' => ∃ t, encK [kP, kI] t = vs ∧ K t w') w) : cl Pg 22 [.bool a0, .int .i64 a1] [kP, kI] w K := cl_of Try.func22 (tie22 ..) h
/-- (*detent/detentref4.Queue).Take -/
def sh46 (a0 : Option Addr) (R : List Value → World → Prop) (w : World) : Prop :=
 al w 98 [.int .i64 0, .int .i64 0] fun b1 w2 =>
 nn a0 fun b3 o4 =>
 ldS w2 b3 (o4 + 1) fun s5 =>
 cs (((s5.len : Int) : Int) == (0 : Int)) (
 st1 w2 b1 0 (.int .i64 0) fun w6 =>
 st1 w6 b1 (0 + 1) (.int .i64 0) fun w7 =>
 ldI w7 .i64 b1 0 fun n8 =>
 ldI w7 .i64 b1 (0 + 1) fun n9 =>
 R [.agg #[.int .i64 n8, .int .i64 n9], .bool false] w7) (
 nn a0 fun b10 o11 =>
 ldS w2 b10 (o11 + 1) fun s12 =>
 ix s12 0 2 fun b13 o14 =>
 ldI w2 .i64 b13 o14 fun n15 =>
 ldI w2 .i64 b13 (o14 + 1) fun n16 =>
 al w2 98 [.int .i64 0, .int .i64 0] fun b17 w18 =>
 st1 w18 b17 0 (.int .i64 n15) fun w19 =>
 st1 w19 b17 (0 + 1) (.int .i64 n16) fun w20 =>
 al w20 98 [] fun b21 w22 =>
 nn a0 fun b23 o24 =>
 ldS w22 b23 (o24 + 1) fun s25 =>
 sb s25 1 s25.len s25.cap 2 fun s26 =>
 ef Pg (Builtin.append_ #[90, 90] 90 #[vS ⟨some ⟨b21, 0, none⟩, 0, 0⟩, vS s26]) [kS] w22 fun (r27 : Sl × Unit) w28 =>
 nn a0 fun b29 o30 =>
 st1 w28 b29 (o30 + 1) (vS r27.1) fun w31 =>
 ldI w31 .i64 b17 0 fun n32 =>
 ldI w31 .i64 b17 (0 + 1) fun n33 =>
 st1 w31 b1 0 (.int .i64 n32) fun w34 =>
 st1 w34 b1 (0 + 1) (.int .i64 n33) fun w35 =>
 ldI w35 .i64 b1 0 fun n36 =>
 ldI w35 .i64 b1 (0 + 1) fun n37 =>
 R [.agg #[.int .i64 n36, .int .i64 n37], .bool true] w35)
theorem tie46 (a0 : Option Addr) (R : List Value → World → Prop) (w : World) : compF Pg Try.f46 ⟨[], [], [], []⟩ [.pointer a0] R w = sh46 a0 R w := by kernel_rfl
theorem call46 {a0 : Option Addr} {w : World} {K : TK [.a [(.i .i64), (.i .i64)], kB] → World → Prop} (h : sh46 a0 (fun vs w' => ∃ t, encK [.a [(.i .i64), (.i .i64)], kB] t = vs ∧ K t w') w) : cl Pg 46 [.pointer a0] [.a [(.i .i64), (.i .i64)], kB] w K := cl_of Try.func46 (tie46 ..) h
/-- (*detent/detentref13.Queue).TrySend -/
def sh24 (a0 : Option Addr) (a1 : Int) (R : List Value → World → Prop) (w : World) : Prop :=
 nn a0 fun b1 o2 =>
 ldP w b1 (o2 + 1) fun p3 =>
 cl Pg 46 [.pointer p3] [.a [(.i .i64), (.i .i64)], kB] w fun (r4 : (Int × Int × Unit) × Bool × Unit) w5 =>
 al w5 98 [.int .i64 0, .int .i64 0] fun b6 w7 =>
 st1 w7 b6 0 (.int .i64 r4.1.1) fun w8 =>
 st1 w8 b6 (0 + 1) (.int .i64 r4.1.2.1) fun w9 =>
 cs r4.2.1 (
 dr w9 fun w10 =>
 ldI w10 .i64 b6 0 fun n11 =>
 R [.bool true, .int .i64 n11] w10) (
 dr w9 fun w12 =>
 nn a0 fun b13 o14 =>
 ldS w12 b13 (o14 + 20) fun s15 =>
 nn a0 fun b16 o17 =>
 ldI w12 .i64 b16 (o17 + 19) fun n18 =>
 cs (decide (((s15.len : Int) : Int) < (n18 : Int))) (
 al w12 3 [] fun b19 w20 =>
 nn a0 fun b21 o22 =>
 ldS w20 b21 (o22 + 20) fun s23 =>
 ef Pg (Builtin.append_ #[32, 32] 32 #[vS ⟨some ⟨b19, 0, none⟩, 0, 0⟩, vS s23]) [kS] w20 fun (r24 : Sl × Unit) w25 =>
 al w25 3 [.int .i64 a1] fun b26 w27 =>
 ef Pg (Builtin.append_ #[32, 32] 32 #[vS r24.1, vS ⟨some ⟨b26, 0, none⟩, 1, 1⟩]) [kS] w27 fun (r28 : Sl × Unit) w29 =>
 nn a0 fun b30 o31 =>
 st1 w29 b30 (o31 + 20) (vS r28.1) fun w32 =>
 R [.bool true, .int .i64 0] w32) (
 R [.bool false, .int .i64 0] w12))
theorem tie24 (a0 : Option Addr) (a1 : Int) (R : List Value → World → Prop) (w : World) : compF Pg Try.f24 ⟨[], [], [(3, .l [(0, []), (1, []), (2, []), (3, [])]), (4, .l [(0, []), (1, []), (2, []), (3, []), (4, []), (5, []), (6, []), (7, []), (8, []), (9, [])])], []⟩ [.pointer a0, .int .i64 a1] R w = sh24 a0 a1 R w := by kernel_rfl
theorem call24 {a0 : Option Addr} {a1 : Int} {w : World} {K : TK [kB, kI] → World → Prop} (h : sh24 a0 a1 (fun vs w' => ∃ t, encK [kB, kI] t = vs ∧ K t w') w) : cl Pg 24 [.pointer a0, .int .i64 a1] [kB, kI] w K := cl_of Try.func24 (tie24 ..) h
/-- detent/detentref4.Good -/
def sh43 (a0 : Int) (a1 : Int) (R : List Value → World → Prop) (w : World) : Prop :=
 jn [kB] w (fun (t2 : Bool × Unit) w3 =>
 jn [kB] w3 (fun (t6 : Bool × Unit) w7 =>
 jn [kB] w7 (fun (t10 : Bool × Unit) w11 =>
 R [.bool t10.1] w11) fun J9 w12 =>
 cs t6.1 (
 J9 (decide ((a1 : Int) ≤ (16 : Int)), ()) w12) (
 J9 (false, ()) w12)) fun J5 w8 =>
 cs t2.1 (
 J5 (decide ((a1 : Int) ≥ (1 : Int)), ()) w8) (
 J5 (false, ()) w8)) fun J1 w4 =>
 cs (decide ((a0 : Int) ≥ (1 : Int))) (
 J1 (decide ((a0 : Int) ≤ (16 : Int)), ()) w4) (
 J1 (false, ()) w4)
theorem tie43 (a0 : Int) (a1 : Int) (R : List Value → World → Prop) (w : World) : compF Pg Try.f43 ⟨[], [], [], [(1, [(3, 3, ⟨[(10, kB)], [8, 9]⟩), (7, 3, ⟨[(14, kB)], [12, 13]⟩), (11, 3, ⟨[(18, kB)], [16, 17]⟩)])]⟩ [.int .i64 a0, .int .i64 a1] R w = sh43 a0 a1 R w := by kernel_rfl
theorem call43 {a0 : Int} {a1 : Int} {w : World} {K : TK [kB] → World → Prop} (h : sh43 a0 a1 (fun vs w' => ∃ t, encK [kB] t = vs ∧ K t w') w) : cl Pg 43 [.int .i64 a0, .int .i64 a1] [kB] w K := cl_of Try.func43 (tie43 ..) h
/-- (*detent/detentref4.Queue).At -/
def sh44 (a0 : Option Addr) (a1 : Int) (R : List Value → World → Prop) (w : World) : Prop :=
 lp [kI] w ((0 : Int), ()) fun (t1 : Int × Unit) J2 w3 =>
 nn a0 fun b4 o5 =>
 ldS w3 b4 (o5 + 1) fun s6 =>
 cs (decide ((t1.1 : Int) < ((s6.len : Int) : Int))) (
 nn a0 fun b7 o8 =>
 ldS w3 b7 (o8 + 1) fun s9 =>
 ix s9 t1.1 2 fun b10 o11 =>
 ldI w3 .i64 b10 o11 fun n12 =>
 cs ((n12 : Int) == (a1 : Int)) (
 R [.int .i64 t1.1] w3) (
 J2 (w64 (t1.1 + 1), ()) w3)) (
 R [.int .i64 (-1)] w3)
theorem tie44 (a0 : Option Addr) (a1 : Int) (R : List Value → World → Prop) (w : World) : compF Pg Try.f44 ⟨[(1, ⟨[(5, kI)], [4, 6, 7, 8, 9, 10, 11, 12, 13, 14, 15, 16, 17, 18, 19, 20, 21, 22, 23, 24, 25]⟩)], [], [], []⟩ [.pointer a0, .int .i64 a1] R w = sh44 a0 a1 R w := by kernel_rfl
theorem call44 {a0 : Option Addr} {a1 : Int} {w : World} {K : TK [kI] → World → Prop} (h : sh44 a0 a1 (fun vs w' => ∃ t, encK [kI] t = vs ∧ K t w') w) : cl Pg 44 [.pointer a0, .int .i64 a1] [kI] w K := cl_of Try.func44 (tie44 ..) h
/-- (*detent/detentref4.Queue).put -/
def sh59 (a0 : Option Addr) (a1 : (Int × Int × Unit)) (R : List Value → World → Prop) (w : World) : Prop :=
 al w 98 [.int .i64 a1.1, .int .i64 a1.2.1] fun b1 w2 =>
 nn a0 fun b3 o4 =>
 ldS w2 b3 (o4 + 1) fun s5 =>
 nn a0 fun b6 o7 =>
 ldB w2 b6 o7 fun b8 =>
 jn [kI] w2 (fun (t10 : Int × Unit) w11 =>
 dr w11 fun w13 =>
 nn a0 fun b14 o15 =>
 ldS w13 b14 (o15 + 1) fun s16 =>
 sb s16 0 t10.1 s16.cap 2 fun s17 =>
 ldI w13 .i64 b1 0 fun n18 =>
 ldI w13 .i64 b1 (0 + 1) fun n19 =>
(
 al w13 98 [] fun b20 w21 =>
(w21.cell? ⟨b1, 0, none⟩ = some (.int .i64 n18) ∧ w21.cell? ⟨b1, 0 + 1, none⟩ = some (.int .i64 n19)) ∧ (
(w21.cell? ⟨b14, o15 + 1, none⟩ = some (vS s16)) ∧ (
(
 ef Pg (Builtin.append_ #[90, 90] 90 #[vS ⟨some ⟨b20, 0, none⟩, 0, 0⟩, vS s17]) [kS] w21 fun (r22 : Sl × Unit) w23 =>
(w23.cell? ⟨b1, 0, none⟩ = some (.int .i64 n18) ∧ w23.cell? ⟨b1, 0 + 1, none⟩ = some (.int .i64 n19)) ∧ (
 al w23 98 [.int .i64 n18, .int .i64 n19] fun b24 w25 =>
(w25.cell? ⟨b14, o15 + 1, none⟩ = some (vS s16)) ∧ (
 ef Pg (Builtin.append_ #[90, 90] 90 #[vS r22.1, vS ⟨some ⟨b24, 0, none⟩, 1, 1⟩]) [kS] w25 fun (r26 : Sl × Unit) w27 =>
 nn a0 fun b28 o29 =>
 ldS w27 b28 (o29 + 1) fun s30 =>
 sb s30 t10.1 s30.len s30.cap 2 fun s31 =>
 ef Pg (Builtin.append_ #[90, 90] 90 #[vS r26.1, vS s31]) [kS] w27 fun (r32 : Sl × Unit) w33 =>
 nn a0 fun b34 o35 =>
 st1 w33 b34 (o35 + 1) (vS r32.1) fun w36 =>
 R [] w36))) ∧ (
 al w21 98 [.int .i64 n18, .int .i64 n19] fun b37 w38 =>
(w38.cell? ⟨b14, o15 + 1, none⟩ = some (vS s16)) ∧ (
 ef Pg (Builtin.append_ #[90, 90] 90 #[vS ⟨some ⟨b20, 0, none⟩, 0, 0⟩, vS s17]) [kS] w38 fun (r39 : Sl × Unit) w40 =>
(w40.cell? ⟨b1, 0, none⟩ = some (.int .i64 n18) ∧ w40.cell? ⟨b1, 0 + 1, none⟩ = some (.int .i64 n19)) ∧ (
 ef Pg (Builtin.append_ #[90, 90] 90 #[vS r39.1, vS ⟨some ⟨b37, 0, none⟩, 1, 1⟩]) [kS] w40 fun (r41 : Sl × Unit) w42 =>
 nn a0 fun b43 o44 =>
 ldS w42 b43 (o44 + 1) fun s45 =>
 sb s45 t10.1 s45.len s45.cap 2 fun s46 =>
 ef Pg (Builtin.append_ #[90, 90] 90 #[vS r41.1, vS s46]) [kS] w42 fun (r47 : Sl × Unit) w48 =>
 nn a0 fun b49 o50 =>
 st1 w48 b49 (o50 + 1) (vS r47.1) fun w51 =>
 R [] w51)))))) ∧ (
 al w13 98 [.int .i64 n18, .int .i64 n19] fun b52 w53 =>
(w53.cell? ⟨b14, o15 + 1, none⟩ = some (vS s16)) ∧ (
 al w53 98 [] fun b54 w55 =>
(w55.cell? ⟨b1, 0, none⟩ = some (.int .i64 n18) ∧ w55.cell? ⟨b1, 0 + 1, none⟩ = some (.int .i64 n19)) ∧ (
(w55.cell? ⟨b14, o15 + 1, none⟩ = some (vS s16)) ∧ (
 ef Pg (Builtin.append_ #[90, 90] 90 #[vS ⟨some ⟨b54, 0, none⟩, 0, 0⟩, vS s17]) [kS] w55 fun (r56 : Sl × Unit) w57 =>
(w57.cell? ⟨b1, 0, none⟩ = some (.int .i64 n18) ∧ w57.cell? ⟨b1, 0 + 1, none⟩ = some (.int .i64 n19)) ∧ (
 ef Pg (Builtin.append_ #[90, 90] 90 #[vS r56.1, vS ⟨some ⟨b52, 0, none⟩, 1, 1⟩]) [kS] w57 fun (r58 : Sl × Unit) w59 =>
 nn a0 fun b60 o61 =>
 ldS w59 b60 (o61 + 1) fun s62 =>
 sb s62 t10.1 s62.len s62.cap 2 fun s63 =>
 ef Pg (Builtin.append_ #[90, 90] 90 #[vS r58.1, vS s63]) [kS] w59 fun (r64 : Sl × Unit) w65 =>
 nn a0 fun b66 o67 =>
 st1 w65 b66 (o67 + 1) (vS r64.1) fun w68 =>
 R [] w68)))))) fun J9 w12 =>
 cs b8 (
 lp [kI] w12 ((s5.len : Int), ()) fun (t69 : Int × Unit) J70 w71 =>
 dr w71 fun w72 =>
 jn [kB] w72 (fun (t74 : Bool × Unit) w75 =>
 cs t74.1 (
 J70 (w64 (t69.1 - 1), ()) w75) (
 J9 (t69.1, ()) w75)) fun J73 w76 =>
 cs (decide ((t69.1 : Int) > (0 : Int))) (
 nn a0 fun b77 o78 =>
 ldS w76 b77 (o78 + 1) fun s79 =>
 ix s79 (w64 (t69.1 - 1)) 2 fun b80 o81 =>
 ldI w76 .i64 b80 (o81 + 1) fun n82 =>
 ldI w76 .i64 b1 (0 + 1) fun n83 =>
 J73 (decide ((n82 : Int) > (n83 : Int)), ()) w76) (
 J73 (false, ()) w76)) (
 J9 ((s5.len : Int), ()) w12)
theorem tie59 (a0 : Option Addr) (a1 : (Int × Int × Unit)) (R : List Value → World → Prop) (w : World) : compF Pg Try.f59 ⟨[(0, ⟨[(4, kI)], [15, 16, 17, 18, 19, 20, 21, 22, 23, 24, 25, 26, 27, 28, 29, 30, 31, 32]⟩), (2, ⟨[(4, kI)], [15, 16, 17, 18, 19, 20, 21, 22, 23, 24, 25, 26, 27, 28, 29, 30, 31, 32]⟩)], [(3, ⟨[(30, kB)], [15, 16, 17, 18, 19, 20, 21, 22, 23, 24, 25, 26, 27, 28, 29]⟩)], [(5, .t [(1, []), (2, []), (3, []), (4, []), (5, []), (6, []), (8, [])] 0 [] (.t [] 7 [0, 6, 4, 5, 3, 2, 1] (.l [(9, [8]), (10, [7, 9, 0, 6, 8, 4, 5, 3, 2, 1]), (11, [])]) 9 [8] (.l [(7, [0, 6, 4, 5, 3, 2, 1]), (10, [7, 9, 0, 6, 8, 4, 5, 3, 2, 1]), (11, [])])) 9 [8] (.l [(0, []), (7, [0, 6, 4, 5, 3, 2, 1]), (10, [7, 9, 0, 6, 8, 4, 5, 3, 2, 1]), (11, [])])), (3, .l [(0, []), (1, []), (2, []), (3, []), (4, []), (5, []), (6, []), (7, []), (8, []), (9, []), (10, []), (11, []), (12, []), (13, []), (14, []), (15, [])])], []⟩ [.pointer a0, .agg #[.int .i64 a1.1, .int .i64 a1.2.1]] R w = sh59 a0 a1 R w := by kernel_rfl
theorem call59 {a0 : Option Addr} {a1 : (Int × Int × Unit)} {w : World} {K : TK [] → World → Prop} (h : sh59 a0 a1 (fun vs w' => ∃ t, encK [] t = vs ∧ K t w') w) : cl Pg 59 [.pointer a0, .agg #[.int .i64 a1.1, .int .i64 a1.2.1]] [] w K := cl_of Try.func59 (tie59 ..) h
/-- (*detent/detentref4.Queue).Add -/
def sh45 (a0 : Option Addr) (a1 : Int) (a2 : Int) (R : List Value → World → Prop) (w : World) : Prop :=
 cl Pg 43 [.int .i64 a1, .int .i64 a2] [kB] w fun (r1 : Bool × Unit) w2 =>
 cs (!r1.1) (
 R [.int .i64 (-17)] w2) (
 cl Pg 44 [.pointer a0, .int .i64 a1] [kI] w2 fun (r3 : Int × Unit) w4 =>
 cs (decide ((r3.1 : Int) ≥ (0 : Int))) (
 R [.int .i64 (-41)] w4) (
 cl Pg 59 [.pointer a0, .agg #[.int .i64 a1, .int .i64 a2]] [] w4 fun (r5 : Unit) w6 =>
 R [.int .i64 0] w6))
theorem tie45 (a0 : Option Addr) (a1 : Int) (a2 : Int) (R : List Value → World → Prop) (w : World) : compF Pg Try.f45 ⟨[], [], [], []⟩ [.pointer a0, .int .i64 a1, .int .i64 a2] R w = sh45 a0 a1 a2 R w := by kernel_rfl
theorem call45 {a0 : Option Addr} {a1 : Int} {a2 : Int} {w : World} {K : TK [kI] → World → Prop} (h : sh45 a0 a1 a2 (fun vs w' => ∃ t, encK [kI] t = vs ∧ K t w') w) : cl Pg 45 [.pointer a0, .int .i64 a1, .int .i64 a2] [kI] w K := cl_of Try.func45 (tie45 ..) h
/-- (*detent/detentref13.Queue).Send -/
def sh23 (a0 : Option Addr) (a1 : Int) (a2 : Int) (a3 : Int) (R : List Value → World → Prop) (w : World) : Prop :=
 cl Pg 24 [.pointer a0, .int .i64 a3] [kB, kI] w fun (r1 : Bool × Int × Unit) w2 =>
 cs r1.1 (
 R [.bool true, .int .i64 r1.2.1, .int .i64 0] w2) (
 cl Pg 43 [.int .i64 a1, .int .i64 a2] [kB] w2 fun (r3 : Bool × Unit) w4 =>
 cs (!r3.1) (
 R [.bool false, .int .i64 0, .int .i64 (-17)] w4) (
 nn a0 fun b5 o6 =>
 ldP w4 b5 (o6 + 1) fun p7 =>
 cl Pg 44 [.pointer p7, .int .i64 a1] [kI] w4 fun (r8 : Int × Unit) w9 =>
 cs (decide ((r8.1 : Int) ≥ (0 : Int))) (
 R [.bool false, .int .i64 0, .int .i64 (-41)] w9) (
 nn a0 fun b10 o11 =>
 ldP w9 b10 o11 fun p12 =>
 cl Pg 45 [.pointer p12, .int .i64 a1, .int .i64 a2] [kI] w9 fun (r13 : Int × Unit) w14 =>
 jn [] w14 (fun (t16 : Unit) w17 =>
 R [.bool false, .int .i64 0, .int .i64 r13.1] w17) fun J15 w18 =>
 cs ((r13.1 : Int) == (0 : Int)) (
 nn a0 fun b19 o20 =>
 ixA b19 (o20 + 2) 17 a1 1 fun b21 o22 =>
 st1 w18 b21 o22 (.int .i64 a3) fun w23 =>
 J15 () w23) (
 J15 () w18))))
theorem tie23 (a0 : Option Addr) (a1 : Int) (a2 : Int) (a3 : Int) (R : List Value → World → Prop) (w : World) : compF Pg Try.f23 ⟨[(3, ⟨[], [42, 43, 44, 45, 46, 47]⟩)], [], [], []⟩ [.pointer a0, .int .i64 a1, .int .i64 a2, .int .i64 a3] R w = sh23 a0 a1 a2 a3 R w := by kernel_rfl
theorem call23 {a0 : Option Addr} {a1 : Int} {a2 : Int} {a3 : Int} {w : World} {K : TK [kB, kI, kI] → World → Prop} (h : sh23 a0 a1 a2 a3 (fun vs w' => ∃ t, encK [kB, kI, kI] t = vs ∧ K t w') w) : cl Pg 23 [.pointer a0, .int .i64 a1, .int .i64 a2, .int .i64 a3] [kB, kI, kI] w K := cl_of Try.func23 (tie23 ..) h
/-- (*detent/detentref13.Queue).Force -/
def sh25 (a0 : Option Addr) (a1 : Int) (R : List Value → World → Prop) (w : World) : Prop :=
 nn a0 fun b1 o2 =>
 ldI w .i64 b1 (o2 + 19) fun n3 =>
 cs ((n3 : Int) == (0 : Int)) (
 R [.int .i64 0, .int .i64 (-28)] w) (
 cl Pg 24 [.pointer a0, .int .i64 a1] [kB, kI] w fun (r4 : Bool × Int × Unit) w5 =>
 cs (!r4.1) (
 al w5 3 [] fun b6 w7 =>
 nn a0 fun b8 o9 =>
 ldS w7 b8 (o9 + 20) fun s10 =>
 sb s10 1 s10.len s10.cap 1 fun s11 =>
 ef Pg (Builtin.append_ #[32, 32] 32 #[vS ⟨some ⟨b6, 0, none⟩, 0, 0⟩, vS s11]) [kS] w7 fun (r12 : Sl × Unit) w13 =>
 al w13 3 [.int .i64 a1] fun b14 w15 =>
 ef Pg (Builtin.append_ #[32, 32] 32 #[vS r12.1, vS ⟨some ⟨b14, 0, none⟩, 1, 1⟩]) [kS] w15 fun (r16 : Sl × Unit) w17 =>
 nn a0 fun b18 o19 =>
 st1 w17 b18 (o19 + 20) (vS r16.1) fun w20 =>
 R [.int .i64 r4.2.1, .int .i64 0] w20) (
 R [.int .i64 r4.2.1, .int .i64 0] w5))
theorem tie25 (a0 : Option Addr) (a1 : Int) (R : List Value → World → Prop) (w : World) : compF Pg Try.f25 ⟨[], [], [], []⟩ [.pointer a0, .int .i64 a1] R w = sh25 a0 a1 R w := by kernel_rfl
theorem call25 {a0 : Option Addr} {a1 : Int} {w : World} {K : TK [kI, kI] → World → Prop} (h : sh25 a0 a1 (fun vs w' => ∃ t, encK [kI, kI] t = vs ∧ K t w') w) : cl Pg 25 [.pointer a0, .int .i64 a1] [kI, kI] w K := cl_of Try.func25 (tie25 ..) h
/-- (*detent/detentref13.Queue).TryRecv -/
def sh28 (a0 : Option Addr) (R : List Value → World → Prop) (w : World) : Prop :=
 al w 58 [.int .i64 0, .bool false, .int .i64 0] fun b1 w2 =>
 nn a0 fun b3 o4 =>
 ldS w2 b3 (o4 + 20) fun s5 =>
 cs (decide (((s5.len : Int) : Int) > (0 : Int))) (
 nn a0 fun b6 o7 =>
 ldS w2 b6 (o7 + 20) fun s8 =>
 ix s8 0 1 fun b9 o10 =>
 ldI w2 .i64 b9 o10 fun n11 =>
 al w2 58 [.int .i64 0, .bool false, .int .i64 0] fun b12 w13 =>
 st1 w13 b12 0 (.int .i64 n11) fun w14 =>
 st1 w14 b12 (0 + 1) (.bool true) fun w15 =>
 st1 w15 b12 (0 + 2) (.int .i64 0) fun w16 =>
 al w16 3 [] fun b17 w18 =>
 nn a0 fun b19 o20 =>
 ldS w18 b19 (o20 + 20) fun s21 =>
 sb s21 1 s21.len s21.cap 1 fun s22 =>
 ef Pg (Builtin.append_ #[32, 32] 32 #[vS ⟨some ⟨b17, 0, none⟩, 0, 0⟩, vS s22]) [kS] w18 fun (r23 : Sl × Unit) w24 =>
 nn a0 fun b25 o26 =>
 st1 w24 b25 (o26 + 20) (vS r23.1) fun w27 =>
 nn a0 fun b28 o29 =>
 ldP w27 b28 o29 fun p30 =>
 cl Pg 46 [.pointer p30] [.a [(.i .i64), (.i .i64)], kB] w27 fun (r31 : (Int × Int × Unit) × Bool × Unit) w32 =>
 al w32 98 [.int .i64 0, .int .i64 0] fun b33 w34 =>
 st1 w34 b33 0 (.int .i64 r31.1.1) fun w35 =>
 st1 w35 b33 (0 + 1) (.int .i64 r31.1.2.1) fun w36 =>
 jn [] w36 (fun (t38 : Unit) w39 =>
 ldI w39 .i64 b12 0 fun n41 =>
 ldB w39 b12 (0 + 1) fun b42 =>
 ldI w39 .i64 b12 (0 + 2) fun n43 =>
 st1 w39 b1 0 (.int .i64 n41) fun w44 =>
 st1 w44 b1 (0 + 1) (.bool b42) fun w45 =>
 st1 w45 b1 (0 + 2) (.int .i64 n43) fun w46 =>
 ldI w46 .i64 b1 0 fun n47 =>
 ldB w46 b1 (0 + 1) fun b48 =>
 ldI w46 .i64 b1 (0 + 2) fun n49 =>
 R [.agg #[.int .i64 n47, .bool b48, .int .i64 n49]] w46) fun J37 w40 =>
 cs r31.2.1 (
 dr w40 fun w50 =>
 nn a0 fun b51 o52 =>
 ldS w50 b51 (o52 + 20) fun s53 =>
 ldI w50 .i64 b33 0 fun n54 =>
 nn a0 fun b55 o56 =>
 ixA b55 (o56 + 2) 17 n54 1 fun b57 o58 =>
 ldI w50 .i64 b57 o58 fun n59 =>
 al w50 3 [.int .i64 n59] fun b60 w61 =>
(w61.cell? ⟨b51, o52 + 20, none⟩ = some (vS s53)) ∧ (
 ef Pg (Builtin.append_ #[32, 32] 32 #[vS s53, vS ⟨some ⟨b60, 0, none⟩, 1, 1⟩]) [kS] w61 fun (r62 : Sl × Unit) w63 =>
 nn a0 fun b64 o65 =>
 st1 w63 b64 (o65 + 20) (vS r62.1) fun w66 =>
 ldI w66 .i64 b33 0 fun n67 =>
 st1 w66 b12 (0 + 2) (.int .i64 n67) fun w68 =>
 J37 () w68)) (
 J37 () w40)) (
 nn a0 fun b69 o70 =>
 ldP w2 b69 o70 fun p71 =>
 cl Pg 46 [.pointer p71] [.a [(.i .i64), (.i .i64)], kB] w2 fun (r72 : (Int × Int × Unit) × Bool × Unit) w73 =>
 al w73 98 [.int .i64 0, .int .i64 0] fun b74 w75 =>
 st1 w75 b74 0 (.int .i64 r72.1.1) fun w76 =>
 st1 w76 b74 (0 + 1) (.int .i64 r72.1.2.1) fun w77 =>
 cs r72.2.1 (
 dr w77 fun w78 =>
 ldI w78 .i64 b74 0 fun n79 =>
 nn a0 fun b80 o81 =>
 ixA b80 (o81 + 2) 17 n79 1 fun b82 o83 =>
 ldI w78 .i64 b82 o83 fun n84 =>
 ldI w78 .i64 b74 0 fun n85 =>
 st1 w78 b1 0 (.int .i64 n84) fun w86 =>
 st1 w86 b1 (0 + 1) (.bool true) fun w87 =>
 st1 w87 b1 (0 + 2) (.int .i64 n85) fun w88 =>
 ldI w88 .i64 b1 0 fun n89 =>
 ldB w88 b1 (0 + 1) fun b90 =>
 ldI w88 .i64 b1 (0 + 2) fun n91 =>
 R [.agg #[.int .i64 n89, .bool b90, .int .i64 n91]] w88) (
 st1 w77 b1 0 (.int .i64 0) fun w92 =>
 st1 w92 b1 (0 + 1) (.bool false) fun w93 =>
 st1 w93 b1 (0 + 2) (.int .i64 0) fun w94 =>
 ldI w94 .i64 b1 0 fun n95 =>
 ldB w94 b1 (0 + 1) fun b96 =>
 ldI w94 .i64 b1 (0 + 2) fun n97 =>
 R [.agg #[.int .i64 n95, .bool b96, .int .i64 n97]] w94))
theorem tie28 (a0 : Option Addr) (R : List Value → World → Prop) (w : World) : compF Pg Try.f28 ⟨[(1, ⟨[], [40, 41, 42, 43, 44, 45, 46, 47, 48, 49, 50, 51, 52, 53, 54, 55, 56, 57, 58]⟩)], [], [(6, .l [(0, []), (1, []), (2, []), (3, []), (4, []), (5, []), (6, []), (7, []), (8, []), (9, []), (10, []), (11, []), (12, [11, 10, 9, 7, 8, 6, 5]), (13, [4, 12, 3, 11, 2, 10, 1, 9, 7, 8, 6, 5]), (14, []), (15, []), (16, [15, 13, 0, 1, 2, 3, 4, 5, 6, 7, 8, 9, 10, 11, 12, 14])]), (11, .l [(0, []), (1, []), (2, []), (3, []), (4, []), (5, []), (6, []), (7, []), (8, []), (9, []), (10, [9, 0, 1, 2, 3, 4, 5, 6, 7, 8])])], []⟩ [.pointer a0] R w = sh28 a0 R w := by kernel_rfl
theorem call28 {a0 : Option Addr} {w : World} {K : TK [.a [(.i .i64), .b, (.i .i64)]] → World → Prop} (h : sh28 a0 (fun vs w' => ∃ t, encK [.a [(.i .i64), .b, (.i .i64)]] t = vs ∧ K t w') w) : cl Pg 28 [.pointer a0] [.a [(.i .i64), .b, (.i .i64)]] w K := cl_of Try.func28 (tie28 ..) h
/-- (*detent/detentref13.Queue).Recv -/
def sh26 (a0 : Option Addr) (a1 : Int) (a2 : Int) (R : List Value → World → Prop) (w : World) : Prop :=
 al w 58 [.int .i64 0, .bool false, .int .i64 0] fun b1 w2 =>
 cl Pg 28 [.pointer a0] [.a [(.i .i64), .b, (.i .i64)]] w2 fun (r3 : (Int × Bool × Int × Unit) × Unit) w4 =>
 al w4 58 [.int .i64 0, .bool false, .int .i64 0] fun b5 w6 =>
 st1 w6 b5 0 (.int .i64 r3.1.1) fun w7 =>
 st1 w7 b5 (0 + 1) (.bool r3.1.2.1) fun w8 =>
 st1 w8 b5 (0 + 2) (.int .i64 r3.1.2.2.1) fun w9 =>
 ldB w9 b5 (0 + 1) fun b10 =>
 cs b10 (
 ldI w9 .i64 b5 0 fun n11 =>
 ldB w9 b5 (0 + 1) fun b12 =>
 ldI w9 .i64 b5 (0 + 2) fun n13 =>
 st1 w9 b1 0 (.int .i64 n11) fun w14 =>
 st1 w14 b1 (0 + 1) (.bool b12) fun w15 =>
 st1 w15 b1 (0 + 2) (.int .i64 n13) fun w16 =>
 ldI w16 .i64 b1 0 fun n17 =>
 ldB w16 b1 (0 + 1) fun b18 =>
 ldI w16 .i64 b1 (0 + 2) fun n19 =>
 R [.agg #[.int .i64 n17, .bool b18, .int .i64 n19], .int .i64 0] w16) (
 cl Pg 43 [.int .i64 a1, .int .i64 a2] [kB] w9 fun (r20 : Bool × Unit) w21 =>
 cs (!r20.1) (
 ldI w21 .i64 b5 0 fun n22 =>
 ldB w21 b5 (0 + 1) fun b23 =>
 ldI w21 .i64 b5 (0 + 2) fun n24 =>
 st1 w21 b1 0 (.int .i64 n22) fun w25 =>
 st1 w25 b1 (0 + 1) (.bool b23) fun w26 =>
 st1 w26 b1 (0 + 2) (.int .i64 n24) fun w27 =>
 ldI w27 .i64 b1 0 fun n28 =>
 ldB w27 b1 (0 + 1) fun b29 =>
 ldI w27 .i64 b1 (0 + 2) fun n30 =>
 R [.agg #[.int .i64 n28, .bool b29, .int .i64 n30], .int .i64 (-17)] w27) (
 nn a0 fun b31 o32 =>
 ldP w21 b31 o32 fun p33 =>
 cl Pg 44 [.pointer p33, .int .i64 a1] [kI] w21 fun (r34 : Int × Unit) w35 =>
 cs (decide ((r34.1 : Int) ≥ (0 : Int))) (
 ldI w35 .i64 b5 0 fun n36 =>
 ldB w35 b5 (0 + 1) fun b37 =>
 ldI w35 .i64 b5 (0 + 2) fun n38 =>
 st1 w35 b1 0 (.int .i64 n36) fun w39 =>
 st1 w39 b1 (0 + 1) (.bool b37) fun w40 =>
 st1 w40 b1 (0 + 2) (.int .i64 n38) fun w41 =>
 ldI w41 .i64 b1 0 fun n42 =>
 ldB w41 b1 (0 + 1) fun b43 =>
 ldI w41 .i64 b1 (0 + 2) fun n44 =>
 R [.agg #[.int .i64 n42, .bool b43, .int .i64 n44], .int .i64 (-41)] w41) (
 dr w35 fun w45 =>
 ldI w45 .i64 b5 0 fun n46 =>
 ldB w45 b5 (0 + 1) fun b47 =>
 ldI w45 .i64 b5 (0 + 2) fun n48 =>
 nn a0 fun b49 o50 =>
 ldP w45 b49 (o50 + 1) fun p51 =>
 cl Pg 45 [.pointer p51, .int .i64 a1, .int .i64 a2] [kI] w45 fun (r52 : Int × Unit) w53 =>
(w53.cell? ⟨b5, 0, none⟩ = some (.int .i64 n46) ∧ w53.cell? ⟨b5, 0 + 1, none⟩ = some (.bool b47) ∧ w53.cell? ⟨b5, 0 + 2, none⟩ = some (.int .i64 n48)) ∧ (
 st1 w53 b1 0 (.int .i64 n46) fun w54 =>
 st1 w54 b1 (0 + 1) (.bool b47) fun w55 =>
 st1 w55 b1 (0 + 2) (.int .i64 n48) fun w56 =>
 ldI w56 .i64 b1 0 fun n57 =>
 ldB w56 b1 (0 + 1) fun b58 =>
 ldI w56 .i64 b1 (0 + 2) fun n59 =>
 R [.agg #[.int .i64 n57, .bool b58, .int .i64 n59], .int .i64 r52.1] w56))))
theorem tie26 (a0 : Option Addr) (a1 : Int) (a2 : Int) (R : List Value → World → Prop) (w : World) : compF Pg Try.f26 ⟨[], [], [(8, .l [(0, []), (1, []), (2, []), (3, []), (4, []), (5, []), (6, []), (7, [4, 5, 6, 3, 2, 1]), (8, [0, 7, 4, 5, 6, 3, 2, 1]), (9, [])])], []⟩ [.pointer a0, .int .i64 a1, .int .i64 a2] R w = sh26 a0 a1 a2 R w := by kernel_rfl
theorem call26 {a0 : Option Addr} {a1 : Int} {a2 : Int} {w : World} {K : TK [.a [(.i .i64), .b, (.i .i64)], kI] → World → Prop} (h : sh26 a0 a1 a2 (fun vs w' => ∃ t, encK [.a [(.i .i64), .b, (.i .i64)], kI] t = vs ∧ K t w') w) : cl Pg 26 [.pointer a0, .int .i64 a1, .int .i64 a2] [.a [(.i .i64), .b, (.i .i64)], kI] w K := cl_of Try.func26 (tie26 ..) h
/-- detent/detentlaw13.got -/
def sh27 (a0 : (Int × Bool × Int × Unit)) (a1 : (Int × Bool × Int × Unit)) (R : List Value → World → Prop) (w : World) : Prop :=
 al w 34 [.int .i64 a0.1, .bool a0.2.1, .int .i64 a0.2.2.1] fun b1 w2 =>
 al w2 58 [.int .i64 a1.1, .bool a1.2.1, .int .i64 a1.2.2.1] fun b3 w4 =>
 ldI w4 .i64 b1 0 fun n5 =>
 ldI w4 .i64 b3 0 fun n6 =>
 jn [kB] w4 (fun (t8 : Bool × Unit) w9 =>
 jn [kB] w9 (fun (t12 : Bool × Unit) w13 =>
 R [.bool t12.1] w13) fun J11 w14 =>
 cs t8.1 (
 ldI w14 .i64 b1 (0 + 2) fun n15 =>
 ldI w14 .i64 b3 (0 + 2) fun n16 =>
 J11 ((n15 : Int) == (n16 : Int), ()) w14) (
 J11 (false, ()) w14)) fun J7 w10 =>
 cs ((n5 : Int) == (n6 : Int)) (
 ldB w10 b1 (0 + 1) fun b17 =>
 ldB w10 b3 (0 + 1) fun b18 =>
 J7 (b17 == b18, ()) w10) (
 J7 (false, ()) w10)
theorem tie27 (a0 : (Int × Bool × Int × Unit)) (a1 : (Int × Bool × Int × Unit)) (R : List Value → World → Prop) (w : World) : compF Pg Try.f27 ⟨[], [], [], [(1, [(6, 6, ⟨[(16, kB)], [11, 12, 13, 14, 15]⟩), (13, 6, ⟨[(23, kB)], [18, 19, 20, 21, 22]⟩)])]⟩ [.agg #[.int .i64 a0.1, .bool a0.2.1, .int .i64 a0.2.2.1], .agg #[.int .i64 a1.1, .bool a1.2.1, .int .i64 a1.2.2.1]] R w = sh27 a0 a1 R w := by kernel_rfl
theorem call27 {a0 : (Int × Bool × Int × Unit)} {a1 : (Int × Bool × Int × Unit)} {w : World} {K : TK [kB] → World → Prop} (h : sh27 a0 a1 (fun vs w' => ∃ t, encK [kB] t = vs ∧ K t w') w) : cl Pg 27 [.agg #[.int .i64 a0.1, .bool a0.2.1, .int .i64 a0.2.2.1], .agg #[.int .i64 a1.1, .bool a1.2.1, .int .i64 a1.2.2.1]] [kB] w K := cl_of Try.func27 (tie27 ..) h
/-- (*detent/detentref4.Queue).Remove -/
def sh47 (a0 : Option Addr) (a1 : Int) (R : List Value → World → Prop) (w : World) : Prop :=
 cl Pg 44 [.pointer a0, .int .i64 a1] [kI] w fun (r1 : Int × Unit) w2 =>
 cs (decide ((r1.1 : Int) < (0 : Int))) (
 R [.bool false] w2) (
 al w2 98 [] fun b3 w4 =>
 nn a0 fun b5 o6 =>
 ldS w4 b5 (o6 + 1) fun s7 =>
 sb s7 0 r1.1 s7.cap 2 fun s8 =>
 ef Pg (Builtin.append_ #[90, 90] 90 #[vS ⟨some ⟨b3, 0, none⟩, 0, 0⟩, vS s8]) [kS] w4 fun (r9 : Sl × Unit) w10 =>
 nn a0 fun b11 o12 =>
 ldS w10 b11 (o12 + 1) fun s13 =>
 sb s13 (w64 (r1.1 + 1)) s13.len s13.cap 2 fun s14 =>
 ef Pg (Builtin.append_ #[90, 90] 90 #[vS r9.1, vS s14]) [kS] w10 fun (r15 : Sl × Unit) w16 =>
 nn a0 fun b17 o18 =>
 st1 w16 b17 (o18 + 1) (vS r15.1) fun w19 =>
 R [.bool true] w19)
theorem tie47 (a0 : Option Addr) (a1 : Int) (R : List Value → World → Prop) (w : World) : compF Pg Try.f47 ⟨[], [], [], []⟩ [.pointer a0, .int .i64 a1] R w = sh47 a0 a1 R w := by kernel_rfl
theorem call47 {a0 : Option Addr} {a1 : Int} {w : World} {K : TK [kB] → World → Prop} (h : sh47 a0 a1 (fun vs w' => ∃ t, encK [kB] t = vs ∧ K t w') w) : cl Pg 47 [.pointer a0, .int .i64 a1] [kB] w K := cl_of Try.func47 (tie47 ..) h
/-- (*detent/detentref13.Queue).Drop -/
def sh29 (a0 : Option Addr) (a1 : Int) (R : List Value → World → Prop) (w : World) : Prop :=
 nn a0 fun b1 o2 =>
 ldP w b1 o2 fun p3 =>
 cl Pg 47 [.pointer p3, .int .i64 a1] [kB] w fun (r4 : Bool × Unit) w5 =>
 jn [kB] w5 (fun (t7 : Bool × Unit) w8 =>
 R [.bool t7.1] w8) fun J6 w9 =>
 cs r4.1 (
 J6 (true, ()) w9) (
 nn a0 fun b10 o11 =>
 ldP w9 b10 (o11 + 1) fun p12 =>
 cl Pg 47 [.pointer p12, .int .i64 a1] [kB] w9 fun (r13 : Bool × Unit) w14 =>
 J6 (r13.1, ()) w14)
theorem tie29 (a0 : Option Addr) (a1 : Int) (R : List Value → World → Prop) (w : World) : compF Pg Try.f29 ⟨[], [], [], [(1, [(7, 7, ⟨[(18, kB)], [12, 13, 14, 15, 16, 17]⟩)])]⟩ [.pointer a0, .int .i64 a1] R w = sh29 a0 a1 R w := by kernel_rfl
theorem call29 {a0 : Option Addr} {a1 : Int} {w : World} {K : TK [kB] → World → Prop} (h : sh29 a0 a1 (fun vs w' => ∃ t, encK [kB] t = vs ∧ K t w') w) : cl Pg 29 [.pointer a0, .int .i64 a1] [kB] w K := cl_of Try.func29 (tie29 ..) h
/-- (*detent/order.Queue).Change -/
def sh48 (a0 : Option Addr) (a1 : Int) (a2 : Int) (R : List Value → World → Prop) (w : World) : Prop :=
 nn a0 fun b1 o2 =>
 cl Pg 54 [.pointer (some ⟨b1, o2, none⟩), .int .i64 a1] [kI] w fun (r3 : Int × Unit) w4 =>
 jn [kB] w4 (fun (t6 : Bool × Unit) w7 =>
 cs t6.1 (
 R [.bool false] w7) (
 nn a0 fun b9 o10 =>
 ldB w7 b9 (o10 + 1) fun b11 =>
 cs (!b11) (
 nn a0 fun b12 o13 =>
 ldS w7 b12 o13 fun s14 =>
 ix s14 r3.1 2 fun b15 o16 =>
 st1 w7 b15 (o16 + 1) (.int .i64 a2) fun w17 =>
 R [.bool true] w17) (
 nn a0 fun b18 o19 =>
 cl Pg 38 [.pointer (some ⟨b18, o19, none⟩), .int .i64 a1] [kB] w7 fun (r20 : Bool × Unit) w21 =>
 cl Pg 56 [.pointer a0, .agg #[.int .i64 a1, .int .i64 a2]] [] w21 fun (r22 : Unit) w23 =>
 R [.bool true] w23))) fun J5 w8 =>
 cs (decide ((r3.1 : Int) < (0 : Int))) (
 J5 (true, ()) w8) (
 cl Pg 55 [.int .i64 a2] [kB] w8 fun (r24 : Bool × Unit) w25 =>
 J5 (!r24.1, ()) w25)
theorem tie48 (a0 : Option Addr) (a1 : Int) (a2 : Int) (R : List Value → World → Prop) (w : World) : compF Pg Try.f48 ⟨[], [], [], [(2, [(3, 4, ⟨[(19, kB)], [16, 17, 18]⟩)])]⟩ [.pointer a0, .int .i64 a1, .int .i64 a2] R w = sh48 a0 a1 a2 R w := by kernel_rfl
theorem call48 {a0 : Option Addr} {a1 : Int} {a2 : Int} {w : World} {K : TK [kB] → World → Prop} (h : sh48 a0 a1 a2 (fun vs w' => ∃ t, encK [kB] t = vs ∧ K t w') w) : cl Pg 48 [.pointer a0, .int .i64 a1, .int .i64 a2] [kB] w K := cl_of Try.func48 (tie48 ..) h
/-- (*detent/dtq.Queue).Change -/
def sh30 (a0 : Option Addr) (a1 : Int) (a2 : Int) (R : List Value → World → Prop) (w : World) : Prop :=
 nn a0 fun b1 o2 =>
 ldP w b1 o2 fun p3 =>
 cl Pg 48 [.pointer p3, .int .i64 a1, .int .i64 a2] [kB] w fun (r4 : Bool × Unit) w5 =>
 jn [kB] w5 (fun (t7 : Bool × Unit) w8 =>
 R [.bool t7.1] w8) fun J6 w9 =>
 cs r4.1 (
 J6 (true, ()) w9) (
 nn a0 fun b10 o11 =>
 ldP w9 b10 (o11 + 1) fun p12 =>
 cl Pg 48 [.pointer p12, .int .i64 a1, .int .i64 a2] [kB] w9 fun (r13 : Bool × Unit) w14 =>
 J6 (r13.1, ()) w14)
theorem tie30 (a0 : Option Addr) (a1 : Int) (a2 : Int) (R : List Value → World → Prop) (w : World) : compF Pg Try.f30 ⟨[], [], [], [(1, [(9, 9, ⟨[(24, kB)], [16, 17, 18, 19, 20, 21, 22, 23]⟩)])]⟩ [.pointer a0, .int .i64 a1, .int .i64 a2] R w = sh30 a0 a1 a2 R w := by kernel_rfl
theorem call30 {a0 : Option Addr} {a1 : Int} {a2 : Int} {w : World} {K : TK [kB] → World → Prop} (h : sh30 a0 a1 a2 (fun vs w' => ∃ t, encK [kB] t = vs ∧ K t w') w) : cl Pg 30 [.pointer a0, .int .i64 a1, .int .i64 a2] [kB] w K := cl_of Try.func30 (tie30 ..) h
/-- (*detent/detentref4.Queue).Change -/
def sh49 (a0 : Option Addr) (a1 : Int) (a2 : Int) (R : List Value → World → Prop) (w : World) : Prop :=
 cl Pg 44 [.pointer a0, .int .i64 a1] [kI] w fun (r1 : Int × Unit) w2 =>
 jn [kB] w2 (fun (t4 : Bool × Unit) w5 =>
 jn [kB] w5 (fun (t8 : Bool × Unit) w9 =>
 cs t8.1 (
 R [.bool false] w9) (
 nn a0 fun b11 o12 =>
 ldB w9 b11 o12 fun b13 =>
 cs b13 (
 cl Pg 47 [.pointer a0, .int .i64 a1] [kB] w9 fun (r14 : Bool × Unit) w15 =>
 cl Pg 59 [.pointer a0, .agg #[.int .i64 a1, .int .i64 a2]] [] w15 fun (r16 : Unit) w17 =>
 R [.bool true] w17) (
 al w9 98 [] fun b18 w19 =>
 nn a0 fun b20 o21 =>
 ldS w19 b20 (o21 + 1) fun s22 =>
 ef Pg (Builtin.append_ #[90, 90] 90 #[vS ⟨some ⟨b18, 0, none⟩, 0, 0⟩, vS s22]) [kS] w19 fun (r23 : Sl × Unit) w24 =>
 nn a0 fun b25 o26 =>
 st1 w24 b25 (o26 + 1) (vS r23.1) fun w27 =>
 nn a0 fun b28 o29 =>
 ldS w27 b28 (o29 + 1) fun s30 =>
 ix s30 r1.1 2 fun b31 o32 =>
 st1 w27 b31 (o32 + 1) (.int .i64 a2) fun w33 =>
 R [.bool true] w33))) fun J7 w10 =>
 cs t4.1 (
 J7 (true, ()) w10) (
 J7 (decide ((a2 : Int) > (16 : Int)), ()) w10)) fun J3 w6 =>
 cs (decide ((r1.1 : Int) < (0 : Int))) (
 J3 (true, ()) w6) (
 J3 (decide ((a2 : Int) < (1 : Int)), ()) w6)
theorem tie49 (a0 : Option Addr) (a1 : Int) (a2 : Int) (R : List Value → World → Prop) (w : World) : compF Pg Try.f49 ⟨[], [], [], [(2, [(3, 3, ⟨[(16, kB)], [14, 15]⟩), (7, 3, ⟨[(20, kB)], [18, 19]⟩)])]⟩ [.pointer a0, .int .i64 a1, .int .i64 a2] R w = sh49 a0 a1 a2 R w := by kernel_rfl
theorem call49 {a0 : Option Addr} {a1 : Int} {a2 : Int} {w : World} {K : TK [kB] → World → Prop} (h : sh49 a0 a1 a2 (fun vs w' => ∃ t, encK [kB] t = vs ∧ K t w') w) : cl Pg 49 [.pointer a0, .int .i64 a1, .int .i64 a2] [kB] w K := cl_of Try.func49 (tie49 ..) h
/-- (*detent/detentref13.Queue).Change -/
def sh31 (a0 : Option Addr) (a1 : Int) (a2 : Int) (R : List Value → World → Prop) (w : World) : Prop :=
 nn a0 fun b1 o2 =>
 ldP w b1 o2 fun p3 =>
 cl Pg 49 [.pointer p3, .int .i64 a1, .int .i64 a2] [kB] w fun (r4 : Bool × Unit) w5 =>
 jn [kB] w5 (fun (t7 : Bool × Unit) w8 =>
 R [.bool t7.1] w8) fun J6 w9 =>
 cs r4.1 (
 J6 (true, ()) w9) (
 nn a0 fun b10 o11 =>
 ldP w9 b10 (o11 + 1) fun p12 =>
 cl Pg 49 [.pointer p12, .int .i64 a1, .int .i64 a2] [kB] w9 fun (r13 : Bool × Unit) w14 =>
 J6 (r13.1, ()) w14)
theorem tie31 (a0 : Option Addr) (a1 : Int) (a2 : Int) (R : List Value → World → Prop) (w : World) : compF Pg Try.f31 ⟨[], [], [], [(1, [(8, 8, ⟨[(22, kB)], [15, 16, 17, 18, 19, 20, 21]⟩)])]⟩ [.pointer a0, .int .i64 a1, .int .i64 a2] R w = sh31 a0 a1 a2 R w := by kernel_rfl
theorem call31 {a0 : Option Addr} {a1 : Int} {a2 : Int} {w : World} {K : TK [kB] → World → Prop} (h : sh31 a0 a1 a2 (fun vs w' => ∃ t, encK [kB] t = vs ∧ K t w') w) : cl Pg 31 [.pointer a0, .int .i64 a1, .int .i64 a2] [kB] w K := cl_of Try.func31 (tie31 ..) h
/-- (*detent/order.Queue).Twin -/
def sh50 (a0 : Option Addr) (R : List Value → World → Prop) (w : World) : Prop :=
 dr w fun w1 =>
 nn a0 fun b2 o3 =>
 ldS w1 b2 o3 fun s4 =>
 nn a0 fun b5 o6 =>
 ldB w1 b5 (o6 + 1) fun b7 =>
 cl Pg 60 [vS s4] [kS] w1 fun (r8 : Sl × Unit) w9 =>
(w9.cell? ⟨b5, o6 + 1, none⟩ = some (.bool b7)) ∧ (
 al w9 83 [vS r8.1, .bool b7] fun b10 w11 =>
 R [.pointer (some ⟨b10, 0, none⟩)] w11)
theorem tie50 (a0 : Option Addr) (R : List Value → World → Prop) (w : World) : compF Pg Try.f50 ⟨[], [], [(1, .l [(0, []), (1, []), (2, []), (3, []), (4, []), (7, []), (8, []), (9, []), (10, []), (5, [4, 3, 2, 1, 0]), (6, []), (11, []), (12, [11, 6, 10, 5, 9, 4, 8, 3, 7, 2, 1, 0]), (13, [])])], []⟩ [.pointer a0] R w = sh50 a0 R w := by kernel_rfl
theorem call50 {a0 : Option Addr} {w : World} {K : TK [kP] → World → Prop} (h : sh50 a0 (fun vs w' => ∃ t, encK [kP] t = vs ∧ K t w') w) : cl Pg 50 [.pointer a0] [kP] w K := cl_of Try.func50 (tie50 ..) h
/-- maps.Clone[map[int]int,int,int] -/
def sh51 (a0 : Option Nat) (R : List Value → World → Prop) (w : World) : Prop :=
 cs a0.isNone (
 R [.map none] w) (
 xt Pg 61 [.iface 72 (.map a0)] [.l .n] w fun (r1 : Iv × Unit) w2 =>
 ef Pg (Instr.typeAssert (.iface r1.1.t r1.1.v) 20 72 false) [kM] w2 fun (r3 : Option Nat × Unit) w4 =>
 R [.map r3.1] w4)
theorem tie51 (a0 : Option Nat) (R : List Value → World → Prop) (w : World) : compF Pg Try.f51 ⟨[], [], [], []⟩ [.map a0] R w = sh51 a0 R w := by kernel_rfl
theorem call51 {a0 : Option Nat} {w : World} {K : TK [kM] → World → Prop} (h : sh51 a0 (fun vs w' => ∃ t, encK [kM] t = vs ∧ K t w') w) : cl Pg 51 [.map a0] [kM] w K := cl_of Try.func51 (tie51 ..) h
/-- (*detent/dtq.Queue).Twin -/
def sh32 (a0 : Option Addr) (R : List Value → World → Prop) (w : World) : Prop :=
 dr w fun w1 =>
 nn a0 fun b2 o3 =>
 ldP w1 b2 o3 fun p4 =>
 nn a0 fun b5 o6 =>
 ldP w1 b5 (o6 + 1) fun p7 =>
 nn a0 fun b8 o9 =>
 ldI w1 .i64 b8 (o9 + 2) fun n10 =>
 nn a0 fun b11 o12 =>
 ldS w1 b11 (o12 + 3) fun s13 =>
 nn a0 fun b14 o15 =>
 ldM w1 b14 (o15 + 4) fun m16 =>
 cl Pg 50 [.pointer p4] [kP] w1 fun (r17 : Option Addr × Unit) w18 =>
(w18.cell? ⟨b14, o15 + 4, none⟩ = some (.map m16)) ∧ (
(w18.cell? ⟨b11, o12 + 3, none⟩ = some (vS s13)) ∧ (
(w18.cell? ⟨b8, o9 + 2, none⟩ = some (.int .i64 n10)) ∧ (
(w18.cell? ⟨b5, o6 + 1, none⟩ = some (.pointer p7)) ∧ (
 cl Pg 50 [.pointer p7] [kP] w18 fun (r19 : Option Addr × Unit) w20 =>
(w20.cell? ⟨b14, o15 + 4, none⟩ = some (.map m16)) ∧ (
(w20.cell? ⟨b11, o12 + 3, none⟩ = some (vS s13)) ∧ (
(w20.cell? ⟨b8, o9 + 2, none⟩ = some (.int .i64 n10)) ∧ (
 cl Pg 40 [vS s13] [kS] w20 fun (r21 : Sl × Unit) w22 =>
(w22.cell? ⟨b14, o15 + 4, none⟩ = some (.map m16)) ∧ (
(w22.cell? ⟨b8, o9 + 2, none⟩ = some (.int .i64 n10)) ∧ (
 cl Pg 51 [.map m16] [kM] w22 fun (r23 : Option Nat × Unit) w24 =>
(w24.cell? ⟨b8, o9 + 2, none⟩ = some (.int .i64 n10)) ∧ (
 al w24 74 [.pointer r17.1, .pointer r19.1, .int .i64 n10, vS r21.1, .map r23.1] fun b25 w26 =>
 R [.pointer (some ⟨b25, 0, none⟩)] w26))))))))))
theorem tie32 (a0 : Option Addr) (R : List Value → World → Prop) (w : World) : compF Pg Try.f32 ⟨[], [], [(1, .l [(0, []), (1, []), (2, []), (3, []), (4, []), (7, []), (8, []), (9, []), (10, []), (11, []), (14, []), (15, []), (16, []), (17, []), (18, []), (19, []), (20, []), (21, []), (23, []), (24, []), (25, []), (26, []), (5, [4, 3, 2, 1, 0]), (6, []), (12, [11, 5, 10, 4, 9, 3, 8, 2, 7, 1, 0]), (13, []), (22, [21, 12, 20, 11, 5, 19, 10, 4, 18, 9, 3, 8, 2, 7, 1, 0]), (27, [26, 22, 25, 21, 12, 24, 20, 11, 5, 23, 19, 10, 4, 18, 9, 3, 8, 2, 7, 1, 0]), (28, []), (29, [28, 6, 13, 17, 22, 27, 5, 12, 16, 21, 26, 4, 11, 15, 20, 25, 3, 10, 14, 19, 24, 2, 9, 18, 23, 1, 8, 0, 7]), (30, [])])], []⟩ [.pointer a0] R w = sh32 a0 R w := by kernel_rfl
theorem call32 {a0 : Option Addr} {w : World} {K : TK [kP] → World → Prop} (h : sh32 a0 (fun vs w' => ∃ t, encK [kP] t = vs ∧ K t w') w) : cl Pg 32 [.pointer a0] [kP] w K := cl_of Try.func32 (tie32 ..) h
/-- (*detent/detentref4.Queue).IDs -/
def sh52 (a0 : Option Addr) (R : List Value → World → Prop) (w : World) : Prop :=
 lp [kS, kI] w (⟨none, 0, 0⟩, (0 : Int), ()) fun (t1 : Sl × Int × Unit) J2 w3 =>
 nn a0 fun b4 o5 =>
 ldS w3 b4 (o5 + 1) fun s6 =>
 cs (decide ((t1.2.1 : Int) < ((s6.len : Int) : Int))) (
 nn a0 fun b7 o8 =>
 ldS w3 b7 (o8 + 1) fun s9 =>
 ix s9 t1.2.1 2 fun b10 o11 =>
 ldI w3 .i64 b10 o11 fun n12 =>
 al w3 3 [.int .i64 n12] fun b13 w14 =>
 ef Pg (Builtin.append_ #[32, 32] 32 #[vS t1.1, vS ⟨some ⟨b13, 0, none⟩, 1, 1⟩]) [kS] w14 fun (r15 : Sl × Unit) w16 =>
 J2 (r15.1, w64 (t1.2.1 + 1), ()) w16) (
 R [vS t1.1] w3)
theorem tie52 (a0 : Option Addr) (R : List Value → World → Prop) (w : World) : compF Pg Try.f52 ⟨[(1, ⟨[(3, kS), (4, kI)], [5, 6, 7, 8, 9, 10, 11, 12, 13, 14, 15, 16, 17, 18, 19, 20, 21, 22, 23, 24]⟩)], [], [], []⟩ [.pointer a0] R w = sh52 a0 R w := by kernel_rfl
theorem call52 {a0 : Option Addr} {w : World} {K : TK [kS] → World → Prop} (h : sh52 a0 (fun vs w' => ∃ t, encK [kS] t = vs ∧ K t w') w) : cl Pg 52 [.pointer a0] [kS] w K := cl_of Try.func52 (tie52 ..) h
/-- detent/detentlaw13.same -/
def sh33 (a0 : Option Addr) (a1 : Option Addr) (R : List Value → World → Prop) (w : World) : Prop :=
 dr w fun w1 =>
 jn [kB] w1 (fun (t3 : Bool × Unit) w4 =>
 R [.bool t3.1] w4) fun J2 w5 =>
 nn a1 fun b6 o7 =>
 ldS w5 b6 (o7 + 20) fun s8 =>
 cl Pg 16 [.pointer a0] [kS] w5 fun (r9 : Sl × Unit) w10 =>
(w10.cell? ⟨b6, o7 + 20, none⟩ = some (vS s8)) ∧ (
 cl Pg 15 [vS r9.1, vS s8] [kB] w10 fun (r11 : Bool × Unit) w12 =>
 cs r11.1 (
 nn a1 fun b13 o14 =>
 ldP w12 b13 o14 fun p15 =>
 cl Pg 19 [.pointer a0] [kS] w12 fun (r16 : Sl × Unit) w17 =>
(w17.cell? ⟨b13, o14, none⟩ = some (.pointer p15)) ∧ (
 cl Pg 52 [.pointer p15] [kS] w17 fun (r18 : Sl × Unit) w19 =>
 cl Pg 15 [vS r16.1, vS r18.1] [kB] w19 fun (r20 : Bool × Unit) w21 =>
 cs r20.1 (
 nn a1 fun b22 o23 =>
 ldP w21 b22 (o23 + 1) fun p24 =>
 cl Pg 20 [.pointer a0] [kS] w21 fun (r25 : Sl × Unit) w26 =>
(w26.cell? ⟨b22, o23 + 1, none⟩ = some (.pointer p24)) ∧ (
 cl Pg 52 [.pointer p24] [kS] w26 fun (r27 : Sl × Unit) w28 =>
 cl Pg 15 [vS r25.1, vS r27.1] [kB] w28 fun (r29 : Bool × Unit) w30 =>
 J2 (r29.1, ()) w30)) (
 J2 (false, ()) w21))) (
 J2 (false, ()) w12))
theorem tie33 (a0 : Option Addr) (a1 : Option Addr) (R : List Value → World → Prop) (w : World) : compF Pg Try.f33 ⟨[], [(1, ⟨[(4, kB)], [5, 6, 7, 8, 9, 10, 11, 12, 13, 14, 15, 16, 17, 18, 19, 20, 21, 22, 23, 24, 25, 26, 27, 28, 29, 30, 31]⟩)], [(1, .l [(0, []), (2, []), (3, []), (4, []), (5, []), (1, [0]), (6, [1, 5, 0, 4, 3, 2]), (7, []), (8, []), (10, []), (11, []), (12, []), (13, []), (9, [8, 7, 6, 1, 5, 0, 4, 3, 2]), (14, [13, 9, 7, 12, 8, 6, 11, 1, 5, 10, 0, 4, 3, 2]), (15, [9, 14, 7, 8, 13, 6, 12, 1, 5, 11, 0, 4, 10, 3, 2]), (16, []), (17, []), (18, []), (20, []), (21, []), (22, []), (23, []), (19, [18, 17, 16, 15, 7, 9, 14, 6, 8, 13, 1, 5, 12, 0, 4, 11, 3, 10, 2]), (24, [23, 19, 17, 22, 18, 16, 15, 21, 7, 9, 14, 20, 6, 8, 13, 1, 5, 12, 0, 4, 11, 3, 10, 2]), (25, [19, 24, 17, 18, 23, 16, 15, 22, 7, 9, 14, 21, 6, 8, 13, 20, 1, 5, 12, 0, 4, 11, 3, 10, 2]), (26, []), (27, [])])], []⟩ [.pointer a0, .pointer a1] R w = sh33 a0 a1 R w := by kernel_rfl
theorem call33 {a0 : Option Addr} {a1 : Option Addr} {w : World} {K : TK [kB] → World → Prop} (h : sh33 a0 a1 (fun vs w' => ∃ t, encK [kB] t = vs ∧ K t w') w) : cl Pg 33 [.pointer a0, .pointer a1] [kB] w K := cl_of Try.func33 (tie33 ..) h
/-- detent/detentlaw13.DataPlays -/
def sh8 (a0 : Bool) (a1 : Int) (a2 : Sl) (R : List Value → World → Prop) (w : World) : Prop :=
 cl Pg 9 [] [kB] w fun (r1 : Bool × Unit) w2 =>
 cs (!r1.1) (
 R [.bool false] w2) (
 cs (decide (((a2.len : Int) : Int) > (100 : Int))) (
 R [.bool true] w2) (
 cl Pg 10 [.bool a0, .int .i64 a1] [kP, kI] w2 fun (r3 : Option Addr × Int × Unit) w4 =>
 cl Pg 22 [.bool a0, .int .i64 a1] [kP, kI] w4 fun (r5 : Option Addr × Int × Unit) w6 =>
 jn [kB] w6 (fun (t8 : Bool × Unit) w9 =>
 cs t8.1 (
 R [.bool false] w9) (
 cs r5.1.isNone (
 R [.bool true] w9) (
 lp [kP, kI] w9 (r3.1, (0 : Int), ()) fun (t11 : Option Addr × Int × Unit) J12 w13 =>
 cs (decide ((t11.2.1 : Int) < ((a2.len : Int) : Int))) (
 ix a2 t11.2.1 4 fun b14 o15 =>
 ldI w13 .i64 b14 o15 fun n16 =>
 ldI w13 .i64 b14 (o15 + 1) fun n17 =>
 ldI w13 .i64 b14 (o15 + 2) fun n18 =>
 ldI w13 .i64 b14 (o15 + 3) fun n19 =>
 al w13 53 [.int .i64 0, .int .i64 0, .int .i64 0, .int .i64 0] fun b20 w21 =>
 st1 w21 b20 0 (.int .i64 n16) fun w22 =>
 st1 w22 b20 (0 + 1) (.int .i64 n17) fun w23 =>
 st1 w23 b20 (0 + 2) (.int .i64 n18) fun w24 =>
 st1 w24 b20 (0 + 3) (.int .i64 n19) fun w25 =>
 ldI w25 .i64 b20 0 fun n26 =>
 jn [kP] w25 (fun (t28 : Option Addr × Unit) w29 =>
 cl Pg 33 [.pointer t28.1, .pointer r5.1] [kB] w29 fun (r31 : Bool × Unit) w32 =>
 cs (!r31.1) (
 R [.bool false] w32) (
 J12 (t28.1, w64 (t11.2.1 + 1), ()) w32)) fun J27 w30 =>
 cs ((n26 : Int) == (1 : Int)) (
 ldI w30 .i64 b20 (0 + 1) fun n33 =>
 ldI w30 .i64 b20 (0 + 2) fun n34 =>
 ldI w30 .i64 b20 (0 + 3) fun n35 =>
 cl Pg 12 [.pointer t11.1, .int .i64 n33, .int .i64 n34, .int .i64 n35] [kB, kI, kI] w30 fun (r36 : Bool × Int × Int × Unit) w37 =>
 ldI w37 .i64 b20 (0 + 1) fun n38 =>
 ldI w37 .i64 b20 (0 + 2) fun n39 =>
 ldI w37 .i64 b20 (0 + 3) fun n40 =>
 cl Pg 23 [.pointer r5.1, .int .i64 n38, .int .i64 n39, .int .i64 n40] [kB, kI, kI] w37 fun (r41 : Bool × Int × Int × Unit) w42 =>
 jn [kB] w42 (fun (t44 : Bool × Unit) w45 =>
 jn [kB] w45 (fun (t48 : Bool × Unit) w49 =>
 cs t48.1 (
 R [.bool false] w49) (
 J27 (t11.1, ()) w49)) fun J47 w50 =>
 cs t44.1 (
 J47 (true, ()) w50) (
 J47 ((r36.2.2.1 : Int) != (r41.2.2.1 : Int), ()) w50)) fun J43 w46 =>
 cs (!(r36.1 == r41.1)) (
 J43 (true, ()) w46) (
 J43 ((r36.2.1 : Int) != (r41.2.1 : Int), ()) w46)) (
 jn [kP] w30 (fun (t52 : Option Addr × Unit) w53 =>
 J27 (t52.1, ()) w53) fun J51 w54 =>
 cs ((n26 : Int) == (2 : Int)) (
 ldI w54 .i64 b20 (0 + 3) fun n55 =>
 cl Pg 11 [.pointer t11.1, .int .i64 n55] [kB, kI] w54 fun (r56 : Bool × Int × Unit) w57 =>
 ldI w57 .i64 b20 (0 + 3) fun n58 =>
 cl Pg 24 [.pointer r5.1, .int .i64 n58] [kB, kI] w57 fun (r59 : Bool × Int × Unit) w60 =>
 jn [kB] w60 (fun (t62 : Bool × Unit) w63 =>
 cs t62.1 (
 R [.bool false] w63) (
 J51 (t11.1, ()) w63)) fun J61 w65 =>
 cs (!(r56.1 == r59.1)) (
 J61 (true, ()) w65) (
 J61 ((r56.2.1 : Int) != (r59.2.1 : Int), ()) w65)) (
 jn [kP] w54 (fun (t67 : Option Addr × Unit) w68 =>
 J51 (t67.1, ()) w68) fun J66 w69 =>
 cs ((n26 : Int) == (3 : Int)) (
 ldI w69 .i64 b20 (0 + 3) fun n70 =>
 cl Pg 21 [.pointer t11.1, .int .i64 n70] [kI, kI] w69 fun (r71 : Int × Int × Unit) w72 =>
 ldI w72 .i64 b20 (0 + 3) fun n73 =>
 cl Pg 25 [.pointer r5.1, .int .i64 n73] [kI, kI] w72 fun (r74 : Int × Int × Unit) w75 =>
 jn [kB] w75 (fun (t77 : Bool × Unit) w78 =>
 cs t77.1 (
 R [.bool false] w78) (
 J66 (t11.1, ()) w78)) fun J76 w79 =>
 cs ((r71.1 : Int) != (r74.1 : Int)) (
 J76 (true, ()) w79) (
 J76 ((r71.2.1 : Int) != (r74.2.1 : Int), ()) w79)) (
 jn [kP] w69 (fun (t81 : Option Addr × Unit) w82 =>
 J66 (t81.1, ()) w82) fun J80 w83 =>
 cs ((n26 : Int) == (4 : Int)) (
 ldI w83 .i64 b20 (0 + 1) fun n84 =>
 ldI w83 .i64 b20 (0 + 2) fun n85 =>
 cl Pg 18 [.pointer t11.1, .int .i64 n84, .int .i64 n85] [.a [(.i .i64), .b, (.i .i64)], kI] w83 fun (r86 : (Int × Bool × Int × Unit) × Int × Unit) w87 =>
 al w87 34 [.int .i64 0, .bool false, .int .i64 0] fun b88 w89 =>
 st1 w89 b88 0 (.int .i64 r86.1.1) fun w90 =>
 st1 w90 b88 (0 + 1) (.bool r86.1.2.1) fun w91 =>
 st1 w91 b88 (0 + 2) (.int .i64 r86.1.2.2.1) fun w92 =>
 ldI w92 .i64 b20 (0 + 1) fun n93 =>
 ldI w92 .i64 b20 (0 + 2) fun n94 =>
 cl Pg 26 [.pointer r5.1, .int .i64 n93, .int .i64 n94] [.a [(.i .i64), .b, (.i .i64)], kI] w92 fun (r95 : (Int × Bool × Int × Unit) × Int × Unit) w96 =>
 al w96 58 [.int .i64 0, .bool false, .int .i64 0] fun b97 w98 =>
 st1 w98 b97 0 (.int .i64 r95.1.1) fun w99 =>
 st1 w99 b97 (0 + 1) (.bool r95.1.2.1) fun w100 =>
 st1 w100 b97 (0 + 2) (.int .i64 r95.1.2.2.1) fun w101 =>
 ldI w101 .i64 b88 0 fun n102 =>
 ldB w101 b88 (0 + 1) fun b103 =>
 ldI w101 .i64 b88 (0 + 2) fun n104 =>
 ldI w101 .i64 b97 0 fun n105 =>
 ldB w101 b97 (0 + 1) fun b106 =>
 ldI w101 .i64 b97 (0 + 2) fun n107 =>
 cl Pg 27 [.agg #[.int .i64 n102, .bool b103, .int .i64 n104], .agg #[.int .i64 n105, .bool b106, .int .i64 n107]] [kB] w101 fun (r108 : Bool × Unit) w109 =>
 jn [kB] w109 (fun (t111 : Bool × Unit) w112 =>
 cs t111.1 (
 R [.bool false] w112) (
 J80 (t11.1, ()) w112)) fun J110 w113 =>
 cs (!r108.1) (
 J110 (true, ()) w113) (
 J110 ((r86.2.1 : Int) != (r95.2.1 : Int), ()) w113)) (
 jn [kP] w83 (fun (t115 : Option Addr × Unit) w116 =>
 J80 (t115.1, ()) w116) fun J114 w117 =>
 cs ((n26 : Int) == (5 : Int)) (
 cl Pg 14 [.pointer t11.1] [.a [(.i .i64), .b, (.i .i64)]] w117 fun (r118 : (Int × Bool × Int × Unit) × Unit) w119 =>
 cl Pg 28 [.pointer r5.1] [.a [(.i .i64), .b, (.i .i64)]] w119 fun (r120 : (Int × Bool × Int × Unit) × Unit) w121 =>
 cl Pg 27 [.agg #[.int .i64 r118.1.1, .bool r118.1.2.1, .int .i64 r118.1.2.2.1], .agg #[.int .i64 r120.1.1, .bool r120.1.2.1, .int .i64 r120.1.2.2.1]] [kB] w121 fun (r122 : Bool × Unit) w123 =>
 cs (!r122.1) (
 R [.bool false] w123) (
 J114 (t11.1, ()) w123)) (
 jn [kP] w117 (fun (t125 : Option Addr × Unit) w126 =>
 J114 (t125.1, ()) w126) fun J124 w127 =>
 cs ((n26 : Int) == (6 : Int)) (
 dr w127 fun w128 =>
 ldI w128 .i64 b20 (0 + 1) fun n129 =>
 ldI w128 .i64 b20 (0 + 1) fun n130 =>
 cl Pg 13 [.pointer t11.1, .int .i64 n129] [kB] w128 fun (r131 : Bool × Unit) w132 =>
(w132.cell? ⟨b20, 0 + 1, none⟩ = some (.int .i64 n130)) ∧ (
 cl Pg 29 [.pointer r5.1, .int .i64 n130] [kB] w132 fun (r133 : Bool × Unit) w134 =>
 cs (!(r131.1 == r133.1)) (
 R [.bool false] w134) (
 J124 (t11.1, ()) w134))) (
 jn [kP] w127 (fun (t136 : Option Addr × Unit) w137 =>
 J124 (t136.1, ()) w137) fun J135 w138 =>
 cs ((n26 : Int) == (7 : Int)) (
 dr w138 fun w139 =>
 ldI w139 .i64 b20 (0 + 1) fun n140 =>
 ldI w139 .i64 b20 (0 + 2) fun n141 =>
 ldI w139 .i64 b20 (0 + 1) fun n142 =>
 ldI w139 .i64 b20 (0 + 2) fun n143 =>
 cl Pg 30 [.pointer t11.1, .int .i64 n140, .int .i64 n141] [kB] w139 fun (r144 : Bool × Unit) w145 =>
(w145.cell? ⟨b20, 0 + 2, none⟩ = some (.int .i64 n143)) ∧ (
(w145.cell? ⟨b20, 0 + 1, none⟩ = some (.int .i64 n142)) ∧ (
 cl Pg 31 [.pointer r5.1, .int .i64 n142, .int .i64 n143] [kB] w145 fun (r146 : Bool × Unit) w147 =>
 cs (!(r144.1 == r146.1)) (
 R [.bool false] w147) (
 J135 (t11.1, ()) w147)))) (
 jn [kP] w138 (fun (t149 : Option Addr × Unit) w150 =>
 J135 (t149.1, ()) w150) fun J148 w151 =>
 cs ((n26 : Int) == (8 : Int)) (
 cl Pg 32 [.pointer t11.1] [kP] w151 fun (r152 : Option Addr × Unit) w153 =>
 cs r152.1.isNone (
 R [.bool false] w153) (
 cl Pg 21 [.pointer t11.1, .int .i64 (-1)] [kI, kI] w153 fun (r154 : Int × Int × Unit) w155 =>
 J148 (r152.1, ()) w155)) (
 J148 (t11.1, ()) w151))))))))) (
 R [.bool true] w13)))) fun J7 w10 =>
 cs ((r3.2.1 : Int) != (r5.2.1 : Int)) (
 J7 (true, ()) w10) (
 J7 (!(r3.1.isNone == ((r5.2.1 : Int) != (0 : Int))), ()) w10)))
theorem tie8 (a0 : Bool) (a1 : Int) (a2 : Sl) (R : List Value → World → Prop) (w : World) : compF Pg Try.f8 ⟨[(5, ⟨[(7, kP), (11, kI)], [6, 12, 13, 14, 15, 16, 17, 18, 19, 20, 21, 22, 23, 24, 25, 26, 27, 28, 29, 30, 31, 61, 62, 63, 64, 65, 66, 67, 68, 69, 70, 71, 72, 73, 74, 75, 76, 77, 78, 79, 80, 81, 82, 83, 84, 85, 86, 87, 88, 89, 90, 91, 92, 93, 94, 95, 96, 97, 98, 99, 100, 101, 102, 103, 104, 105, 106, 107, 108, 109, 110, 111, 112, 113, 114, 115, 116, 117, 118, 119, 120, 121, 122, 123, 124, 125, 126, 127, 128, 129, 130, 131, 132, 133, 134, 135, 136, 137, 138, 139, 140, 141, 142, 143, 144, 145, 146, 147, 148, 149, 150, 151, 152, 153, 154, 155, 156, 157, 158, 159, 160, 161, 162, 163, 164, 165, 166, 167, 168, 169, 170, 171, 172, 173, 174, 175, 176, 177, 178, 179, 180, 181, 182, 183, 184, 185, 186, 187, 188, 189, 190, 191, 192, 193, 194, 195, 196, 197, 198, 199, 200, 201, 202, 203, 204, 205, 206, 207, 208, 209, 210, 211, 212, 213, 214, 215, 216, 217, 218, 219, 220, 221, 222, 223, 224, 225, 226, 227, 228, 229, 230, 231, 232, 233, 234, 235]⟩), (9, ⟨[(7, kP)], [6, 13, 14, 15, 16, 17, 18, 19, 20, 21, 22, 23, 24, 25, 26, 27, 28, 29, 30, 31, 75, 76, 77, 78, 79, 80, 81, 82, 83, 84, 85, 86, 87, 88, 89, 90, 91, 92, 93, 94, 95, 96, 97, 98, 99, 100, 101, 102, 103, 104, 105, 106, 107, 108, 109, 110, 111, 112, 113, 114, 115, 116, 117, 118, 119, 120, 121, 122, 123, 124, 125, 126, 127, 128, 129, 130, 131, 132, 133, 134, 135, 136, 137, 138, 139, 140, 141, 142, 143, 144, 145, 146, 147, 148, 149, 150, 151, 152, 153, 154, 155, 156, 157, 158, 159, 160, 161, 162, 163, 164, 165, 166, 167, 168, 169, 170, 171, 172, 173, 174, 175, 176, 177, 178, 179, 180, 181, 182, 183, 184, 185, 186, 187, 188, 189, 190, 191, 192, 193, 194, 195, 196, 197, 198, 199, 200, 201, 202, 203, 204, 205, 206, 207, 208, 209, 210, 211, 212, 213, 214, 215, 216, 217, 218, 219, 220, 221, 222, 223, 224, 225, 226, 227, 228, 229, 230, 231]⟩), (11, ⟨[(7, kP)], [6, 19, 20, 21, 22, 23, 24, 25, 26, 27, 28, 29, 30, 31, 114, 115, 116, 117, 118, 119, 120, 121, 122, 123, 124, 125, 126, 127, 128, 129, 130, 131, 132, 133, 134, 135, 136, 137, 138, 139, 140, 141, 142, 143, 144, 145, 146, 147, 148, 149, 150, 151, 152, 153, 154, 155, 156, 157, 158, 159, 160, 161, 162, 163, 164, 165, 166, 167, 168, 169, 170, 171, 172, 173, 174, 175, 176, 177, 178, 179, 180, 181, 182, 183, 184, 185, 186, 187, 188, 189, 190, 191, 192, 193, 194, 195, 196, 197, 198, 199, 200, 201, 202, 203, 204, 205, 206, 207, 208, 209, 210, 211, 212, 213, 214, 215, 216, 217, 218, 219, 220, 221, 222, 223, 224, 225, 226, 227, 228, 229, 230, 231]⟩), (13, ⟨[(7, kP)], [6, 23, 24, 25, 26, 27, 28, 29, 30, 31, 138, 139, 140, 141, 142, 143, 144, 145, 146, 147, 148, 149, 150, 151, 152, 153, 154, 155, 156, 157, 158, 159, 160, 161, 162, 163, 164, 165, 166, 167, 168, 169, 170, 171, 172, 173, 174, 175, 176, 177, 178, 179, 180, 181, 182, 183, 184, 185, 186, 187, 188, 189, 190, 191, 192, 193, 194, 195, 196, 197, 198, 199, 200, 201, 202, 203, 204, 205, 206, 207, 208, 209, 210, 211, 212, 213, 214, 215, 216, 217, 218, 219, 220, 221, 222, 223, 224, 225, 226, 227, 228, 229, 230, 231]⟩), (15, ⟨[(7, kP)], [6, 27, 28, 29, 30, 31, 162, 163, 164, 165, 166, 167, 168, 169, 170, 171, 172, 173, 174, 175, 176, 177, 178, 179, 180, 181, 182, 183, 184, 185, 186, 187, 188, 189, 190, 191, 192, 193, 194, 195, 196, 197, 198, 199, 200, 201, 202, 203, 204, 205, 206, 207, 208, 209, 210, 211, 212, 213, 214, 215, 216, 217, 218, 219, 220, 221, 222, 223, 224, 225, 226, 227, 228, 229, 230, 231]⟩), (17, ⟨[(7, kP)], [6, 31, 191, 192, 193, 194, 195, 196, 197, 198, 199, 200, 201, 202, 203, 204, 205, 206, 207, 208, 209, 210, 211, 212, 213, 214, 215, 216, 217, 218, 219, 220, 221, 222, 223, 224, 225, 226, 227, 228, 229, 230, 231]⟩), (19, ⟨[(7, kP)], [6, 31, 199, 200, 201, 202, 203, 204, 205, 206, 207, 208, 209, 210, 211, 212, 213, 214, 215, 216, 217, 218, 219, 220, 221, 222, 223, 224, 225, 226, 227, 228, 229, 230, 231]⟩), (21, ⟨[(7, kP)], [6, 31, 210, 211, 212, 213, 214, 215, 216, 217, 218, 219, 220, 221, 222, 223, 224, 225, 226, 227, 228, 229, 230, 231]⟩), (23, ⟨[(7, kP)], [6, 31, 225, 226, 227, 228, 229, 230, 231]⟩)], [], [(40, .l [(0, []), (1, []), (2, []), (4, []), (5, []), (6, []), (3, [0, 2, 1]), (7, [4, 6, 3, 5, 0, 2, 1]), (8, [])]), (43, .l [(0, []), (1, []), (2, []), (3, []), (4, []), (6, []), (7, []), (8, []), (9, []), (10, []), (5, [0, 2, 4, 1, 3]), (11, [6, 8, 10, 5, 7, 9, 0, 2, 4, 1, 3]), (12, [])])], [(7, [(4, 6, ⟨[(58, kB)], [53, 54, 55, 56, 57]⟩)]), (19, [(4, 4, ⟨[(106, kB)], [103, 104, 105]⟩), (9, 4, ⟨[(111, kB)], [108, 109, 110]⟩)]), (24, [(4, 4, ⟨[(135, kB)], [132, 133, 134]⟩)]), (29, [(4, 4, ⟨[(159, kB)], [156, 157, 158]⟩)]), (34, [(5, 4, ⟨[(188, kB)], [185, 186, 187]⟩)])]⟩ [.bool a0, .int .i64 a1, vS a2] R w = sh8 a0 a1 a2 R w := by kernel_rfl
theorem call8 {a0 : Bool} {a1 : Int} {a2 : Sl} {w : World} {K : TK [kB] → World → Prop} (h : sh8 a0 a1 a2 (fun vs w' => ∃ t, encK [kB] t = vs ∧ K t w') w) : cl Pg 8 [.bool a0, .int .i64 a1, vS a2] [kB] w K := cl_of Try.func8 (tie8 ..) h
end Go.Proofs.Ytadnjjnnkhofdaa.B
