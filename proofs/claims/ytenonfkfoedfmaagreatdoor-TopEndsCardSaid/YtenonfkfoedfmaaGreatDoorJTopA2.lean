/- Texts of ours, joined: Sh0. -/
import Derived.Test.YtenonfkfoedfmaaGreatDoorProg
import Derived.Test.YtenonfkfoedfmaaGreatDoorJTopA1
set_option linter.unusedSimpArgs false
set_option linter.unusedVariables false
/- Printed by sh.py: each Go function as a typed shallow program, and its tie to the code. -/
namespace Go.Proofs.YtenonfkfoedfmaaGreatDoor.B
open Go Go.Proofs
set_option linter.unusedVariables false
set_option maxRecDepth 100000
noncomputable abbrev Pg : Program := Tryz.prog
def sh18 (a0 : Sl) (R : List Value → World → Prop) (w : World) : Prop :=
 al w 33 [.int .i64 0, .slice none 0 0, .slice none 0 0, .slice none 0 0, .slice none 0 0, .slice none 0 0, .slice none 0 0, .slice none 0 0, .int .i64 0] fun b1 w2 =>
 al w2 33 [.int .i64 0, .slice none 0 0, .slice none 0 0, .slice none 0 0, .slice none 0 0, .slice none 0 0, .slice none 0 0, .slice none 0 0, .int .i64 0] fun b3 w4 =>
 st1 w4 b3 0 (.int .i64 1) fun w5 =>
 st1 w5 b3 (0 + 1) (.slice none 0 0) fun w6 =>
 st1 w6 b3 (0 + 2) (.slice none 0 0) fun w7 =>
 st1 w7 b3 (0 + 3) (.slice none 0 0) fun w8 =>
 st1 w8 b3 (0 + 4) (.slice none 0 0) fun w9 =>
 st1 w9 b3 (0 + 5) (.slice none 0 0) fun w10 =>
 st1 w10 b3 (0 + 6) (.slice none 0 0) fun w11 =>
 st1 w11 b3 (0 + 7) (.slice none 0 0) fun w12 =>
 st1 w12 b3 (0 + 8) (.int .i64 0) fun w13 =>
 lp [kI] w13 ((0 : Int), ()) fun (t14 : Int × Unit) J15 w16 =>
 cs (decide ((t14.1 : Int) < ((a0.len : Int) : Int))) (
 dr w16 fun w17 =>
 ldS w17 b3 (0 + 1) fun s18 =>
 ix a0 t14.1 1 fun b19 o20 =>
 ldI w17 .i64 b19 o20 fun n21 =>
 al w17 45 [.int .i64 n21, .bool true] fun b22 w23 =>
(w23.cell? ⟨b3, 0 + 1, none⟩ = some (vS s18)) ∧ (
 ef Pg (Builtin.append_ #[25, 25] 25 #[vS s18, vS ⟨some ⟨b22, 0, none⟩, 1, 1⟩]) [kS] w23 fun (r24 : Sl × Unit) w25 =>
 st1 w25 b3 (0 + 1) (vS r24.1) fun w26 =>
 J15 (w64 (t14.1 + 1), ()) w26)) (
 ldI w16 .i64 b3 0 fun n27 =>
 ldS w16 b3 (0 + 1) fun s28 =>
 ldS w16 b3 (0 + 2) fun s29 =>
 ldS w16 b3 (0 + 3) fun s30 =>
 ldS w16 b3 (0 + 4) fun s31 =>
 ldS w16 b3 (0 + 5) fun s32 =>
 ldS w16 b3 (0 + 6) fun s33 =>
 ldS w16 b3 (0 + 7) fun s34 =>
 ldI w16 .i64 b3 (0 + 8) fun n35 =>
 st1 w16 b1 0 (.int .i64 n27) fun w36 =>
 st1 w36 b1 (0 + 1) (vS s28) fun w37 =>
 st1 w37 b1 (0 + 2) (vS s29) fun w38 =>
 st1 w38 b1 (0 + 3) (vS s30) fun w39 =>
 st1 w39 b1 (0 + 4) (vS s31) fun w40 =>
 st1 w40 b1 (0 + 5) (vS s32) fun w41 =>
 st1 w41 b1 (0 + 6) (vS s33) fun w42 =>
 st1 w42 b1 (0 + 7) (vS s34) fun w43 =>
 st1 w43 b1 (0 + 8) (.int .i64 n35) fun w44 =>
 ldI w44 .i64 b1 0 fun n45 =>
 ldS w44 b1 (0 + 1) fun s46 =>
 ldS w44 b1 (0 + 2) fun s47 =>
 ldS w44 b1 (0 + 3) fun s48 =>
 ldS w44 b1 (0 + 4) fun s49 =>
 ldS w44 b1 (0 + 5) fun s50 =>
 ldS w44 b1 (0 + 6) fun s51 =>
 ldS w44 b1 (0 + 7) fun s52 =>
 ldI w44 .i64 b1 (0 + 8) fun n53 =>
 R [.agg #[.int .i64 n45, vS s46, vS s47, vS s48, vS s49, vS s50, vS s51, vS s52, .int .i64 n53]] w44)
theorem tie18 (a0 : Sl) (R : List Value → World → Prop) (w : World) : compF Pg Tryz.f18 ⟨[(1, ⟨[(4, kI)], [6, 7, 8, 9, 10, 11, 12, 13, 14, 15, 16, 17, 18, 19, 20, 21]⟩)], [], [(5, .l [(0, []), (1, []), (2, []), (3, []), (4, []), (5, []), (6, []), (7, [6, 5, 4, 2, 3]), (8, [1, 7, 0, 6, 5, 4, 2, 3]), (9, []), (10, [9, 8, 0, 1, 2, 3, 4, 5, 6, 7])])], []⟩ [vS a0] R w = sh18 a0 R w := by kernel_rfl
theorem call18 {a0 : Sl} {w : World} {K : TK [.a [(.i .i64), .s, .s, .s, .s, .s, .s, .s, (.i .i64)]] → World → Prop} (h : sh18 a0 (fun vs w' => ∃ t, encK [.a [(.i .i64), .s, .s, .s, .s, .s, .s, .s, (.i .i64)]] t = vs ∧ K t w') w) : cl Pg 18 [vS a0] [.a [(.i .i64), .s, .s, .s, .s, .s, .s, .s, (.i .i64)]] w K := cl_of Tryz.func18 (tie18 ..) h
def sh62 (a0 : Int) (R : List Value → World → Prop) (w : World) : Prop :=
 jn [kB] w (fun (t2 : Bool × Unit) w3 =>
 R [.bool t2.1] w3) fun J1 w4 =>
 cs (decide ((a0 : Int) ≥ (1 : Int))) (
 J1 (decide ((a0 : Int) ≤ (16 : Int)), ()) w4) (
 J1 (false, ()) w4)
theorem tie62 (a0 : Int) (R : List Value → World → Prop) (w : World) : compF Pg Tryz.f62 ⟨[], [], [], [(1, [(3, 3, ⟨[(8, kB)], [6, 7]⟩)])]⟩ [.int .i64 a0] R w = sh62 a0 R w := by kernel_rfl
theorem call62 {a0 : Int} {w : World} {K : TK [kB] → World → Prop} (h : sh62 a0 (fun vs w' => ∃ t, encK [kB] t = vs ∧ K t w') w) : cl Pg 62 [.int .i64 a0] [kB] w K := cl_of Tryz.func62 (tie62 ..) h
def sh63 (a0 : Int) (R : List Value → World → Prop) (w : World) : Prop :=
 jn [kB] w (fun (t2 : Bool × Unit) w3 =>
 R [.bool t2.1] w3) fun J1 w4 =>
 cs (decide ((a0 : Int) ≥ (1 : Int))) (
 J1 (decide ((a0 : Int) ≤ (16 : Int)), ()) w4) (
 J1 (false, ()) w4)
theorem tie63 (a0 : Int) (R : List Value → World → Prop) (w : World) : compF Pg Tryz.f63 ⟨[], [], [], [(1, [(3, 3, ⟨[(8, kB)], [6, 7]⟩)])]⟩ [.int .i64 a0] R w = sh63 a0 R w := by kernel_rfl
theorem call63 {a0 : Int} {w : World} {K : TK [kB] → World → Prop} (h : sh63 a0 (fun vs w' => ∃ t, encK [kB] t = vs ∧ K t w') w) : cl Pg 63 [.int .i64 a0] [kB] w K := cl_of Tryz.func63 (tie63 ..) h
def sh70 (a0 : Sl) (R : List Value → World → Prop) (w : World) : Prop :=
 cs a0.a.isNone (
 R [.slice none 0 0] w) (
 al w 3 [] fun b1 w2 =>
 ef Pg (Builtin.append_ #[72, 72] 72 #[vS ⟨some ⟨b1, 0, none⟩, 0, 0⟩, vS a0]) [kS] w2 fun (r3 : Sl × Unit) w4 =>
 R [vS r3.1] w4)
theorem tie70 (a0 : Sl) (R : List Value → World → Prop) (w : World) : compF Pg Tryz.f70 ⟨[], [], [], []⟩ [vS a0] R w = sh70 a0 R w := by kernel_rfl
theorem call70 {a0 : Sl} {w : World} {K : TK [kS] → World → Prop} (h : sh70 a0 (fun vs w' => ∃ t, encK [kS] t = vs ∧ K t w') w) : cl Pg 70 [vS a0] [kS] w K := cl_of Tryz.func70 (tie70 ..) h
def sh123 (a0 : Option Addr) (a1 : Int) (a2 : Int) (R : List Value → World → Prop) (w : World) : Prop :=
 nn a0 fun b1 o2 =>
 ixA b1 (o2 + 1) 17 a1 3 fun b3 o4 =>
 ldI w .i64 b3 o4 fun n5 =>
 nn a0 fun b6 o7 =>
 ldS w b6 o7 fun s8 =>
 sb s8 1 s8.len s8.cap 4 fun s9 =>
 lp [kI, kI] w (n5, (0 : Int), ()) fun (t10 : Int × Int × Unit) J11 w12 =>
 cs (decide ((t10.2.1 : Int) < ((s9.len : Int) : Int))) (
 ix s9 t10.2.1 4 fun b13 o14 =>
 ldI w12 .i64 b13 o14 fun n15 =>
 ldI w12 .i64 b13 (o14 + 1) fun n16 =>
 ldI w12 .i64 b13 (o14 + 2) fun n17 =>
 ldS w12 b13 (o14 + 3) fun s18 =>
 al w12 158 [.int .i64 0, .int .i64 0, .int .i64 0, .slice none 0 0] fun b19 w20 =>
 st1 w20 b19 0 (.int .i64 n15) fun w21 =>
 st1 w21 b19 (0 + 1) (.int .i64 n16) fun w22 =>
 st1 w22 b19 (0 + 2) (.int .i64 n17) fun w23 =>
 st1 w23 b19 (0 + 3) (vS s18) fun w24 =>
 ldI w24 .i64 b19 (0 + 2) fun n25 =>
 jn [kB] w24 (fun (t27 : Bool × Unit) w28 =>
 cs t27.1 (
 J11 (t10.1, w64 (t10.2.1 + 1), ()) w28) (
 ldI w28 .i64 b19 0 fun n30 =>
 cs ((n30 : Int) == (3 : Int)) (
 ldI w28 .i64 b19 (0 + 1) fun n31 =>
 J11 ((if n31 < t10.1 then n31 else t10.1), w64 (t10.2.1 + 1), ()) w28) (
 ldI w28 .i64 b19 0 fun n32 =>
 cs ((n32 : Int) == (2 : Int)) (
 ldS w28 b19 (0 + 3) fun s33 =>
 lp [kI, kI] w28 (t10.1, (0 : Int), ()) fun (t34 : Int × Int × Unit) J35 w36 =>
 cs (decide ((t34.2.1 : Int) < ((s33.len : Int) : Int))) (
 ix s33 t34.2.1 1 fun b37 o38 =>
 ldI w36 .i64 b37 o38 fun n39 =>
 cl Pg 123 [.pointer a0, .int .i64 n39, .int .i64 (w64 (a2 + 1))] [kI] w36 fun (r40 : Int × Unit) w41 =>
 J35 ((if r40.1 < t34.1 then r40.1 else t34.1), w64 (t34.2.1 + 1), ()) w41) (
 J11 (t34.1, w64 (t10.2.1 + 1), ()) w36)) (
 J11 (t10.1, w64 (t10.2.1 + 1), ()) w28)))) fun J26 w29 =>
 cs ((n25 : Int) != (a1 : Int)) (
 J26 (true, ()) w29) (
 J26 (decide ((a2 : Int) > (16 : Int)), ()) w29)) (
 R [.int .i64 t10.1] w12)
theorem tie123 (a0 : Option Addr) (a1 : Int) (a2 : Int) (R : List Value → World → Prop) (w : World) : compF Pg Tryz.f123 ⟨[(1, ⟨[(7, kI), (25, kI)], [9, 11, 26, 27, 28, 29, 30, 31, 32, 33, 34, 35, 36, 37, 38, 39, 40, 41, 42, 43, 44, 45, 46, 47, 48, 49, 50, 51, 52, 53, 54, 55, 56, 57, 58, 59, 60, 61, 62, 63, 64, 65, 66, 67, 68]⟩), (9, ⟨[(7, kI), (56, kI)], [11, 57, 58, 59, 60, 61, 62, 63, 64, 65, 66, 67]⟩)], [], [], [(5, [(5, 3, ⟨[(37, kB)], [35, 36]⟩)])]⟩ [.pointer a0, .int .i64 a1, .int .i64 a2] R w = sh123 a0 a1 a2 R w := by kernel_rfl
theorem call123 {a0 : Option Addr} {a1 : Int} {a2 : Int} {w : World} {K : TK [kI] → World → Prop} (h : sh123 a0 a1 a2 (fun vs w' => ∃ t, encK [kI] t = vs ∧ K t w') w) : cl Pg 123 [.pointer a0, .int .i64 a1, .int .i64 a2] [kI] w K := cl_of Tryz.func123 (tie123 ..) h
def sh126 (a0 : Sl) (a1 : Int) (a2 : Sl) (R : List Value → World → Prop) (w : World) : Prop :=
 sb a0 a1 a0.len a0.cap 1 fun s1 =>
 cs (((a2.len : Int) : Int) == (0 : Int)) (
 R [vS a0] w) (
 cs ((a1 : Int) == ((a0.len : Int) : Int)) (
 ef Pg (Builtin.append_ #[72, 72] 72 #[vS a0, vS a2]) [kS] w fun (r2 : Sl × Unit) w3 =>
 R [vS r2.1] w3) (
 cs (decide ((w64 ((a0.len : Int) + (a2.len : Int)) : Int) > ((a0.cap : Int) : Int))) (
 sb a0 0 a1 a0.cap 1 fun s4 =>
 ef Pg (Builtin.append_ #[72, 3] 72 #[vS s4, .int .i64 (w64 ((w64 ((a0.len : Int) + (a2.len : Int))) - a1))]) [kS] w fun (r5 : Sl × Unit) w6 =>
 sb r5.1 a1 r5.1.len r5.1.cap 1 fun s7 =>
 ef Pg (Builtin.copy_ #[72, 72] 3 #[vS s7, vS a2]) [kI] w6 fun (r8 : Int × Unit) w9 =>
 dr w9 fun w10 =>
 sb r5.1 (w64 (a1 + (a2.len : Int))) r5.1.len r5.1.cap 1 fun s11 =>
 sb a0 a1 a0.len a0.cap 1 fun s12 =>
 ef Pg (Builtin.copy_ #[72, 72] 3 #[vS s11, vS s12]) [kI] w10 fun (r13 : Int × Unit) w14 =>
 R [vS r5.1] w14) (
 sb a0 0 (w64 ((a0.len : Int) + (a2.len : Int))) a0.cap 1 fun s15 =>
 sb s15 (w64 (a1 + (a2.len : Int))) s15.len s15.cap 1 fun s16 =>
 xt Pg 199 [vS a2, vS s16] [kB] w fun (r17 : Bool × Unit) w18 =>
 cs (!r17.1) (
 dr w18 fun w19 =>
 sb s15 (w64 (a1 + (a2.len : Int))) s15.len s15.cap 1 fun s20 =>
 sb s15 a1 s15.len s15.cap 1 fun s21 =>
 ef Pg (Builtin.copy_ #[72, 72] 3 #[vS s20, vS s21]) [kI] w19 fun (r22 : Int × Unit) w23 =>
 sb s15 a1 s15.len s15.cap 1 fun s24 =>
 ef Pg (Builtin.copy_ #[72, 72] 3 #[vS s24, vS a2]) [kI] w23 fun (r25 : Int × Unit) w26 =>
 R [vS s15] w26) (
 sb s15 (a0.len : Int) s15.len s15.cap 1 fun s27 =>
 ef Pg (Builtin.copy_ #[72, 72] 3 #[vS s27, vS a2]) [kI] w18 fun (r28 : Int × Unit) w29 =>
 sb s15 a1 s15.len s15.cap 1 fun s30 =>
 cl Pg 200 [vS s30, .int .i64 (a2.len : Int)] [] w29 fun (r31 : Unit) w32 =>
 R [vS s15] w32))))
theorem tie126 (a0 : Sl) (a1 : Int) (a2 : Sl) (R : List Value → World → Prop) (w : World) : compF Pg Tryz.f126 ⟨[], [], [(11, .l [(0, []), (1, []), (2, []), (3, []), (4, []), (5, []), (6, []), (7, []), (8, [4, 7, 0, 3, 5, 6, 1, 2])]), (15, .l [(0, []), (1, []), (2, []), (3, []), (4, []), (5, []), (6, []), (7, []), (8, [4, 7, 0, 3, 5, 6, 1, 2])])], []⟩ [vS a0, .int .i64 a1, vS a2] R w = sh126 a0 a1 a2 R w := by kernel_rfl
theorem call126 {a0 : Sl} {a1 : Int} {a2 : Sl} {w : World} {K : TK [kS] → World → Prop} (h : sh126 a0 a1 a2 (fun vs w' => ∃ t, encK [kS] t = vs ∧ K t w') w) : cl Pg 126 [vS a0, .int .i64 a1, vS a2] [kS] w K := cl_of Tryz.func126 (tie126 ..) h
def sh67 (a0 : Option Addr) (a1 : Int) (a2 : Int) (R : List Value → World → Prop) (w : World) : Prop :=
 nn a0 fun b1 o2 =>
 ldS w b1 o2 fun s3 =>
 ix s3 a1 4 fun b4 o5 =>
 nn (some ⟨b4, o5, none⟩) fun b6 o7 =>
 ldS w b6 (o7 + 3) fun s8 =>
 lp [kI] w ((s8.len : Int), ()) fun (t9 : Int × Unit) J10 w11 =>
 dr w11 fun w12 =>
 jn [kB] w12 (fun (t14 : Bool × Unit) w15 =>
 cs t14.1 (
 J10 (w64 (t9.1 - 1), ()) w15) (
 nn (some ⟨b4, o5, none⟩) fun b17 o18 =>
 ldS w15 b17 (o18 + 3) fun s19 =>
 al w15 3 [.int .i64 a2] fun b20 w21 =>
 cl Pg 126 [vS s19, .int .i64 t9.1, vS ⟨some ⟨b20, 0, none⟩, 1, 1⟩] [kS] w21 fun (r22 : Sl × Unit) w23 =>
 nn (some ⟨b4, o5, none⟩) fun b24 o25 =>
 st1 w23 b24 (o25 + 3) (vS r22.1) fun w26 =>
 R [] w26)) fun J13 w16 =>
 nn (some ⟨b4, o5, none⟩) fun b27 o28 =>
 ldI w16 .i64 b27 o28 fun n29 =>
 cs ((n29 : Int) != (0 : Int)) (
 cs (decide ((t9.1 : Int) > (0 : Int))) (
 nn (some ⟨b4, o5, none⟩) fun b30 o31 =>
 ldS w16 b30 (o31 + 3) fun s32 =>
 ix s32 (w64 (t9.1 - 1)) 1 fun b33 o34 =>
 ldI w16 .i64 b33 o34 fun n35 =>
 nn a0 fun b36 o37 =>
 ixA b36 (o37 + 1) 17 n35 3 fun b38 o39 =>
 ldI w16 .i64 b38 (o39 + 1) fun n40 =>
 nn a0 fun b41 o42 =>
 ixA b41 (o42 + 1) 17 a2 3 fun b43 o44 =>
 ldI w16 .i64 b43 (o44 + 1) fun n45 =>
 J13 (decide ((n40 : Int) > (n45 : Int)), ()) w16) (
 J13 (false, ()) w16)) (
 J13 (false, ()) w16)
theorem tie67 (a0 : Option Addr) (a1 : Int) (a2 : Int) (R : List Value → World → Prop) (w : World) : compF Pg Tryz.f67 ⟨[(1, ⟨[(7, kI)], [19, 20, 21, 22, 23, 24, 25, 26, 27, 28, 29, 30, 31, 32, 33, 34, 35, 36, 37, 38, 39, 40, 41, 42, 43, 44, 45, 46, 47, 48, 49, 50, 51, 52, 53, 54]⟩)], [(2, ⟨[(52, kB)], [19, 20, 21, 22, 23, 24, 25, 26, 27, 28, 29, 30, 31, 32, 33, 34, 35, 36, 37, 38, 39, 40, 41, 42, 43, 44, 45, 46, 47, 48, 49, 50, 51]⟩)], [(2, .l [(0, []), (1, []), (2, []), (3, []), (4, []), (5, []), (6, []), (7, []), (8, []), (9, []), (10, []), (11, []), (12, []), (13, []), (14, []), (15, []), (16, []), (17, []), (18, []), (19, []), (20, []), (21, []), (22, []), (23, []), (24, []), (25, []), (26, []), (27, []), (28, []), (29, []), (30, []), (31, []), (32, []), (33, [])])], []⟩ [.pointer a0, .int .i64 a1, .int .i64 a2] R w = sh67 a0 a1 a2 R w := by kernel_rfl
theorem call67 {a0 : Option Addr} {a1 : Int} {a2 : Int} {w : World} {K : TK [] → World → Prop} (h : sh67 a0 a1 a2 (fun vs w' => ∃ t, encK [] t = vs ∧ K t w') w) : cl Pg 67 [.pointer a0, .int .i64 a1, .int .i64 a2] [] w K := cl_of Tryz.func67 (tie67 ..) h
def sh64 (a0 : Option Addr) (R : List Value → World → Prop) (w : World) : Prop :=
 al w 179 [.int .i64 0, .int .i64 0, .int .i64 0, .int .i64 0, .int .i64 0, .int .i64 0, .int .i64 0, .int .i64 0, .int .i64 0, .int .i64 0, .int .i64 0, .int .i64 0, .int .i64 0, .int .i64 0, .int .i64 0, .int .i64 0, .int .i64 0] fun b1 w2 =>
 lp [kI] w2 ((1 : Int), ()) fun (t3 : Int × Unit) J4 w5 =>
 cs (decide ((t3.1 : Int) ≤ (16 : Int))) (
 cl Pg 123 [.pointer a0, .int .i64 t3.1, .int .i64 0] [kI] w5 fun (r6 : Int × Unit) w7 =>
 ixA b1 0 17 t3.1 1 fun b8 o9 =>
 st1 w7 b8 o9 (.int .i64 r6.1) fun w10 =>
 J4 (w64 (t3.1 + 1), ()) w10) (
 lp [kI] w5 ((1 : Int), ()) fun (t11 : Int × Unit) J12 w13 =>
 nn a0 fun b14 o15 =>
 ldS w13 b14 o15 fun s16 =>
 cs (decide ((t11.1 : Int) < ((s16.len : Int) : Int))) (
 nn a0 fun b17 o18 =>
 ldS w13 b17 o18 fun s19 =>
 ix s19 t11.1 4 fun b20 o21 =>
 ldS w13 b20 (o21 + 3) fun s22 =>
 cl Pg 70 [vS s22] [kS] w13 fun (r23 : Sl × Unit) w24 =>
 lp [kI] w24 ((0 : Int), ()) fun (t25 : Int × Unit) J26 w27 =>
 cs (decide ((t25.1 : Int) < ((r23.1.len : Int) : Int))) (
 ix r23.1 t25.1 1 fun b28 o29 =>
 ldI w27 .i64 b28 o29 fun n30 =>
 dr w27 fun w31 =>
 ixA b1 0 17 n30 1 fun b32 o33 =>
 ldI w31 .i64 b32 o33 fun n34 =>
 nn a0 fun b35 o36 =>
 ixA b35 (o36 + 1) 17 n30 3 fun b37 o38 =>
 ldI w31 .i64 b37 (o38 + 1) fun n39 =>
 cs ((n34 : Int) == (n39 : Int)) (
 J26 (w64 (t25.1 + 1), ()) w31) (
 cl Pg 124 [.pointer a0, .int .i64 t11.1, .int .i64 n30] [] w31 fun (r40 : Unit) w41 =>
 dr w41 fun w42 =>
 ixA b1 0 17 n30 1 fun b43 o44 =>
 ldI w42 .i64 b43 o44 fun n45 =>
 nn a0 fun b46 o47 =>
 ixA b46 (o47 + 1) 17 n30 3 fun b48 o49 =>
 st1 w42 b48 (o49 + 1) (.int .i64 n45) fun w50 =>
 cl Pg 125 [.pointer a0, .int .i64 t11.1, .int .i64 n30] [] w50 fun (r51 : Unit) w52 =>
 J26 (w64 (t25.1 + 1), ()) w52)) (
 J12 (w64 (t11.1 + 1), ()) w27)) (
 lp [kI] w13 ((1 : Int), ()) fun (t53 : Int × Unit) J54 w55 =>
 cs (decide ((t53.1 : Int) ≤ (16 : Int))) (
 dr w55 fun w56 =>
 ixA b1 0 17 t53.1 1 fun b57 o58 =>
 ldI w56 .i64 b57 o58 fun n59 =>
 nn a0 fun b60 o61 =>
 ixA b60 (o61 + 1) 17 t53.1 3 fun b62 o63 =>
 st1 w56 b62 (o63 + 1) (.int .i64 n59) fun w65 =>
 J54 (w64 (t53.1 + 1), ()) w65) (
 R [] w55)))
theorem tie64 (a0 : Option Addr) (R : List Value → World → Prop) (w : World) : compF Pg Tryz.f64 ⟨[(1, ⟨[(3, kI)], [8, 9, 10, 11, 12, 13, 14, 15, 16]⟩), (5, ⟨[(4, kI)], [6, 17, 18, 19, 20, 21, 22, 23, 24, 25, 26, 27, 28, 29, 30, 31, 32, 33, 34, 35, 36, 37, 38, 39, 40, 41, 42, 43, 44, 45, 46, 47, 48, 49, 50, 51, 52, 53, 54, 55, 56, 57, 58, 59, 60, 61, 62, 63, 64, 65, 66, 67, 68]⟩), (9, ⟨[(36, kI)], [6, 37, 38, 39, 40, 41, 42, 43, 44, 45, 46, 47, 48, 49, 50, 51, 52, 53, 54, 55, 56, 57, 58, 59, 60, 61, 62, 63, 64, 65, 66, 67, 68]⟩), (14, ⟨[(7, kI)], [69, 70, 71, 72, 73, 74, 75, 76, 77, 78, 79, 80, 81]⟩)], [], [(11, .l [(0, []), (1, []), (2, []), (3, []), (4, []), (5, []), (6, []), (7, []), (8, []), (9, []), (10, [])]), (13, .l [(0, []), (1, []), (2, []), (3, []), (4, []), (5, []), (6, []), (7, []), (8, []), (9, [8, 4, 0, 1, 2, 3, 7, 6, 5])]), (19, .l [(0, []), (1, []), (2, []), (3, []), (4, []), (5, []), (6, []), (7, []), (8, []), (9, [8, 4, 0, 1, 2, 3, 7, 6, 5])])], []⟩ [.pointer a0] R w = sh64 a0 R w := by kernel_rfl
theorem call64 {a0 : Option Addr} {w : World} {K : TK [] → World → Prop} (h : sh64 a0 (fun vs w' => ∃ t, encK [] t = vs ∧ K t w') w) : cl Pg 64 [.pointer a0] [] w K := cl_of Tryz.func64 (tie64 ..) h
def sh31 (a0 : Option Addr) (a1 : Int) (a2 : Int) (R : List Value → World → Prop) (w : World) : Prop :=
 cl Pg 62 [.int .i64 a1] [kB] w fun (r1 : Bool × Unit) w2 =>
 cs (!r1.1) (
 R [.int .i64 (-18)] w2) (
 cl Pg 63 [.int .i64 a2] [kB] w2 fun (r3 : Bool × Unit) w4 =>
 cs (!r3.1) (
 R [.int .i64 (-17)] w4) (
 lp [kI] w4 ((1 : Int), ()) fun (t5 : Int × Unit) J6 w7 =>
 nn a0 fun b8 o9 =>
 ldS w7 b8 o9 fun s10 =>
 cs (decide ((t5.1 : Int) < ((s10.len : Int) : Int))) (
 nn a0 fun b11 o12 =>
 ldS w7 b11 o12 fun s13 =>
 ix s13 t5.1 4 fun b14 o15 =>
 ldI w7 .i64 b14 o15 fun n16 =>
 ldI w7 .i64 b14 (o15 + 1) fun n17 =>
 ldI w7 .i64 b14 (o15 + 2) fun n18 =>
 ldS w7 b14 (o15 + 3) fun s19 =>
 al w7 158 [.int .i64 0, .int .i64 0, .int .i64 0, .slice none 0 0] fun b20 w21 =>
 st1 w21 b20 0 (.int .i64 n16) fun w22 =>
 st1 w22 b20 (0 + 1) (.int .i64 n17) fun w23 =>
 st1 w23 b20 (0 + 2) (.int .i64 n18) fun w24 =>
 st1 w24 b20 (0 + 3) (vS s19) fun w25 =>
 ldI w25 .i64 b20 0 fun n26 =>
 jn [kB] w25 (fun (t28 : Bool × Unit) w29 =>
 jn [kB] w29 (fun (t32 : Bool × Unit) w33 =>
 cs t32.1 (
 R [.int .i64 (-28)] w33) (
 J6 (w64 (t5.1 + 1), ()) w33)) fun J31 w34 =>
 cs t28.1 (
 ldI w34 .i64 b20 (0 + 2) fun n35 =>
 jn [kB] w34 (fun (t37 : Bool × Unit) w38 =>
 J31 (t37.1, ()) w38) fun J36 w39 =>
 cs ((n35 : Int) == (a1 : Int)) (
 J36 (true, ()) w39) (
 nn a0 fun b40 o41 =>
 ixA b40 (o41 + 1) 17 a1 3 fun b42 o43 =>
 ldI w39 .i64 b42 (o43 + 2) fun n44 =>
 J36 ((n44 : Int) == (t5.1 : Int), ()) w39)) (
 J31 (false, ()) w34)) fun J27 w30 =>
 cs ((n26 : Int) == (3 : Int)) (
 ldI w30 .i64 b20 (0 + 1) fun n45 =>
 J27 (decide ((n45 : Int) > (a2 : Int)), ()) w30) (
 J27 (false, ()) w30)) (
 nn a0 fun b46 o47 =>
 ixA b46 (o47 + 1) 17 a1 3 fun b48 o49 =>
 st1 w7 b48 o49 (.int .i64 a2) fun w50 =>
 cl Pg 64 [.pointer a0] [] w50 fun (r51 : Unit) w52 =>
 R [.int .i64 0] w52)))
theorem tie31 (a0 : Option Addr) (a1 : Int) (a2 : Int) (R : List Value → World → Prop) (w : World) : compF Pg Tryz.f31 ⟨[(4, ⟨[(7, kI)], [6, 8, 17, 18, 19, 20, 21, 22, 23, 24, 25, 26, 27, 28, 29, 30, 31, 32, 33, 34, 35, 36, 37, 38, 39, 40, 41, 42, 43, 44, 45, 46, 47, 48, 49, 50, 51, 52, 53, 54, 55, 56, 57, 58, 59, 60]⟩)], [], [], [(9, [(5, 6, ⟨[(43, kB)], [38, 39, 40, 41, 42]⟩), (12, 16, ⟨[(60, kB)], [45, 46, 47, 48, 49, 50, 51, 52, 53, 54, 55, 56, 57, 58, 59]⟩), (17, 10, ⟨[(59, kB)], [50, 51, 52, 53, 54, 55, 56, 57, 58]⟩)])]⟩ [.pointer a0, .int .i64 a1, .int .i64 a2] R w = sh31 a0 a1 a2 R w := by kernel_rfl
theorem call31 {a0 : Option Addr} {a1 : Int} {a2 : Int} {w : World} {K : TK [kI] → World → Prop} (h : sh31 a0 a1 a2 (fun vs w' => ∃ t, encK [kI] t = vs ∧ K t w') w) : cl Pg 31 [.pointer a0, .int .i64 a1, .int .i64 a2] [kI] w K := cl_of Tryz.func31 (tie31 ..) h
def sh45  (R : List Value → World → Prop) (w : World) : Prop :=
 al w 181 [.int .u64 0, .int .u64 0, .int .u64 0, .int .u64 0, .slice none 0 0, .slice none 0 0, .slice none 0 0, .slice none 0 0, .slice none 0 0, .slice none 0 0, .slice none 0 0, .slice none 0 0, .slice none 0 0, .slice none 0 0, .slice none 0 0, .slice none 0 0, .slice none 0 0, .slice none 0 0, .slice none 0 0, .slice none 0 0, .slice none 0 0, .int .i64 0, .int .i64 0, .int .i64 0, .int .i64 0, .int .i64 0, .int .i64 0, .int .i64 0, .int .i64 0, .int .i64 0, .int .i64 0, .int .i64 0, .int .i64 0, .int .i64 0, .int .i64 0, .int .i64 0, .int .i64 0, .int .i64 0] fun b1 w2 =>
 R [.pointer (some ⟨b1, 0, none⟩)] w2
theorem tie45  (R : List Value → World → Prop) (w : World) : compF Pg Tryz.f45 ⟨[], [], [], []⟩ [] R w = sh45  R w := by kernel_rfl
theorem call45  {w : World} {K : TK [kP] → World → Prop} (h : sh45  (fun vs w' => ∃ t, encK [kP] t = vs ∧ K t w') w) : cl Pg 45 [] [kP] w K := cl_of Tryz.func45 (tie45 ..) h
def sh128 (a0 : Option Addr) (R : List Value → World → Prop) (w : World) : Prop :=
 nn a0 fun b1 o2 =>
 ldS w b1 o2 fun s3 =>
 R [.bool (decide (((s3.len : Int) : Int) > (0 : Int)))] w
theorem tie128 (a0 : Option Addr) (R : List Value → World → Prop) (w : World) : compF Pg Tryz.f128 ⟨[], [], [], []⟩ [.pointer a0] R w = sh128 a0 R w := by kernel_rfl
theorem call128 {a0 : Option Addr} {w : World} {K : TK [kB] → World → Prop} (h : sh128 a0 (fun vs w' => ∃ t, encK [kB] t = vs ∧ K t w') w) : cl Pg 128 [.pointer a0] [kB] w K := cl_of Tryz.func128 (tie128 ..) h
def sh120 (a0 : Option Addr) (R : List Value → World → Prop) (w : World) : Prop :=
 cl Pg 128 [.pointer a0] [kB] w fun (r1 : Bool × Unit) w2 =>
 jn [kB] w2 (fun (t4 : Bool × Unit) w5 =>
 jn [kB] w5 (fun (t8 : Bool × Unit) w9 =>
 R [.bool t8.1] w9) fun J7 w10 =>
 cs t4.1 (
 nn a0 fun b11 o12 =>
 ldB w10 b11 (o12 + 2) fun b13 =>
 J7 (!b13, ()) w10) (
 J7 (false, ()) w10)) fun J3 w6 =>
 cs (!r1.1) (
 nn a0 fun b14 o15 =>
 ldB w6 b14 (o15 + 1) fun b16 =>
 J3 (!b16, ()) w6) (
 J3 (false, ()) w6)
theorem tie120 (a0 : Option Addr) (R : List Value → World → Prop) (w : World) : compF Pg Tryz.f120 ⟨[], [], [], [(1, [(4, 6, ⟨[(12, kB)], [7, 8, 9, 10, 11]⟩), (11, 6, ⟨[(19, kB)], [14, 15, 16, 17, 18]⟩)])]⟩ [.pointer a0] R w = sh120 a0 R w := by kernel_rfl
theorem call120 {a0 : Option Addr} {w : World} {K : TK [kB] → World → Prop} (h : sh120 a0 (fun vs w' => ∃ t, encK [kB] t = vs ∧ K t w') w) : cl Pg 120 [.pointer a0] [kB] w K := cl_of Tryz.func120 (tie120 ..) h
def sh224 (a0 : Int) (R : List Value → World → Prop) (w : World) : Prop :=
 cs ((a0 : Int) == (0 : Int)) (
 R [.int .i64 64] w) (
 ixA 0 0 64 (Int.fdiv (IntKind.u64.wrap ((bAnd .u64 a0 (IntKind.u64.wrap (0 - a0))) * 285870213051353865)) (2 ^ 58)) 1 fun b1 o2 =>
 ldI w .u8 b1 o2 fun n3 =>
 R [.int .i64 (w64 (n3))] w)
theorem tie224 (a0 : Int) (R : List Value → World → Prop) (w : World) : compF Pg Tryz.f224 ⟨[], [], [], []⟩ [.int .u64 a0] R w = sh224 a0 R w := by kernel_rfl
theorem call224 {a0 : Int} {w : World} {K : TK [kI] → World → Prop} (h : sh224 a0 (fun vs w' => ∃ t, encK [kI] t = vs ∧ K t w') w) : cl Pg 224 [.int .u64 a0] [kI] w K := cl_of Tryz.func224 (tie224 ..) h
def sh170 (a0 : Option Addr) (a1 : Int) (R : List Value → World → Prop) (w : World) : Prop :=
 cs (decide (((if 0 > a1 then 0 else a1) : Int) ≥ (256 : Int))) (
 R [.int .i64 0, .bool false] w) (
 lp [kI] w (w64 (Int.tdiv (if 0 > a1 then 0 else a1) 64), ()) fun (t1 : Int × Unit) J2 w3 =>
 cs (decide ((t1.1 : Int) < (4 : Int))) (
 nn a0 fun b4 o5 =>
 ixA b4 o5 4 t1.1 1 fun b6 o7 =>
 ldI w3 .u64 b6 o7 fun n8 =>
 jn [.l (.i .u64)] w3 (fun (t10 : Int × Unit) w11 =>
 cs ((t10.1 : Int) != (0 : Int)) (
 cl Pg 224 [.int .u64 t10.1] [kI] w11 fun (r13 : Int × Unit) w14 =>
 R [.int .i64 (w64 ((w64 ((w64 (t1.1 * 64)) + r13.1)) + 1)), .bool true] w14) (
 J2 (w64 (t1.1 + 1), ()) w11)) fun J9 w12 =>
 cs ((t1.1 : Int) == (w64 (Int.tdiv (if 0 > a1 then 0 else a1) 64) : Int)) (
 ob (0 ≤ (Int.tmod (if 0 > a1 then 0 else a1) 64)) (
 ob (0 ≤ (Int.tmod (if 0 > a1 then 0 else a1) 64)) (
 J9 (IntKind.u64.wrap ((Int.fdiv n8 (2 ^ (min (Int.tmod (if 0 > a1 then 0 else a1) 64).toNat 64))) * 2 ^ (min (Int.tmod (if 0 > a1 then 0 else a1) 64).toNat 64)), ()) w12))) (
 J9 (n8, ()) w12)) (
 R [.int .i64 0, .bool false] w3))
theorem tie170 (a0 : Option Addr) (a1 : Int) (R : List Value → World → Prop) (w : World) : compF Pg Tryz.f170 ⟨[(2, ⟨[(6, kI)], [4, 5, 7, 14, 15, 16, 17, 18, 19, 20, 21, 22, 23, 24, 25, 26, 27, 28, 29, 30, 31, 32, 33, 34, 35, 36, 37, 38, 39, 40, 41, 42]⟩), (5, ⟨[(7, .l (.i .u64))], [28, 29, 30, 31, 32, 33, 34]⟩)], [], [], []⟩ [.pointer a0, .int .i64 a1] R w = sh170 a0 a1 R w := by kernel_rfl
theorem call170 {a0 : Option Addr} {a1 : Int} {w : World} {K : TK [kI, kB] → World → Prop} (h : sh170 a0 a1 (fun vs w' => ∃ t, encK [kI, kB] t = vs ∧ K t w') w) : cl Pg 170 [.pointer a0, .int .i64 a1] [kI, kB] w K := cl_of Tryz.func170 (tie170 ..) h
def sh169 (a0 : Option Addr) (R : List Value → World → Prop) (w : World) : Prop :=
 cl Pg 170 [.pointer a0, .int .i64 0] [kI, kB] w fun (r1 : Int × Bool × Unit) w2 =>
 R [.int .i64 r1.1, .bool r1.2.1] w2
theorem tie169 (a0 : Option Addr) (R : List Value → World → Prop) (w : World) : compF Pg Tryz.f169 ⟨[], [], [], []⟩ [.pointer a0] R w = sh169 a0 R w := by kernel_rfl
theorem call169 {a0 : Option Addr} {w : World} {K : TK [kI, kB] → World → Prop} (h : sh169 a0 (fun vs w' => ∃ t, encK [kI, kB] t = vs ∧ K t w') w) : cl Pg 169 [.pointer a0] [kI, kB] w K := cl_of Tryz.func169 (tie169 ..) h
def sh121 (a0 : Option Addr) (R : List Value → World → Prop) (w : World) : Prop :=
 nn a0 fun b1 o2 =>
 cl Pg 169 [.pointer (some ⟨b1, o2, none⟩)] [kI, kB] w fun (r3 : Int × Bool × Unit) w4 =>
 cs (!r3.2.1) (
 R [.int .i64 0, .bool false] w4) (
 nn a0 fun b5 o6 =>
 ixA b5 (o6 + 4) 17 r3.1 1 fun b7 o8 =>
 ldS w4 b7 o8 fun s9 =>
 ix s9 0 1 fun b10 o11 =>
 ldI w4 .i64 b10 o11 fun n12 =>
 R [.int .i64 n12, .bool true] w4)
theorem tie121 (a0 : Option Addr) (R : List Value → World → Prop) (w : World) : compF Pg Tryz.f121 ⟨[], [], [], []⟩ [.pointer a0] R w = sh121 a0 R w := by kernel_rfl
theorem call121 {a0 : Option Addr} {w : World} {K : TK [kI, kB] → World → Prop} (h : sh121 a0 (fun vs w' => ∃ t, encK [kI, kB] t = vs ∧ K t w') w) : cl Pg 121 [.pointer a0] [kI, kB] w K := cl_of Tryz.func121 (tie121 ..) h
def sh57 (a0 : Option Addr) (R : List Value → World → Prop) (w : World) : Prop :=
 nn a0 fun b1 o2 =>
 ldP w b1 (o2 + 6) fun p3 =>
 nn p3 fun b4 o5 =>
 cl Pg 120 [.pointer (some ⟨b4, o5, none⟩)] [kB] w fun (r6 : Bool × Unit) w7 =>
 cs r6.1 (
 nn a0 fun b8 o9 =>
 ldP w7 b8 (o9 + 8) fun p10 =>
 cl Pg 121 [.pointer p10] [kI, kB] w7 fun (r11 : Int × Bool × Unit) w12 =>
 nn a0 fun b13 o14 =>
 st1 w12 b13 (o14 + 12) (.int .i64 r11.1) fun w15 =>
 R [] w15) (
 R [] w7)
theorem tie57 (a0 : Option Addr) (R : List Value → World → Prop) (w : World) : compF Pg Tryz.f57 ⟨[], [], [], []⟩ [.pointer a0] R w = sh57 a0 R w := by kernel_rfl
theorem call57 {a0 : Option Addr} {w : World} {K : TK [] → World → Prop} (h : sh57 a0 (fun vs w' => ∃ t, encK [] t = vs ∧ K t w') w) : cl Pg 57 [.pointer a0] [] w K := cl_of Tryz.func57 (tie57 ..) h
def sh229  (R : List Value → World → Prop) (w : World) : Prop :=
 al w 329 [.slice none 0 0, .int .i64 0] fun b1 w2 =>
 R [.pointer (some ⟨b1, 0, none⟩)] w2
theorem tie229  (R : List Value → World → Prop) (w : World) : compF Pg Tryz.f229 ⟨[], [], [], []⟩ [] R w = sh229  R w := by kernel_rfl
theorem call229  {w : World} {K : TK [kP] → World → Prop} (h : sh229  (fun vs w' => ∃ t, encK [kP] t = vs ∧ K t w') w) : cl Pg 229 [] [kP] w K := cl_of Tryz.func229 (tie229 ..) h
def sh186 (a0 : Int) (R : List Value → World → Prop) (w : World) : Prop :=
 jn [kB] w (fun (t2 : Bool × Unit) w3 =>
 cs t2.1 (
 R [.pointer none, .int .i64 (-17)] w3) (
 cl Pg 229 [] [kP] w3 fun (r5 : Option Addr × Unit) w6 =>
 al w6 223 [.pointer r5.1, .int .u64 (IntKind.u64.wrap (a0)), .int .u64 0, .int .u64 0] fun b7 w8 =>
 R [.pointer (some ⟨b7, 0, none⟩), .int .i64 0] w8)) fun J1 w4 =>
 cs (decide ((a0 : Int) < (1 : Int))) (
 J1 (true, ()) w4) (
 J1 (decide ((a0 : Int) > (1000 : Int)), ()) w4)
theorem tie186 (a0 : Int) (R : List Value → World → Prop) (w : World) : compF Pg Tryz.f186 ⟨[], [], [], [(1, [(3, 3, ⟨[(9, kB)], [7, 8]⟩)])]⟩ [.int .i64 a0] R w = sh186 a0 R w := by kernel_rfl
theorem call186 {a0 : Int} {w : World} {K : TK [kP, kI] → World → Prop} (h : sh186 a0 (fun vs w' => ∃ t, encK [kP, kI] t = vs ∧ K t w') w) : cl Pg 186 [.int .i64 a0] [kP, kI] w K := cl_of Tryz.func186 (tie186 ..) h
def sh101 (a0 : Int) (R : List Value → World → Prop) (w : World) : Prop :=
 cl Pg 186 [.int .i64 a0] [kP, kI] w fun (r1 : Option Addr × Int × Unit) w2 =>
 cs ((r1.2.1 : Int) != (0 : Int)) (
 R [.pointer none, .int .i64 r1.2.1] w2) (
 al w2 147 [.pointer r1.1, .int .u64 (IntKind.u64.wrap (a0)), .slice none 0 0, .slice none 0 0] fun b3 w4 =>
 R [.pointer (some ⟨b3, 0, none⟩), .int .i64 0] w4)
theorem tie101 (a0 : Int) (R : List Value → World → Prop) (w : World) : compF Pg Tryz.f101 ⟨[], [], [], []⟩ [.int .i64 a0] R w = sh101 a0 R w := by kernel_rfl
theorem call101 {a0 : Int} {w : World} {K : TK [kP, kI] → World → Prop} (h : sh101 a0 (fun vs w' => ∃ t, encK [kP, kI] t = vs ∧ K t w') w) : cl Pg 101 [.int .i64 a0] [kP, kI] w K := cl_of Tryz.func101 (tie101 ..) h
def sh173 (a0 : Sl) (R : List Value → World → Prop) (w : World) : Prop :=
 lp [kI] w ((0 : Int), ()) fun (t1 : Int × Unit) J2 w3 =>
 cs (decide ((t1.1 : Int) < ((a0.len : Int) : Int))) (
 ix a0 t1.1 6 fun b4 o5 =>
 ldG w3 b4 o5 fun g6 =>
 ldG w3 b4 (o5 + 1) fun g7 =>
 ldI w3 .i64 b4 (o5 + 2) fun n8 =>
 ldI w3 .i64 b4 (o5 + 3) fun n9 =>
 ldI w3 .i64 b4 (o5 + 4) fun n10 =>
 ldF w3 b4 (o5 + 5) fun f11 =>
 al w3 273 [.string ByteArray.empty, .string ByteArray.empty, .int .i64 0, .int .i64 0, .int .i64 0, .nilFunc] fun b12 w13 =>
 st1 w13 b12 0 (.string g6) fun w14 =>
 st1 w14 b12 (0 + 1) (.string g7) fun w15 =>
 st1 w15 b12 (0 + 2) (.int .i64 n8) fun w16 =>
 st1 w16 b12 (0 + 3) (.int .i64 n9) fun w17 =>
 st1 w17 b12 (0 + 4) (.int .i64 n10) fun w18 =>
 st1 w18 b12 (0 + 5) (vF f11) fun w19 =>
 ldI w19 .i64 b12 (0 + 2) fun n20 =>
 ldI w19 .i64 b12 (0 + 3) fun n21 =>
 jn [kB] w19 (fun (t23 : Bool × Unit) w24 =>
 cs t23.1 (
 ldG w24 b12 (0 + 1) fun g26 =>
 R [.string g26, .int .i64 0, .int .i64 (-17)] w24) (
 ldI w24 .i64 b12 (0 + 2) fun n27 =>
 lp [kI] w24 ((0 : Int), ()) fun (t28 : Int × Unit) J29 w30 =>
 cs (decide ((t28.1 : Int) < (n27 : Int))) (
 ldF w30 b12 (0 + 5) fun f31 =>
 ob (enterable Pg f31.fid = true) (
 cl Pg f31.fid (f31.pre ++ ([.int .i64 t28.1] ++ f31.post)) [kI] w30 fun (r32 : Int × Unit) w33 =>
 cs ((r32.1 : Int) != (0 : Int)) (
 ldG w33 b12 0 fun g34 =>
 R [.string g34, .int .i64 (w64 (t28.1 + 1)), .int .i64 r32.1] w33) (
 J29 (w64 (t28.1 + 1), ()) w33))) (
 J2 (w64 (t1.1 + 1), ()) w30))) fun J22 w25 =>
 cs (decide ((n20 : Int) < (n21 : Int))) (
 J22 (true, ()) w25) (
 ldI w25 .i64 b12 (0 + 2) fun n35 =>
 ldI w25 .i64 b12 (0 + 4) fun n36 =>
 J22 (decide ((n35 : Int) > (n36 : Int)), ()) w25)) (
 R [.string (bs []), .int .i64 0, .int .i64 0] w3)
theorem tie173 (a0 : Sl) (R : List Value → World → Prop) (w : World) : compF Pg Tryz.f173 ⟨[(1, ⟨[(11, kI)], [2, 3, 4, 6, 7, 8, 12, 13, 14, 15, 16, 17, 18, 19, 20, 21, 22, 23, 24, 25, 26, 27, 28, 29, 30, 31, 32, 33, 34, 35, 36, 37, 38, 39, 40, 41, 42, 43, 44, 45, 46]⟩), (6, ⟨[(31, kI)], [2, 3, 4, 7, 8, 32, 33, 34, 35, 36, 37, 38, 39, 40, 41, 42, 43, 44, 45]⟩)], [], [], [(4, [(6, 6, ⟨[(26, kB)], [21, 22, 23, 24, 25]⟩)])]⟩ [vS a0] R w = sh173 a0 R w := by kernel_rfl
theorem call173 {a0 : Sl} {w : World} {K : TK [.l .g, kI, kI] → World → Prop} (h : sh173 a0 (fun vs w' => ∃ t, encK [.l .g, kI, kI] t = vs ∧ K t w') w) : cl Pg 173 [vS a0] [.l .g, kI, kI] w K := cl_of Tryz.func173 (tie173 ..) h
def sh174 (a0 : Int) (c0 : Nat) (R : List Value → World → Prop) (w : World) : Prop :=
 ldS w c0 (0 + 1) fun s1 =>
 ix s1 a0 2 fun b2 o3 =>
 ldI w .i64 b2 o3 fun n4 =>
 jn [kB] w (fun (t6 : Bool × Unit) w7 =>
 cs t6.1 (
 R [.int .i64 (-17)] w7) (
 R [.int .i64 0] w7)) fun J5 w8 =>
 cs (decide ((n4 : Int) < (1 : Int))) (
 J5 (true, ()) w8) (
 J5 (decide ((n4 : Int) > (16 : Int)), ()) w8)
theorem tie174 (a0 : Int) (c0 : Nat) (R : List Value → World → Prop) (w : World) : compF Pg Tryz.f174 ⟨[], [], [], [(2, [(3, 3, ⟨[(16, kB)], [14, 15]⟩)])]⟩ [.int .i64 a0, .pointer (some ⟨c0, 0, none⟩)] R w = sh174 a0 c0 R w := by kernel_rfl
theorem call174 {a0 : Int} {c0 : Nat} {w : World} {K : TK [kI] → World → Prop} (h : sh174 a0 c0 (fun vs w' => ∃ t, encK [kI] t = vs ∧ K t w') w) : cl Pg 174 [.int .i64 a0, .pointer (some ⟨c0, 0, none⟩)] [kI] w K := cl_of Tryz.func174 (tie174 ..) h
def sh175 (a0 : ByteArray) (a1 : Int) (a2 : Fv) (R : List Value → World → Prop) (w : World) : Prop :=
 al w 273 [.string ByteArray.empty, .string ByteArray.empty, .int .i64 0, .int .i64 0, .int .i64 0, .nilFunc] fun b1 w2 =>
 st1 w2 b1 0 (.string a0) fun w3 =>
 st1 w3 b1 (0 + 1) (.string a0) fun w4 =>
 st1 w4 b1 (0 + 2) (.int .i64 a1) fun w5 =>
 st1 w5 b1 (0 + 3) (.int .i64 0) fun w6 =>
 st1 w6 b1 (0 + 4) (.int .i64 8) fun w7 =>
 st1 w7 b1 (0 + 5) (vF a2) fun w8 =>
 ldG w8 b1 0 fun g9 =>
 ldG w8 b1 (0 + 1) fun g10 =>
 ldI w8 .i64 b1 (0 + 2) fun n11 =>
 ldI w8 .i64 b1 (0 + 3) fun n12 =>
 ldI w8 .i64 b1 (0 + 4) fun n13 =>
 ldF w8 b1 (0 + 5) fun f14 =>
 R [.agg #[.string g9, .string g10, .int .i64 n11, .int .i64 n12, .int .i64 n13, vF f14]] w8
theorem tie175 (a0 : ByteArray) (a1 : Int) (a2 : Fv) (R : List Value → World → Prop) (w : World) : compF Pg Tryz.f175 ⟨[], [], [], []⟩ [.string a0, .int .i64 a1, vF a2] R w = sh175 a0 a1 a2 R w := by kernel_rfl
theorem call175 {a0 : ByteArray} {a1 : Int} {a2 : Fv} {w : World} {K : TK [.a [.g, .g, (.i .i64), (.i .i64), (.i .i64), .f]] → World → Prop} (h : sh175 a0 a1 a2 (fun vs w' => ∃ t, encK [.a [.g, .g, (.i .i64), (.i .i64), (.i .i64), .f]] t = vs ∧ K t w') w) : cl Pg 175 [.string a0, .int .i64 a1, vF a2] [.a [.g, .g, (.i .i64), (.i .i64), (.i .i64), .f]] w K := cl_of Tryz.func175 (tie175 ..) h
def sh44 (a0 : Bool) (R : List Value → World → Prop) (w : World) : Prop :=
 al w 115 [.slice none 0 0, .bool a0] fun b1 w2 =>
 R [.pointer (some ⟨b1, 0, none⟩)] w2
theorem tie44 (a0 : Bool) (R : List Value → World → Prop) (w : World) : compF Pg Tryz.f44 ⟨[], [], [], []⟩ [.bool a0] R w = sh44 a0 R w := by kernel_rfl
theorem call44 {a0 : Bool} {w : World} {K : TK [kP] → World → Prop} (h : sh44 a0 (fun vs w' => ∃ t, encK [kP] t = vs ∧ K t w') w) : cl Pg 44 [.bool a0] [kP] w K := cl_of Tryz.func44 (tie44 ..) h
def sh43 (a0 : Bool) (a1 : Int) (a2 : Int) (R : List Value → World → Prop) (w : World) : Prop :=
 jn [kB] w (fun (t2 : Bool × Unit) w3 =>
 jn [kB] w3 (fun (t6 : Bool × Unit) w7 =>
 jn [kB] w7 (fun (t10 : Bool × Unit) w11 =>
 cs t10.1 (
 R [.pointer none, .int .i64 (-17)] w11) (
 cl Pg 44 [.bool a0] [kP] w11 fun (r13 : Option Addr × Unit) w14 =>
 al w14 111 [.pointer r13.1, .int .i64 a1, .int .i64 a2] fun b15 w16 =>
 R [.pointer (some ⟨b15, 0, none⟩), .int .i64 0] w16)) fun J9 w12 =>
 cs t6.1 (
 J9 (true, ()) w12) (
 J9 (decide ((a1 : Int) > (a2 : Int)), ()) w12)) fun J5 w8 =>
 cs t2.1 (
 J5 (true, ()) w8) (
 J5 (decide ((a1 : Int) < (0 : Int)), ()) w8)) fun J1 w4 =>
 cs (decide ((a2 : Int) < (1 : Int))) (
 J1 (true, ()) w4) (
 J1 (decide ((a2 : Int) > (65535 : Int)), ()) w4)
theorem tie43 (a0 : Bool) (a1 : Int) (a2 : Int) (R : List Value → World → Prop) (w : World) : compF Pg Tryz.f43 ⟨[], [], [], [(1, [(3, 3, ⟨[(13, kB)], [11, 12]⟩), (7, 3, ⟨[(17, kB)], [15, 16]⟩), (11, 4, ⟨[(22, kB)], [19, 20, 21]⟩)])]⟩ [.bool a0, .int .i64 a1, .int .i64 a2] R w = sh43 a0 a1 a2 R w := by kernel_rfl
theorem call43 {a0 : Bool} {a1 : Int} {a2 : Int} {w : World} {K : TK [kP, kI] → World → Prop} (h : sh43 a0 a1 a2 (fun vs w' => ∃ t, encK [kP, kI] t = vs ∧ K t w') w) : cl Pg 43 [.bool a0, .int .i64 a1, .int .i64 a2] [kP, kI] w K := cl_of Tryz.func43 (tie43 ..) h
def sh176 (a0 : Int) (c0 : Nat) (R : List Value → World → Prop) (w : World) : Prop :=
 dr w fun w1 =>
 ldS w1 c0 (0 + 2) fun s2 =>
 ix s2 a0 3 fun b3 o4 =>
 ldB w1 b3 o4 fun b5 =>
 ldS w1 c0 (0 + 2) fun s6 =>
 ix s6 a0 3 fun b7 o8 =>
 ldI w1 .i64 b7 (o8 + 1) fun n9 =>
 ldS w1 c0 (0 + 2) fun s10 =>
 ix s10 a0 3 fun b11 o12 =>
 ldI w1 .i64 b11 (o12 + 2) fun n13 =>
 cl Pg 43 [.bool b5, .int .i64 n9, .int .i64 n13] [kP, kI] w1 fun (r14 : Option Addr × Int × Unit) w15 =>
 R [.int .i64 r14.2.1] w15
theorem tie176 (a0 : Int) (c0 : Nat) (R : List Value → World → Prop) (w : World) : compF Pg Tryz.f176 ⟨[], [], [(1, .l [(0, []), (1, []), (2, []), (3, []), (4, []), (5, []), (6, []), (7, []), (8, []), (9, []), (10, []), (11, []), (12, []), (13, []), (14, []), (15, []), (16, []), (17, []), (18, [5, 11, 17, 4, 10, 16, 3, 9, 15, 1, 2, 7, 8, 13, 14, 0, 6, 12]), (19, []), (20, []), (21, []), (22, []), (23, [])])], []⟩ [.int .i64 a0, .pointer (some ⟨c0, 0, none⟩)] R w = sh176 a0 c0 R w := by kernel_rfl
theorem call176 {a0 : Int} {c0 : Nat} {w : World} {K : TK [kI] → World → Prop} (h : sh176 a0 c0 (fun vs w' => ∃ t, encK [kI] t = vs ∧ K t w') w) : cl Pg 176 [.int .i64 a0, .pointer (some ⟨c0, 0, none⟩)] [kI] w K := cl_of Tryz.func176 (tie176 ..) h
def sh179 (a0 : Bool) (a1 : Int) (R : List Value → World → Prop) (w : World) : Prop :=
 jn [kB] w (fun (t2 : Bool × Unit) w3 =>
 cs t2.1 (
 R [.pointer none, .int .i64 (-17)] w3) (
 cl Pg 44 [.bool a0] [kP] w3 fun (r5 : Option Addr × Unit) w6 =>
 cl Pg 44 [.bool false] [kP] w6 fun (r7 : Option Addr × Unit) w8 =>
 ef Pg (Instr.makeMap 294 none) [kM] w8 fun (r9 : Option Nat × Unit) w10 =>
 al w10 296 [.pointer r5.1, .pointer r7.1, .int .i64 a1, .slice none 0 0, .map r9.1] fun b11 w12 =>
 R [.pointer (some ⟨b11, 0, none⟩), .int .i64 0] w12)) fun J1 w4 =>
 cs (decide ((a1 : Int) < (0 : Int))) (
 J1 (true, ()) w4) (
 J1 (decide ((a1 : Int) > (64 : Int)), ()) w4)
theorem tie179 (a0 : Bool) (a1 : Int) (R : List Value → World → Prop) (w : World) : compF Pg Tryz.f179 ⟨[], [], [], [(1, [(3, 3, ⟨[(11, kB)], [9, 10]⟩)])]⟩ [.bool a0, .int .i64 a1] R w = sh179 a0 a1 R w := by kernel_rfl
theorem call179 {a0 : Bool} {a1 : Int} {w : World} {K : TK [kP, kI] → World → Prop} (h : sh179 a0 a1 (fun vs w' => ∃ t, encK [kP, kI] t = vs ∧ K t w') w) : cl Pg 179 [.bool a0, .int .i64 a1] [kP, kI] w K := cl_of Tryz.func179 (tie179 ..) h
def sh178 (a0 : Int) (c0 : Nat) (R : List Value → World → Prop) (w : World) : Prop :=
 dr w fun w1 =>
 ldS w1 c0 (0 + 4) fun s2 =>
 ix s2 a0 2 fun b3 o4 =>
 ldB w1 b3 o4 fun b5 =>
 ldS w1 c0 (0 + 4) fun s6 =>
 ix s6 a0 2 fun b7 o8 =>
 ldI w1 .i64 b7 (o8 + 1) fun n9 =>
 cl Pg 179 [.bool b5, .int .i64 n9] [kP, kI] w1 fun (r10 : Option Addr × Int × Unit) w11 =>
 R [.int .i64 r10.2.1] w11
theorem tie178 (a0 : Int) (c0 : Nat) (R : List Value → World → Prop) (w : World) : compF Pg Tryz.f178 ⟨[], [], [(1, .l [(0, []), (1, []), (2, []), (3, []), (4, []), (5, []), (6, []), (7, []), (8, []), (9, []), (10, []), (11, []), (12, [5, 11, 4, 10, 3, 9, 1, 2, 7, 8, 0, 6]), (13, []), (14, []), (15, []), (16, []), (17, [])])], []⟩ [.int .i64 a0, .pointer (some ⟨c0, 0, none⟩)] R w = sh178 a0 c0 R w := by kernel_rfl
theorem call178 {a0 : Int} {c0 : Nat} {w : World} {K : TK [kI] → World → Prop} (h : sh178 a0 c0 (fun vs w' => ∃ t, encK [kI] t = vs ∧ K t w') w) : cl Pg 178 [.int .i64 a0, .pointer (some ⟨c0, 0, none⟩)] [kI] w K := cl_of Tryz.func178 (tie178 ..) h
def sh61 (a0 : (Int × Int × Unit)) (R : List Value → World → Prop) (w : World) : Prop :=
 al w 47 [.int .i64 a0.1, .int .i64 a0.2.1] fun b1 w2 =>
 ldI w2 .i64 b1 0 fun n3 =>
 jn [kB] w2 (fun (t5 : Bool × Unit) w6 =>
 cs t5.1 (
 ldI w6 .i64 b1 (0 + 1) fun n8 =>
 R [.bool ((n8 : Int) == (0 : Int))] w6) (
 cs ((n3 : Int) == (3 : Int)) (
 ldI w6 .i64 b1 (0 + 1) fun n9 =>
 cl Pg 63 [.int .i64 n9] [kB] w6 fun (r10 : Bool × Unit) w11 =>
 R [.bool r10.1] w11) (
 R [.bool false] w6))) fun J4 w7 =>
 cs ((n3 : Int) == (0 : Int)) (
 J4 (true, ()) w7) (
 jn [kB] w7 (fun (t13 : Bool × Unit) w14 =>
 J4 (t13.1, ()) w14) fun J12 w15 =>
 cs ((n3 : Int) == (1 : Int)) (
 J12 (true, ()) w15) (
 J12 ((n3 : Int) == (2 : Int), ()) w15))
theorem tie61 (a0 : (Int × Int × Unit)) (R : List Value → World → Prop) (w : World) : compF Pg Tryz.f61 ⟨[(1, ⟨[(5, kB)], [7, 8]⟩), (2, ⟨[(5, kB)], [8]⟩)], [], [], []⟩ [.agg #[.int .i64 a0.1, .int .i64 a0.2.1]] R w = sh61 a0 R w := by kernel_rfl
theorem call61 {a0 : (Int × Int × Unit)} {w : World} {K : TK [kB] → World → Prop} (h : sh61 a0 (fun vs w' => ∃ t, encK [kB] t = vs ∧ K t w') w) : cl Pg 61 [.agg #[.int .i64 a0.1, .int .i64 a0.2.1]] [kB] w K := cl_of Tryz.func61 (tie61 ..) h
def sh30 (a0 : Sl) (R : List Value → World → Prop) (w : World) : Prop :=
 cs (decide (((a0.len : Int) : Int) > (8 : Int))) (
 R [.pointer none, .int .i64 (-17)] w) (
 ef Pg (Instr.makeSlice 151 (.int .i64 1) (.int .i64 (w64 ((a0.len : Int) + 1)))) [kS] w fun (r1 : Sl × Unit) w2 =>
 al w2 156 [vS r1.1, .int .i64 0, .int .i64 0, .int .i64 0, .int .i64 0, .int .i64 0, .int .i64 0, .int .i64 0, .int .i64 0, .int .i64 0, .int .i64 0, .int .i64 0, .int .i64 0, .int .i64 0, .int .i64 0, .int .i64 0, .int .i64 0, .int .i64 0, .int .i64 0, .int .i64 0, .int .i64 0, .int .i64 0, .int .i64 0, .int .i64 0, .int .i64 0, .int .i64 0, .int .i64 0, .int .i64 0, .int .i64 0, .int .i64 0, .int .i64 0, .int .i64 0, .int .i64 0, .int .i64 0, .int .i64 0, .int .i64 0, .int .i64 0, .int .i64 0, .int .i64 0, .int .i64 0, .int .i64 0, .int .i64 0, .int .i64 0, .int .i64 0, .int .i64 0, .int .i64 0, .int .i64 0, .int .i64 0, .int .i64 0, .int .i64 0, .int .i64 0, .int .i64 0] fun b3 w4 =>
 lp [kI] w4 ((0 : Int), ()) fun (t5 : Int × Unit) J6 w7 =>
 cs (decide ((t5.1 : Int) < ((a0.len : Int) : Int))) (
 ix a0 t5.1 2 fun b8 o9 =>
 ldI w7 .i64 b8 o9 fun n10 =>
 ldI w7 .i64 b8 (o9 + 1) fun n11 =>
 al w7 47 [.int .i64 0, .int .i64 0] fun b12 w13 =>
 st1 w13 b12 0 (.int .i64 n10) fun w14 =>
 st1 w14 b12 (0 + 1) (.int .i64 n11) fun w15 =>
 ldI w15 .i64 b12 0 fun n16 =>
 ldI w15 .i64 b12 (0 + 1) fun n17 =>
 cl Pg 61 [.agg #[.int .i64 n16, .int .i64 n17]] [kB] w15 fun (r18 : Bool × Unit) w19 =>
 cs (!r18.1) (
 R [.pointer none, .int .i64 (-17)] w19) (
 dr w19 fun w20 =>
 nn (some ⟨b3, 0, none⟩) fun b21 o22 =>
 ldS w20 b21 o22 fun s23 =>
 ldI w20 .i64 b12 0 fun n24 =>
 ldI w20 .i64 b12 (0 + 1) fun n25 =>
 al w20 158 [.int .i64 n24, .int .i64 n25, .int .i64 0, .slice none 0 0] fun b26 w27 =>
(w27.cell? ⟨b21, o22, none⟩ = some (vS s23)) ∧ (
 ef Pg (Builtin.append_ #[151, 151] 151 #[vS s23, vS ⟨some ⟨b26, 0, none⟩, 1, 1⟩]) [kS] w27 fun (r28 : Sl × Unit) w29 =>
 nn (some ⟨b3, 0, none⟩) fun b30 o31 =>
 st1 w29 b30 o31 (vS r28.1) fun w32 =>
 J6 (w64 (t5.1 + 1), ()) w32))) (
 lp [kI] w7 ((0 : Int), ()) fun (t33 : Int × Unit) J34 w35 =>
 cs (decide ((t33.1 : Int) < (17 : Int))) (
 nn (some ⟨b3, 0, none⟩) fun b36 o37 =>
 ixA b36 (o37 + 1) 17 t33.1 3 fun b38 o39 =>
 st1 w35 b38 o39 (.int .i64 16) fun w40 =>
 st1 w40 b38 (o39 + 1) (.int .i64 16) fun w41 =>
 st1 w41 b38 (o39 + 2) (.int .i64 0) fun w42 =>
 J34 (w64 (t33.1 + 1), ()) w42) (
 R [.pointer (some ⟨b3, 0, none⟩), .int .i64 0] w35)))
theorem tie30 (a0 : Sl) (R : List Value → World → Prop) (w : World) : compF Pg Tryz.f30 ⟨[(2, ⟨[(19, kI)], [2, 3, 6, 20, 21, 22, 23, 24, 25, 26, 27, 28, 29, 30, 31, 32, 33, 34, 35, 36, 37]⟩), (7, ⟨[(38, kI)], [7, 39, 40, 41, 42, 43, 44, 45, 46, 47]⟩)], [], [(9, .l [(0, []), (1, []), (2, []), (3, []), (4, []), (5, []), (6, []), (7, [6, 5]), (8, [4, 7, 3, 6, 2, 5, 1]), (9, []), (10, []), (11, [10, 8, 0, 1, 2, 3, 4, 5, 6, 7, 9])])], []⟩ [vS a0] R w = sh30 a0 R w := by kernel_rfl
theorem call30 {a0 : Sl} {w : World} {K : TK [kP, kI] → World → Prop} (h : sh30 a0 (fun vs w' => ∃ t, encK [kP, kI] t = vs ∧ K t w') w) : cl Pg 30 [vS a0] [kP, kI] w K := cl_of Tryz.func30 (tie30 ..) h
def sh180 (a0 : Int) (c0 : Nat) (R : List Value → World → Prop) (w : World) : Prop :=
 ldS w c0 (0 + 5) fun s1 =>
 ix s1 a0 2 fun b2 o3 =>
 ldI w .i64 b2 o3 fun n4 =>
 ldI w .i64 b2 (o3 + 1) fun n5 =>
 al w 47 [.int .i64 n4, .int .i64 n5] fun b6 w7 =>
 cl Pg 30 [vS ⟨some ⟨b6, 0, none⟩, 1, 1⟩] [kP, kI] w7 fun (r8 : Option Addr × Int × Unit) w9 =>
 R [.int .i64 r8.2.1] w9
theorem tie180 (a0 : Int) (c0 : Nat) (R : List Value → World → Prop) (w : World) : compF Pg Tryz.f180 ⟨[], [], [], []⟩ [.int .i64 a0, .pointer (some ⟨c0, 0, none⟩)] R w = sh180 a0 c0 R w := by kernel_rfl
theorem call180 {a0 : Int} {c0 : Nat} {w : World} {K : TK [kI] → World → Prop} (h : sh180 a0 c0 (fun vs w' => ∃ t, encK [kI] t = vs ∧ K t w') w) : cl Pg 180 [.int .i64 a0, .pointer (some ⟨c0, 0, none⟩)] [kI] w K := cl_of Tryz.func180 (tie180 ..) h
def sh127 (a0 : Int) (a1 : Int) (R : List Value → World → Prop) (w : World) : Prop :=
 jn [kB] w (fun (t2 : Bool × Unit) w3 =>
 jn [kB] w3 (fun (t6 : Bool × Unit) w7 =>
 jn [kB] w7 (fun (t10 : Bool × Unit) w11 =>
 cs t10.1 (
 R [.int .i64 a0] w11) (
 ob (a1 ≠ 0) (
 R [.int .i64 (w64 ((w64 (Int.tdiv (w64 ((w64 (a0 + a1)) - 1)) a1)) * a1))] w11))) fun J9 w12 =>
 cs t6.1 (
 J9 (true, ()) w12) (
 J9 (decide ((a1 : Int) > (4096 : Int)), ()) w12)) fun J5 w8 =>
 cs t2.1 (
 J5 (true, ()) w8) (
 J5 (decide ((a1 : Int) < (1 : Int)), ()) w8)) fun J1 w4 =>
 cs (decide ((a0 : Int) < (0 : Int))) (
 J1 (true, ()) w4) (
 J1 (decide ((a0 : Int) > (1073741824 : Int)), ()) w4)
theorem tie127 (a0 : Int) (a1 : Int) (R : List Value → World → Prop) (w : World) : compF Pg Tryz.f127 ⟨[], [], [], [(1, [(3, 3, ⟨[(10, kB)], [8, 9]⟩), (7, 3, ⟨[(14, kB)], [12, 13]⟩), (11, 3, ⟨[(18, kB)], [16, 17]⟩)])]⟩ [.int .i64 a0, .int .i64 a1] R w = sh127 a0 a1 R w := by kernel_rfl
theorem call127 {a0 : Int} {a1 : Int} {w : World} {K : TK [kI] → World → Prop} (h : sh127 a0 a1 (fun vs w' => ∃ t, encK [kI] t = vs ∧ K t w') w) : cl Pg 127 [.int .i64 a0, .int .i64 a1] [kI] w K := cl_of Tryz.func127 (tie127 ..) h
def sh71 (a0 : Int) (a1 : (Bool × Int × Int × Unit)) (R : List Value → World → Prop) (w : World) : Prop :=
 al w 88 [.bool a1.1, .int .i64 a1.2.1, .int .i64 a1.2.2.1] fun b1 w2 =>
 cl Pg 127 [.int .i64 a0, .int .i64 4] [kI] w2 fun (r3 : Int × Unit) w4 =>
 ldI w4 .i64 b1 (0 + 1) fun n5 =>
 jn [kB] w4 (fun (t7 : Bool × Unit) w8 =>
 jn [kB] w8 (fun (t11 : Bool × Unit) w12 =>
 jn [kB] w12 (fun (t15 : Bool × Unit) w16 =>
 cs t15.1 (
 R [.int .i64 r3.1, .int .i64 r3.1] w16) (
 dr w16 fun w18 =>
 ldI w18 .i64 b1 (0 + 1) fun n19 =>
 ldI w18 .i64 b1 (0 + 2) fun n20 =>
 cl Pg 127 [.int .i64 n20, .int .i64 4] [kI] w18 fun (r21 : Int × Unit) w22 =>
(w22.cell? ⟨b1, 0 + 1, none⟩ = some (.int .i64 n19)) ∧ (
 R [.int .i64 r3.1, .int .i64 (w64 (r3.1 + (w64 (n19 * r21.1))))] w22))) fun J14 w17 =>
 cs t11.1 (
 J14 (true, ()) w17) (
 ldI w17 .i64 b1 (0 + 2) fun n23 =>
 J14 (decide ((n23 : Int) > (65536 : Int)), ()) w17)) fun J10 w13 =>
 cs t7.1 (
 J10 (true, ()) w13) (
 ldI w13 .i64 b1 (0 + 2) fun n24 =>
 J10 (decide ((n24 : Int) < (0 : Int)), ()) w13)) fun J6 w9 =>
 cs (decide ((n5 : Int) < (0 : Int))) (
 J6 (true, ()) w9) (
 ldI w9 .i64 b1 (0 + 1) fun n25 =>
 J6 (decide ((n25 : Int) > (65536 : Int)), ()) w9)
theorem tie71 (a0 : Int) (a1 : (Bool × Int × Int × Unit)) (R : List Value → World → Prop) (w : World) : compF Pg Tryz.f71 ⟨[], [], [(4, .l [(0, []), (1, []), (2, []), (3, []), (4, []), (5, []), (6, [5, 4]), (7, []), (8, []), (9, []), (10, [])])], [(2, [(4, 4, ⟨[(15, kB)], [12, 13, 14]⟩), (9, 4, ⟨[(20, kB)], [17, 18, 19]⟩), (14, 4, ⟨[(25, kB)], [22, 23, 24]⟩)])]⟩ [.int .i64 a0, .agg #[.bool a1.1, .int .i64 a1.2.1, .int .i64 a1.2.2.1]] R w = sh71 a0 a1 R w := by kernel_rfl
theorem call71 {a0 : Int} {a1 : (Bool × Int × Int × Unit)} {w : World} {K : TK [kI, kI] → World → Prop} (h : sh71 a0 a1 (fun vs w' => ∃ t, encK [kI, kI] t = vs ∧ K t w') w) : cl Pg 71 [.int .i64 a0, .agg #[.bool a1.1, .int .i64 a1.2.1, .int .i64 a1.2.2.1]] [kI, kI] w K := cl_of Tryz.func71 (tie71 ..) h
def sh182 (a0 : Bool) (a1 : Int) (a2 : Int) (a3 : Int) (R : List Value → World → Prop) (w : World) : Prop :=
 jn [kB] w (fun (t2 : Bool × Unit) w3 =>
 jn [kB] w3 (fun (t6 : Bool × Unit) w7 =>
 jn [kB] w7 (fun (t10 : Bool × Unit) w11 =>
 jn [kB] w11 (fun (t14 : Bool × Unit) w15 =>
 jn [kB] w15 (fun (t18 : Bool × Unit) w19 =>
 jn [kB] w19 (fun (t22 : Bool × Unit) w23 =>
 jn [kB] w23 (fun (t26 : Bool × Unit) w27 =>
 cs t26.1 (
 R [.pointer none, .int .i64 (-17)] w27) (
 cl Pg 44 [.bool a0] [kP] w27 fun (r29 : Option Addr × Unit) w30 =>
 al w30 169 [.pointer r29.1, .int .i64 a1, .int .i64 a2, .int .i64 a3, .int .i64 0, .slice none 0 0, .slice none 0 0] fun b31 w32 =>
 R [.pointer (some ⟨b31, 0, none⟩), .int .i64 0] w32)) fun J25 w28 =>
 cs t22.1 (
 J25 (true, ()) w28) (
 cl Pg 127 [.int .i64 a3, .int .i64 4] [kI] w28 fun (r33 : Int × Unit) w34 =>
 J25 (decide ((w64 (a2 * r33.1) : Int) > (w64 (65536 - a1) : Int)), ()) w34)) fun J21 w24 =>
 cs t18.1 (
 J21 (true, ()) w24) (
 J21 ((Int.tmod a1 4 : Int) != (0 : Int), ()) w24)) fun J17 w20 =>
 cs t14.1 (
 J17 (true, ()) w20) (
 J17 (decide ((a1 : Int) > (65536 : Int)), ()) w20)) fun J13 w16 =>
 cs t10.1 (
 J13 (true, ()) w16) (
 J13 (decide ((a1 : Int) < (0 : Int)), ()) w16)) fun J9 w12 =>
 cs t6.1 (
 J9 (true, ()) w12) (
 J9 (decide ((a3 : Int) > (4096 : Int)), ()) w12)) fun J5 w8 =>
 cs t2.1 (
 J5 (true, ()) w8) (
 J5 (decide ((a3 : Int) < (1 : Int)), ()) w8)) fun J1 w4 =>
 cs (decide ((a2 : Int) < (1 : Int))) (
 J1 (true, ()) w4) (
 J1 (decide ((a2 : Int) > (256 : Int)), ()) w4)
theorem tie182 (a0 : Bool) (a1 : Int) (a2 : Int) (a3 : Int) (R : List Value → World → Prop) (w : World) : compF Pg Tryz.f182 ⟨[], [], [], [(1, [(3, 3, ⟨[(15, kB)], [13, 14]⟩), (7, 3, ⟨[(19, kB)], [17, 18]⟩), (11, 3, ⟨[(23, kB)], [21, 22]⟩), (15, 3, ⟨[(27, kB)], [25, 26]⟩), (19, 3, ⟨[(31, kB)], [29, 30]⟩), (23, 4, ⟨[(36, kB)], [33, 34, 35]⟩), (28, 8, ⟨[(45, kB)], [38, 39, 40, 41, 42, 43, 44]⟩)])]⟩ [.bool a0, .int .i64 a1, .int .i64 a2, .int .i64 a3] R w = sh182 a0 a1 a2 a3 R w := by kernel_rfl
theorem call182 {a0 : Bool} {a1 : Int} {a2 : Int} {a3 : Int} {w : World} {K : TK [kP, kI] → World → Prop} (h : sh182 a0 a1 a2 a3 (fun vs w' => ∃ t, encK [kP, kI] t = vs ∧ K t w') w) : cl Pg 182 [.bool a0, .int .i64 a1, .int .i64 a2, .int .i64 a3] [kP, kI] w K := cl_of Tryz.func182 (tie182 ..) h
def sh181 (a0 : Int) (c0 : Nat) (c1 : Nat) (R : List Value → World → Prop) (w : World) : Prop :=
 dr w fun w1 =>
 ldI w1 .i64 c0 0 fun n2 =>
 ldS w1 c1 (0 + 6) fun s3 =>
 ix s3 a0 3 fun b4 o5 =>
 ldB w1 b4 o5 fun b6 =>
 ldI w1 .i64 b4 (o5 + 1) fun n7 =>
 ldI w1 .i64 b4 (o5 + 2) fun n8 =>
 cl Pg 71 [.int .i64 n2, .agg #[.bool b6, .int .i64 n7, .int .i64 n8]] [kI, kI] w1 fun (r9 : Int × Int × Unit) w10 =>
 dr w10 fun w11 =>
 ldS w11 c1 (0 + 6) fun s12 =>
 ix s12 a0 3 fun b13 o14 =>
 ldB w11 b13 o14 fun b15 =>
 ldS w11 c1 (0 + 6) fun s16 =>
 ix s16 a0 3 fun b17 o18 =>
 ldI w11 .i64 b17 (o18 + 1) fun n19 =>
 ldS w11 c1 (0 + 6) fun s20 =>
 ix s20 a0 3 fun b21 o22 =>
 ldI w11 .i64 b21 (o22 + 2) fun n23 =>
 cl Pg 182 [.bool b15, .int .i64 r9.1, .int .i64 n19, .int .i64 n23] [kP, kI] w11 fun (r24 : Option Addr × Int × Unit) w25 =>
 st1 w25 c0 0 (.int .i64 r9.2.1) fun w26 =>
 R [.int .i64 r24.2.1] w26
theorem tie181 (a0 : Int) (c0 : Nat) (c1 : Nat) (R : List Value → World → Prop) (w : World) : compF Pg Tryz.f181 ⟨[], [], [(1, .l [(0, []), (1, []), (2, []), (3, []), (4, []), (5, []), (6, [0, 5, 4, 2, 3, 1]), (7, []), (8, []), (9, []), (10, []), (11, [])]), (2, .l [(0, []), (1, []), (2, []), (3, []), (4, []), (5, []), (6, []), (7, []), (8, []), (9, []), (10, []), (11, []), (12, []), (13, []), (14, []), (15, []), (16, []), (17, []), (18, []), (19, [5, 6, 12, 18, 4, 11, 17, 3, 10, 16, 1, 2, 8, 9, 14, 15, 0, 7, 13]), (20, []), (21, []), (22, []), (23, []), (24, [])])], []⟩ [.int .i64 a0, .pointer (some ⟨c0, 0, none⟩), .pointer (some ⟨c1, 0, none⟩)] R w = sh181 a0 c0 c1 R w := by kernel_rfl
theorem call181 {a0 : Int} {c0 : Nat} {c1 : Nat} {w : World} {K : TK [kI] → World → Prop} (h : sh181 a0 c0 c1 (fun vs w' => ∃ t, encK [kI] t = vs ∧ K t w') w) : cl Pg 181 [.int .i64 a0, .pointer (some ⟨c0, 0, none⟩), .pointer (some ⟨c1, 0, none⟩)] [kI] w K := cl_of Tryz.func181 (tie181 ..) h
def sh107 (a0 : Option Addr) (R : List Value → World → Prop) (w : World) : Prop :=
 nn a0 fun b1 o2 =>
 ldI w .u64 b1 (o2 + 2) fun n3 =>
 R [.int .u64 n3] w
theorem tie107 (a0 : Option Addr) (R : List Value → World → Prop) (w : World) : compF Pg Tryz.f107 ⟨[], [], [], []⟩ [.pointer a0] R w = sh107 a0 R w := by kernel_rfl
theorem call107 {a0 : Option Addr} {w : World} {K : TK [.l (.i .u64)] → World → Prop} (h : sh107 a0 (fun vs w' => ∃ t, encK [.l (.i .u64)] t = vs ∧ K t w') w) : cl Pg 107 [.pointer a0] [.l (.i .u64)] w K := cl_of Tryz.func107 (tie107 ..) h
def sh137 (a0 : Int) (R : List Value → World → Prop) (w : World) : Prop :=
 jn [kB] w (fun (t2 : Bool × Unit) w3 =>
 cs t2.1 (
 R [.int .u64 0, .int .i64 (-17)] w3) (
 R [.int .u64 (IntKind.u64.wrap (a0)), .int .i64 0] w3)) fun J1 w4 =>
 cs (decide ((a0 : Int) < (0 : Int))) (
 J1 (true, ()) w4) (
 J1 (decide ((a0 : Int) > (2147483647 : Int)), ()) w4)
theorem tie137 (a0 : Int) (R : List Value → World → Prop) (w : World) : compF Pg Tryz.f137 ⟨[], [], [], [(1, [(3, 3, ⟨[(9, kB)], [7, 8]⟩)])]⟩ [.int .i64 a0] R w = sh137 a0 R w := by kernel_rfl
theorem call137 {a0 : Int} {w : World} {K : TK [.l (.i .u64), kI] → World → Prop} (h : sh137 a0 (fun vs w' => ∃ t, encK [.l (.i .u64), kI] t = vs ∧ K t w') w) : cl Pg 137 [.int .i64 a0] [.l (.i .u64), kI] w K := cl_of Tryz.func137 (tie137 ..) h
def sh98 (a0 : (Int × Sl × Sl × Sl × Sl × Sl × Sl × Sl × Int × Unit)) (R : List Value → World → Prop) (w : World) : Prop :=
 al w 33 [.int .i64 a0.1, vS a0.2.1, vS a0.2.2.1, vS a0.2.2.2.1, vS a0.2.2.2.2.1, vS a0.2.2.2.2.2.1, vS a0.2.2.2.2.2.2.1, vS a0.2.2.2.2.2.2.2.1, .int .i64 a0.2.2.2.2.2.2.2.2.1] fun b1 w2 =>
 ldI w2 .i64 b1 0 fun n3 =>
 cl Pg 101 [.int .i64 n3] [kP, kI] w2 fun (r4 : Option Addr × Int × Unit) w5 =>
 al w5 129 [.pointer none] fun b6 w7 =>
 st1 w7 b6 0 (.pointer r4.1) fun w8 =>
 cs ((r4.2.1 : Int) != (0 : Int)) (
 R [.string (bs [116, 105, 99]), .int .i64 0, .int .i64 r4.2.1] w8) (
 al w8 3 [.int .i64 0] fun b9 w10 =>
 st1 w10 b9 0 (.int .i64 0) fun w11 =>
 dr w11 fun w12 =>
 ldS w12 b1 (0 + 1) fun s13 =>
 ldS w12 b1 (0 + 2) fun s14 =>
 ldS w12 b1 (0 + 3) fun s15 =>
 ldS w12 b1 (0 + 4) fun s16 =>
 ldS w12 b1 (0 + 5) fun s17 =>
 ldS w12 b1 (0 + 6) fun s18 =>
 ldS w12 b1 (0 + 7) fun s19 =>
 ldI w12 .i64 b1 (0 + 8) fun n20 =>
 cl Pg 175 [.string (bs [115, 101, 109]), .int .i64 (s14.len : Int), .func (.func 176) #[] #[.pointer (some ⟨b1, 0, none⟩)]] [.a [.g, .g, (.i .i64), (.i .i64), (.i .i64), .f]] w12 fun (r21 : (ByteArray × ByteArray × Int × Int × Int × Fv × Unit) × Unit) w22 =>
(w22.cell? ⟨b1, 0 + 8, none⟩ = some (.int .i64 n20)) ∧ (
(w22.cell? ⟨b1, 0 + 7, none⟩ = some (vS s19)) ∧ (
(w22.cell? ⟨b1, 0 + 6, none⟩ = some (vS s18)) ∧ (
(w22.cell? ⟨b1, 0 + 5, none⟩ = some (vS s17)) ∧ (
(w22.cell? ⟨b1, 0 + 4, none⟩ = some (vS s16)) ∧ (
(w22.cell? ⟨b1, 0 + 3, none⟩ = some (vS s15)) ∧ (
(w22.cell? ⟨b1, 0 + 1, none⟩ = some (vS s13)) ∧ (
 cl Pg 175 [.string (bs [102, 108, 97, 103]), .int .i64 (s15.len : Int), .func (.func 177) #[] #[]] [.a [.g, .g, (.i .i64), (.i .i64), (.i .i64), .f]] w22 fun (r23 : (ByteArray × ByteArray × Int × Int × Int × Fv × Unit) × Unit) w24 =>
(w24.cell? ⟨b1, 0 + 8, none⟩ = some (.int .i64 n20)) ∧ (
(w24.cell? ⟨b1, 0 + 7, none⟩ = some (vS s19)) ∧ (
(w24.cell? ⟨b1, 0 + 6, none⟩ = some (vS s18)) ∧ (
(w24.cell? ⟨b1, 0 + 5, none⟩ = some (vS s17)) ∧ (
(w24.cell? ⟨b1, 0 + 4, none⟩ = some (vS s16)) ∧ (
(w24.cell? ⟨b1, 0 + 1, none⟩ = some (vS s13)) ∧ (
 cl Pg 175 [.string (bs [100, 97, 116, 97]), .int .i64 (s16.len : Int), .func (.func 178) #[] #[.pointer (some ⟨b1, 0, none⟩)]] [.a [.g, .g, (.i .i64), (.i .i64), (.i .i64), .f]] w24 fun (r25 : (ByteArray × ByteArray × Int × Int × Int × Fv × Unit) × Unit) w26 =>
(w26.cell? ⟨b1, 0 + 8, none⟩ = some (.int .i64 n20)) ∧ (
(w26.cell? ⟨b1, 0 + 7, none⟩ = some (vS s19)) ∧ (
(w26.cell? ⟨b1, 0 + 6, none⟩ = some (vS s18)) ∧ (
(w26.cell? ⟨b1, 0 + 5, none⟩ = some (vS s17)) ∧ (
(w26.cell? ⟨b1, 0 + 1, none⟩ = some (vS s13)) ∧ (
 cl Pg 175 [.string (bs [109, 116, 120]), .int .i64 (s17.len : Int), .func (.func 180) #[] #[.pointer (some ⟨b1, 0, none⟩)]] [.a [.g, .g, (.i .i64), (.i .i64), (.i .i64), .f]] w26 fun (r27 : (ByteArray × ByteArray × Int × Int × Int × Fv × Unit) × Unit) w28 =>
(w28.cell? ⟨b1, 0 + 8, none⟩ = some (.int .i64 n20)) ∧ (
(w28.cell? ⟨b1, 0 + 7, none⟩ = some (vS s19)) ∧ (
(w28.cell? ⟨b1, 0 + 6, none⟩ = some (vS s18)) ∧ (
(w28.cell? ⟨b1, 0 + 1, none⟩ = some (vS s13)) ∧ (
 cl Pg 175 [.string (bs [112, 111, 111, 108]), .int .i64 (s18.len : Int), .func (.func 181) #[] #[.pointer (some ⟨b9, 0, none⟩), .pointer (some ⟨b1, 0, none⟩)]] [.a [.g, .g, (.i .i64), (.i .i64), (.i .i64), .f]] w28 fun (r29 : (ByteArray × ByteArray × Int × Int × Int × Fv × Unit) × Unit) w30 =>
(w30.cell? ⟨b1, 0 + 8, none⟩ = some (.int .i64 n20)) ∧ (
(w30.cell? ⟨b1, 0 + 7, none⟩ = some (vS s19)) ∧ (
(w30.cell? ⟨b1, 0 + 1, none⟩ = some (vS s13)) ∧ (
 cl Pg 175 [.string (bs [99, 121, 99]), .int .i64 (s19.len : Int), .func (.func 183) #[] #[.pointer (some ⟨b1, 0, none⟩), .pointer (some ⟨b6, 0, none⟩)]] [.a [.g, .g, (.i .i64), (.i .i64), (.i .i64), .f]] w30 fun (r31 : (ByteArray × ByteArray × Int × Int × Int × Fv × Unit) × Unit) w32 =>
(w32.cell? ⟨b1, 0 + 8, none⟩ = some (.int .i64 n20)) ∧ (
(w32.cell? ⟨b1, 0 + 1, none⟩ = some (vS s13)) ∧ (
 cl Pg 175 [.string (bs [97, 108, 97, 114, 109]), .int .i64 n20, .func (.func 177) #[] #[]] [.a [.g, .g, (.i .i64), (.i .i64), (.i .i64), .f]] w32 fun (r33 : (ByteArray × ByteArray × Int × Int × Int × Fv × Unit) × Unit) w34 =>
(w34.cell? ⟨b1, 0 + 1, none⟩ = some (vS s13)) ∧ (
 al w34 273 [.string (bs [116, 97, 115, 107]), .string (bs [116, 97, 115, 107, 115]), .int .i64 (s13.len : Int), .int .i64 1, .int .i64 16, .func (.func 174) #[] #[.pointer (some ⟨b1, 0, none⟩)], .string r21.1.1, .string r21.1.2.1, .int .i64 r21.1.2.2.1, .int .i64 r21.1.2.2.2.1, .int .i64 r21.1.2.2.2.2.1, vF r21.1.2.2.2.2.2.1, .string r23.1.1, .string r23.1.2.1, .int .i64 r23.1.2.2.1, .int .i64 r23.1.2.2.2.1, .int .i64 r23.1.2.2.2.2.1, vF r23.1.2.2.2.2.2.1, .string r25.1.1, .string r25.1.2.1, .int .i64 r25.1.2.2.1, .int .i64 r25.1.2.2.2.1, .int .i64 r25.1.2.2.2.2.1, vF r25.1.2.2.2.2.2.1, .string r27.1.1, .string r27.1.2.1, .int .i64 r27.1.2.2.1, .int .i64 r27.1.2.2.2.1, .int .i64 r27.1.2.2.2.2.1, vF r27.1.2.2.2.2.2.1, .string r29.1.1, .string r29.1.2.1, .int .i64 r29.1.2.2.1, .int .i64 r29.1.2.2.2.1, .int .i64 r29.1.2.2.2.2.1, vF r29.1.2.2.2.2.2.1, .string r31.1.1, .string r31.1.2.1, .int .i64 r31.1.2.2.1, .int .i64 r31.1.2.2.2.1, .int .i64 r31.1.2.2.2.2.1, vF r31.1.2.2.2.2.2.1, .string r33.1.1, .string r33.1.2.1, .int .i64 r33.1.2.2.1, .int .i64 r33.1.2.2.2.1, .int .i64 r33.1.2.2.2.2.1, vF r33.1.2.2.2.2.2.1] fun b35 w36 =>
 cl Pg 173 [vS ⟨some ⟨b35, 0, none⟩, 8, 8⟩] [.l .g, kI, kI] w36 fun (r37 : ByteArray × Int × Int × Unit) w38 =>
 R [.string r37.1, .int .i64 r37.2.1, .int .i64 r37.2.2.1] w38)))))))))))))))))))))))))))))
theorem tie98 (a0 : (Int × Sl × Sl × Sl × Sl × Sl × Sl × Sl × Int × Unit)) (R : List Value → World → Prop) (w : World) : compF Pg Tryz.f98 ⟨[], [], [(5, .l [(0, []), (1, []), (2, []), (3, []), (4, []), (5, []), (6, []), (7, []), (8, []), (10, []), (11, []), (12, []), (14, []), (15, []), (16, []), (17, []), (19, []), (20, []), (21, []), (22, []), (24, []), (25, []), (26, []), (27, []), (29, []), (30, []), (31, []), (32, []), (34, []), (35, []), (9, [7, 8, 6, 5]), (13, [12, 9, 11, 7, 8, 10, 6, 5]), (18, [16, 17, 13, 15, 12, 9, 14, 11, 7, 8, 10, 6, 5]), (23, [21, 22, 18, 20, 16, 17, 13, 19, 15, 12, 9, 14, 11, 7, 8, 10, 6, 5]), (28, [26, 27, 23, 25, 21, 22, 18, 24, 20, 16, 17, 13, 19, 15, 12, 9, 14, 11, 7, 8, 10, 6, 5]), (33, [31, 32, 28, 30, 26, 27, 23, 29, 25, 21, 22, 18, 24, 20, 16, 17, 13, 19, 15, 12, 9, 14, 11, 7, 8, 10, 6, 5]), (36, [35, 33, 34, 31, 32, 28, 30, 26, 27, 23, 29, 25, 21, 22, 18, 24, 20, 16, 17, 13, 19, 15, 12, 9, 14, 11, 7, 8, 10, 6, 5]), (37, [4, 9, 13, 18, 23, 28, 33, 36, 2, 3, 7, 8, 12, 16, 17, 21, 22, 26, 27, 31, 32, 35, 1, 6, 11, 15, 20, 25, 30, 34, 0, 5, 10, 14, 19, 24, 29]), (38, [37, 36, 4, 9, 13, 18, 23, 28, 33, 35, 2, 3, 7, 8, 12, 16, 17, 21, 22, 26, 27, 31, 32, 34, 1, 6, 11, 15, 20, 25, 30, 0, 5, 10, 14, 19, 24, 29]), (39, []), (40, []), (41, []), (42, []), (43, []), (44, [])])], []⟩ [.agg #[.int .i64 a0.1, vS a0.2.1, vS a0.2.2.1, vS a0.2.2.2.1, vS a0.2.2.2.2.1, vS a0.2.2.2.2.2.1, vS a0.2.2.2.2.2.2.1, vS a0.2.2.2.2.2.2.2.1, .int .i64 a0.2.2.2.2.2.2.2.2.1]] R w = sh98 a0 R w := by kernel_rfl
theorem call98 {a0 : (Int × Sl × Sl × Sl × Sl × Sl × Sl × Sl × Int × Unit)} {w : World} {K : TK [.l .g, kI, kI] → World → Prop} (h : sh98 a0 (fun vs w' => ∃ t, encK [.l .g, kI, kI] t = vs ∧ K t w') w) : cl Pg 98 [.agg #[.int .i64 a0.1, vS a0.2.1, vS a0.2.2.1, vS a0.2.2.2.1, vS a0.2.2.2.2.1, vS a0.2.2.2.2.2.1, vS a0.2.2.2.2.2.2.1, vS a0.2.2.2.2.2.2.2.1, .int .i64 a0.2.2.2.2.2.2.2.2.1]] [.l .g, kI, kI] w K := cl_of Tryz.func98 (tie98 ..) h
def sh99  (R : List Value → World → Prop) (w : World) : Prop :=
 al w 217 [.slice none 0 0, .bool false, .bool false] fun b1 w2 =>
 R [.pointer (some ⟨b1, 0, none⟩)] w2
theorem tie99  (R : List Value → World → Prop) (w : World) : compF Pg Tryz.f99 ⟨[], [], [], []⟩ [] R w = sh99  R w := by kernel_rfl
theorem call99  {w : World} {K : TK [kP] → World → Prop} (h : sh99  (fun vs w' => ∃ t, encK [kP] t = vs ∧ K t w') w) : cl Pg 99 [] [kP] w K := cl_of Tryz.func99 (tie99 ..) h
def sh185 (a0 : (Int × Sl × Sl × Sl × Sl × Sl × Sl × Sl × Int × Unit)) (R : List Value → World → Prop) (w : World) : Prop :=
 al w 33 [.int .i64 a0.1, vS a0.2.1, vS a0.2.2.1, vS a0.2.2.2.1, vS a0.2.2.2.2.1, vS a0.2.2.2.2.2.1, vS a0.2.2.2.2.2.2.1, vS a0.2.2.2.2.2.2.2.1, .int .i64 a0.2.2.2.2.2.2.2.2.1] fun b1 w2 =>
 ldS w2 b1 (0 + 6) fun s3 =>
 lp [kS, kI, kI] w2 (⟨none, 0, 0⟩, (0 : Int), (0 : Int), ()) fun (t4 : Sl × Int × Int × Unit) J5 w6 =>
 cs (decide ((t4.2.2.1 : Int) < ((s3.len : Int) : Int))) (
 ix s3 t4.2.2.1 3 fun b7 o8 =>
 ldB w6 b7 o8 fun b9 =>
 ldI w6 .i64 b7 (o8 + 1) fun n10 =>
 ldI w6 .i64 b7 (o8 + 2) fun n11 =>
 al w6 88 [.bool false, .int .i64 0, .int .i64 0] fun b12 w13 =>
 st1 w13 b12 0 (.bool b9) fun w14 =>
 st1 w14 b12 (0 + 1) (.int .i64 n10) fun w15 =>
 st1 w15 b12 (0 + 2) (.int .i64 n11) fun w16 =>
 ldB w16 b12 0 fun b17 =>
 ldI w16 .i64 b12 (0 + 1) fun n18 =>
 ldI w16 .i64 b12 (0 + 2) fun n19 =>
 cl Pg 71 [.int .i64 t4.2.1, .agg #[.bool b17, .int .i64 n18, .int .i64 n19]] [kI, kI] w16 fun (r20 : Int × Int × Unit) w21 =>
 al w21 3 [.int .i64 r20.1] fun b22 w23 =>
 ef Pg (Builtin.append_ #[72, 72] 72 #[vS t4.1, vS ⟨some ⟨b22, 0, none⟩, 1, 1⟩]) [kS] w23 fun (r24 : Sl × Unit) w25 =>
 J5 (r24.1, r20.2.1, w64 (t4.2.2.1 + 1), ()) w25) (
 R [vS t4.1] w6)
theorem tie185 (a0 : (Int × Sl × Sl × Sl × Sl × Sl × Sl × Sl × Int × Unit)) (R : List Value → World → Prop) (w : World) : compF Pg Tryz.f185 ⟨[(1, ⟨[(3, kS), (4, kI), (12, kI)], [6, 7, 8, 13, 14, 15, 16, 17, 18, 19, 20, 21, 22, 23, 24, 25, 26, 27]⟩)], [], [], []⟩ [.agg #[.int .i64 a0.1, vS a0.2.1, vS a0.2.2.1, vS a0.2.2.2.1, vS a0.2.2.2.2.1, vS a0.2.2.2.2.2.1, vS a0.2.2.2.2.2.2.1, vS a0.2.2.2.2.2.2.2.1, .int .i64 a0.2.2.2.2.2.2.2.2.1]] R w = sh185 a0 R w := by kernel_rfl
theorem call185 {a0 : (Int × Sl × Sl × Sl × Sl × Sl × Sl × Sl × Int × Unit)} {w : World} {K : TK [kS] → World → Prop} (h : sh185 a0 (fun vs w' => ∃ t, encK [kS] t = vs ∧ K t w') w) : cl Pg 185 [.agg #[.int .i64 a0.1, vS a0.2.1, vS a0.2.2.1, vS a0.2.2.2.1, vS a0.2.2.2.2.1, vS a0.2.2.2.2.2.1, vS a0.2.2.2.2.2.2.1, vS a0.2.2.2.2.2.2.2.1, .int .i64 a0.2.2.2.2.2.2.2.2.1]] [kS] w K := cl_of Tryz.func185 (tie185 ..) h
def sh100 (a0 : Option Addr) (a1 : (Int × Sl × Sl × Sl × Sl × Sl × Sl × Sl × Int × Unit)) (R : List Value → World → Prop) (w : World) : Prop :=
 al w 33 [.int .i64 a1.1, vS a1.2.1, vS a1.2.2.1, vS a1.2.2.2.1, vS a1.2.2.2.2.1, vS a1.2.2.2.2.2.1, vS a1.2.2.2.2.2.2.1, vS a1.2.2.2.2.2.2.2.1, .int .i64 a1.2.2.2.2.2.2.2.2.1] fun b1 w2 =>
 ldS w2 b1 (0 + 5) fun s3 =>
 cl Pg 30 [vS s3] [kP, kI] w2 fun (r4 : Option Addr × Int × Unit) w5 =>
 nn a0 fun b6 o7 =>
 st1 w5 b6 (o7 + 5) (.pointer r4.1) fun w8 =>
 ldS w8 b1 (0 + 5) fun s9 =>
 nn a0 fun b10 o11 =>
 st1 w8 b10 (o11 + 4) (.int .i64 (s9.len : Int)) fun w12 =>
 ldS w12 b1 (0 + 2) fun s13 =>
 lp [kI] w12 ((0 : Int), ()) fun (t14 : Int × Unit) J15 w16 =>
 cs (decide ((t14.1 : Int) < ((s13.len : Int) : Int))) (
 ix s13 t14.1 3 fun b17 o18 =>
 ldB w16 b17 o18 fun b19 =>
 ldI w16 .i64 b17 (o18 + 1) fun n20 =>
 ldI w16 .i64 b17 (o18 + 2) fun n21 =>
 al w16 71 [.bool false, .int .i64 0, .int .i64 0] fun b22 w23 =>
 st1 w23 b22 0 (.bool b19) fun w24 =>
 st1 w24 b22 (0 + 1) (.int .i64 n20) fun w25 =>
 st1 w25 b22 (0 + 2) (.int .i64 n21) fun w26 =>
 ldB w26 b22 0 fun b27 =>
 ldI w26 .i64 b22 (0 + 1) fun n28 =>
 ldI w26 .i64 b22 (0 + 2) fun n29 =>
 cl Pg 43 [.bool b27, .int .i64 n28, .int .i64 n29] [kP, kI] w26 fun (r30 : Option Addr × Int × Unit) w31 =>
 nn a0 fun b32 o33 =>
 ldS w31 b32 o33 fun s34 =>
 al w31 100 [.pointer r30.1] fun b35 w36 =>
 ef Pg (Builtin.append_ #[122, 122] 122 #[vS s34, vS ⟨some ⟨b35, 0, none⟩, 1, 1⟩]) [kS] w36 fun (r37 : Sl × Unit) w38 =>
 nn a0 fun b39 o40 =>
 st1 w38 b39 o40 (vS r37.1) fun w41 =>
 J15 (w64 (t14.1 + 1), ()) w41) (
 ldS w16 b1 (0 + 3) fun s42 =>
 lp [kI] w16 ((0 : Int), ()) fun (t43 : Int × Unit) J44 w45 =>
 cs (decide ((t43.1 : Int) < ((s42.len : Int) : Int))) (
 ix s42 t43.1 4 fun b46 o47 =>
 ldB w45 b46 o47 fun b48 =>
 ldB w45 b46 (o47 + 1) fun b49 =>
 ldB w45 b46 (o47 + 2) fun b50 =>
 ldI w45 .u32 b46 (o47 + 3) fun n51 =>
 al w45 281 [.bool false, .bool false, .bool false, .int .u32 0] fun b52 w53 =>
 st1 w53 b52 0 (.bool b48) fun w54 =>
 st1 w54 b52 (0 + 1) (.bool b49) fun w55 =>
 st1 w55 b52 (0 + 2) (.bool b50) fun w56 =>
 st1 w56 b52 (0 + 3) (.int .u32 n51) fun w57 =>
 dr w57 fun w58 =>
 nn a0 fun b59 o60 =>
 ldS w58 b59 (o60 + 1) fun s61 =>
 ldB w58 b52 0 fun b62 =>
 ldB w58 b52 (0 + 1) fun b63 =>
 ldB w58 b52 (0 + 2) fun b64 =>
 ldI w58 .u32 b52 (0 + 3) fun n65 =>
 cl Pg 184 [.bool b62, .bool b63, .bool b64, .int .u32 n65] [kP] w58 fun (r66 : Option Addr × Unit) w67 =>
(w67.cell? ⟨b59, o60 + 1, none⟩ = some (vS s61)) ∧ (
 al w67 208 [.pointer r66.1] fun b68 w69 =>
(w69.cell? ⟨b59, o60 + 1, none⟩ = some (vS s61)) ∧ (
 ef Pg (Builtin.append_ #[123, 123] 123 #[vS s61, vS ⟨some ⟨b68, 0, none⟩, 1, 1⟩]) [kS] w69 fun (r70 : Sl × Unit) w71 =>
 nn a0 fun b72 o73 =>
 st1 w71 b72 (o73 + 1) (vS r70.1) fun w74 =>
 J44 (w64 (t43.1 + 1), ()) w74))) (
 ldS w45 b1 (0 + 4) fun s75 =>
 lp [kI] w45 ((0 : Int), ()) fun (t76 : Int × Unit) J77 w78 =>
 cs (decide ((t76.1 : Int) < ((s75.len : Int) : Int))) (
 ix s75 t76.1 2 fun b79 o80 =>
 ldB w78 b79 o80 fun b81 =>
 ldI w78 .i64 b79 (o80 + 1) fun n82 =>
 al w78 36 [.bool false, .int .i64 0] fun b83 w84 =>
 st1 w84 b83 0 (.bool b81) fun w85 =>
 st1 w85 b83 (0 + 1) (.int .i64 n82) fun w86 =>
 ldB w86 b83 0 fun b87 =>
 ldI w86 .i64 b83 (0 + 1) fun n88 =>
 cl Pg 179 [.bool b87, .int .i64 n88] [kP, kI] w86 fun (r89 : Option Addr × Int × Unit) w90 =>
 nn a0 fun b91 o92 =>
 ldS w90 b91 (o92 + 2) fun s93 =>
 al w90 209 [.pointer r89.1] fun b94 w95 =>
 ef Pg (Builtin.append_ #[124, 124] 124 #[vS s93, vS ⟨some ⟨b94, 0, none⟩, 1, 1⟩]) [kS] w95 fun (r96 : Sl × Unit) w97 =>
 nn a0 fun b98 o99 =>
 st1 w97 b98 (o99 + 2) (vS r96.1) fun w100 =>
 J77 (w64 (t76.1 + 1), ()) w100) (
 ldI w78 .i64 b1 0 fun n101 =>
 ldS w78 b1 (0 + 1) fun s102 =>
 ldS w78 b1 (0 + 2) fun s103 =>
 ldS w78 b1 (0 + 3) fun s104 =>
 ldS w78 b1 (0 + 4) fun s105 =>
 ldS w78 b1 (0 + 5) fun s106 =>
 ldS w78 b1 (0 + 6) fun s107 =>
 ldS w78 b1 (0 + 7) fun s108 =>
 ldI w78 .i64 b1 (0 + 8) fun n109 =>
 cl Pg 185 [.agg #[.int .i64 n101, vS s102, vS s103, vS s104, vS s105, vS s106, vS s107, vS s108, .int .i64 n109]] [kS] w78 fun (r110 : Sl × Unit) w111 =>
 lp [kI] w111 ((0 : Int), ()) fun (t112 : Int × Unit) J113 w114 =>
 cs (decide ((t112.1 : Int) < ((r110.1.len : Int) : Int))) (
 ix r110.1 t112.1 1 fun b115 o116 =>
 ldI w114 .i64 b115 o116 fun n117 =>
 ldS w114 b1 (0 + 6) fun s118 =>
 ix s118 t112.1 3 fun b119 o120 =>
 ldB w114 b119 o120 fun b121 =>
 ldI w114 .i64 b119 (o120 + 1) fun n122 =>
 ldI w114 .i64 b119 (o120 + 2) fun n123 =>
 al w114 88 [.bool false, .int .i64 0, .int .i64 0] fun b124 w125 =>
 st1 w125 b124 0 (.bool b121) fun w126 =>
 st1 w126 b124 (0 + 1) (.int .i64 n122) fun w127 =>
 st1 w127 b124 (0 + 2) (.int .i64 n123) fun w128 =>
 ldB w128 b124 0 fun b129 =>
 ldI w128 .i64 b124 (0 + 1) fun n130 =>
 ldI w128 .i64 b124 (0 + 2) fun n131 =>
 cl Pg 182 [.bool b129, .int .i64 n117, .int .i64 n130, .int .i64 n131] [kP, kI] w128 fun (r132 : Option Addr × Int × Unit) w133 =>
 nn a0 fun b134 o135 =>
 ldS w133 b134 (o135 + 3) fun s136 =>
 al w133 165 [.pointer r132.1] fun b137 w138 =>
 ef Pg (Builtin.append_ #[125, 125] 125 #[vS s136, vS ⟨some ⟨b137, 0, none⟩, 1, 1⟩]) [kS] w138 fun (r139 : Sl × Unit) w140 =>
 nn a0 fun b141 o142 =>
 st1 w140 b141 (o142 + 3) (vS r139.1) fun w143 =>
 J113 (w64 (t112.1 + 1), ()) w143) (
 R [] w114))))
theorem tie100 (a0 : Option Addr) (a1 : (Int × Sl × Sl × Sl × Sl × Sl × Sl × Sl × Int × Unit)) (R : List Value → World → Prop) (w : World) : compF Pg Tryz.f100 ⟨[(1, ⟨[(37, kI)], [5, 6, 7, 38, 39, 40, 41, 42, 43, 44, 45, 46, 47, 48, 49, 50, 51, 52, 53, 54, 55, 56, 57, 58, 59, 60, 61]⟩), (5, ⟨[(65, kI)], [9, 66, 67, 68, 69, 70, 71, 72, 73, 74, 75, 76, 77, 78, 79, 80, 81, 82, 83, 84, 85, 86, 87]⟩), (9, ⟨[(91, kI)], [11, 12, 13, 92, 93, 94, 95, 96, 97, 98, 99, 100, 101, 102, 103, 104, 105, 106, 107, 108, 109, 110, 111, 112, 113]⟩), (13, ⟨[(117, kI)], [14, 15, 16, 17, 18, 118, 119, 120, 121, 122, 123, 124, 125, 126, 127, 128, 129, 130, 131, 132, 133, 134, 135, 136, 137, 138, 139, 140, 141, 142, 143, 144, 145, 146, 147, 148]⟩)], [], [(12, .l [(0, []), (1, []), (2, []), (3, []), (4, []), (5, []), (6, []), (7, []), (8, []), (9, []), (10, []), (11, []), (12, []), (13, [6, 8, 10, 12, 5, 7, 9, 11]), (14, [13, 6, 8, 10, 12, 5, 7, 9, 11]), (15, [4, 14, 13, 3, 6, 8, 10, 12, 2, 5, 7, 9, 11, 1]), (16, []), (17, []), (18, [17, 15, 0, 1, 2, 3, 4, 5, 6, 7, 8, 9, 10, 11, 12, 13, 14, 16])])], []⟩ [.pointer a0, .agg #[.int .i64 a1.1, vS a1.2.1, vS a1.2.2.1, vS a1.2.2.2.1, vS a1.2.2.2.2.1, vS a1.2.2.2.2.2.1, vS a1.2.2.2.2.2.2.1, vS a1.2.2.2.2.2.2.2.1, .int .i64 a1.2.2.2.2.2.2.2.2.1]] R w = sh100 a0 a1 R w := by kernel_rfl
theorem call100 {a0 : Option Addr} {a1 : (Int × Sl × Sl × Sl × Sl × Sl × Sl × Sl × Int × Unit)} {w : World} {K : TK [] → World → Prop} (h : sh100 a0 a1 (fun vs w' => ∃ t, encK [] t = vs ∧ K t w') w) : cl Pg 100 [.pointer a0, .agg #[.int .i64 a1.1, vS a1.2.1, vS a1.2.2.1, vS a1.2.2.2.1, vS a1.2.2.2.2.1, vS a1.2.2.2.2.2.1, vS a1.2.2.2.2.2.2.1, vS a1.2.2.2.2.2.2.2.1, .int .i64 a1.2.2.2.2.2.2.2.2.1]] [] w K := cl_of Tryz.func100 (tie100 ..) h
def sh104  (R : List Value → World → Prop) (w : World) : Prop :=
 al w 142 [.int .i64 0, .int .i64 0, .int .i64 0, .int .i64 16, .bool false] fun b1 w2 =>
 R [.pointer (some ⟨b1, 0, none⟩)] w2
theorem tie104  (R : List Value → World → Prop) (w : World) : compF Pg Tryz.f104 ⟨[], [], [], []⟩ [] R w = sh104  R w := by kernel_rfl
theorem call104  {w : World} {K : TK [kP] → World → Prop} (h : sh104  (fun vs w' => ∃ t, encK [kP] t = vs ∧ K t w') w) : cl Pg 104 [] [kP] w K := cl_of Tryz.func104 (tie104 ..) h
def sh237 (a0 : Sl) (a1 : Int) (R : List Value → World → Prop) (w : World) : Prop :=
 lp [kI] w ((0 : Int), ()) fun (t1 : Int × Unit) J2 w3 =>
 cs (decide ((t1.1 : Int) < ((a0.len : Int) : Int))) (
 ix a0 t1.1 1 fun b4 o5 =>
 ldI w3 .i64 b4 o5 fun n6 =>
 cs ((a1 : Int) == (n6 : Int)) (
 R [.int .i64 t1.1] w3) (
 J2 (w64 (t1.1 + 1), ()) w3)) (
 R [.int .i64 (-1)] w3)
theorem tie237 (a0 : Sl) (a1 : Int) (R : List Value → World → Prop) (w : World) : compF Pg Tryz.f237 ⟨[(1, ⟨[(8, kI)], [4, 5, 9, 10, 11, 12, 13, 14, 15, 16, 17, 18]⟩)], [], [], []⟩ [vS a0, .int .i64 a1] R w = sh237 a0 a1 R w := by kernel_rfl
theorem call237 {a0 : Sl} {a1 : Int} {w : World} {K : TK [kI] → World → Prop} (h : sh237 a0 a1 (fun vs w' => ∃ t, encK [kI] t = vs ∧ K t w') w) : cl Pg 237 [vS a0, .int .i64 a1] [kI] w K := cl_of Tryz.func237 (tie237 ..) h
def sh243 (a0 : Sl) (a1 : Int) (R : List Value → World → Prop) (w : World) : Prop :=
 cl Pg 237 [vS a0, .int .i64 a1] [kI] w fun (r1 : Int × Unit) w2 =>
 R [.bool (decide ((r1.1 : Int) ≥ (0 : Int)))] w2
theorem tie243 (a0 : Sl) (a1 : Int) (R : List Value → World → Prop) (w : World) : compF Pg Tryz.f243 ⟨[], [], [], []⟩ [vS a0, .int .i64 a1] R w = sh243 a0 a1 R w := by kernel_rfl
theorem call243 {a0 : Sl} {a1 : Int} {w : World} {K : TK [kB] → World → Prop} (h : sh243 a0 a1 (fun vs w' => ∃ t, encK [kB] t = vs ∧ K t w') w) : cl Pg 243 [vS a0, .int .i64 a1] [kB] w K := cl_of Tryz.func243 (tie243 ..) h
def sh207 (a0 : Option Addr) (a1 : Sl) (R : List Value → World → Prop) (w : World) : Prop :=
 nn a0 fun b1 o2 =>
 ldI w .i64 b1 (o2 + 3) fun n3 =>
 cl Pg 243 [vS a1, .int .i64 n3] [kB] w fun (r4 : Bool × Unit) w5 =>
 R [.bool r4.1] w5
theorem tie207 (a0 : Option Addr) (a1 : Sl) (R : List Value → World → Prop) (w : World) : compF Pg Tryz.f207 ⟨[], [], [], []⟩ [.pointer a0, vS a1] R w = sh207 a0 a1 R w := by kernel_rfl
theorem call207 {a0 : Option Addr} {a1 : Sl} {w : World} {K : TK [kB] → World → Prop} (h : sh207 a0 a1 (fun vs w' => ∃ t, encK [kB] t = vs ∧ K t w') w) : cl Pg 207 [.pointer a0, vS a1] [kB] w K := cl_of Tryz.func207 (tie207 ..) h
def sh187 (a0 : Option Addr) (R : List Value → World → Prop) (w : World) : Prop :=
 al w 3 [.int .i64 16] fun b1 w2 =>
 cl Pg 207 [.pointer a0, vS ⟨some ⟨b1, 0, none⟩, 1, 1⟩] [kB] w2 fun (r3 : Bool × Unit) w4 =>
 cs r3.1 (
 nn a0 fun b5 o6 =>
 st1 w4 b5 (o6 + 3) (.int .i64 2) fun w7 =>
 R [.bool true, .int .i64 0] w7) (
 nn a0 fun b8 o9 =>
 ldI w4 .i64 b8 o9 fun n10 =>
 cs (decide ((n10 : Int) ≥ (7 : Int))) (
 R [.bool false, .int .i64 (-43)] w4) (
 nn a0 fun b11 o12 =>
 ldI w4 .i64 b11 o12 fun n13 =>
 nn a0 fun b14 o15 =>
 st1 w4 b14 o15 (.int .i64 (w64 (n13 + 1))) fun w16 =>
 R [.bool false, .int .i64 0] w16))
theorem tie187 (a0 : Option Addr) (R : List Value → World → Prop) (w : World) : compF Pg Tryz.f187 ⟨[], [], [], []⟩ [.pointer a0] R w = sh187 a0 R w := by kernel_rfl
theorem call187 {a0 : Option Addr} {w : World} {K : TK [kB, kI] → World → Prop} (h : sh187 a0 (fun vs w' => ∃ t, encK [kB, kI] t = vs ∧ K t w') w) : cl Pg 187 [.pointer a0] [kB, kI] w K := cl_of Tryz.func187 (tie187 ..) h
def sh35 (a0 : Option Addr) (a1 : Int) (R : List Value → World → Prop) (w : World) : Prop :=
 cl Pg 62 [.int .i64 a1] [kB] w fun (r1 : Bool × Unit) w2 =>
 cs (!r1.1) (
 R [.int .i64 0] w2) (
 nn a0 fun b3 o4 =>
 ixA b3 (o4 + 1) 17 a1 3 fun b5 o6 =>
 ldI w2 .i64 b5 (o6 + 1) fun n7 =>
 R [.int .i64 n7] w2)
theorem tie35 (a0 : Option Addr) (a1 : Int) (R : List Value → World → Prop) (w : World) : compF Pg Tryz.f35 ⟨[], [], [], []⟩ [.pointer a0, .int .i64 a1] R w = sh35 a0 a1 R w := by kernel_rfl
theorem call35 {a0 : Option Addr} {a1 : Int} {w : World} {K : TK [kI] → World → Prop} (h : sh35 a0 a1 (fun vs w' => ∃ t, encK [kI] t = vs ∧ K t w') w) : cl Pg 35 [.pointer a0, .int .i64 a1] [kI] w K := cl_of Tryz.func35 (tie35 ..) h
def sh88 (a0 : Int) (R : List Value → World → Prop) (w : World) : Prop :=
 jn [kB] w (fun (t2 : Bool × Unit) w3 =>
 R [.bool t2.1] w3) fun J1 w4 =>
 cs (decide ((a0 : Int) ≥ (1 : Int))) (
 J1 (decide ((a0 : Int) ≤ (16 : Int)), ()) w4) (
 J1 (false, ()) w4)
theorem tie88 (a0 : Int) (R : List Value → World → Prop) (w : World) : compF Pg Tryz.f88 ⟨[], [], [], [(1, [(3, 3, ⟨[(8, kB)], [6, 7]⟩)])]⟩ [.int .i64 a0] R w = sh88 a0 R w := by kernel_rfl
theorem call88 {a0 : Int} {w : World} {K : TK [kB] → World → Prop} (h : sh88 a0 (fun vs w' => ∃ t, encK [kB] t = vs ∧ K t w') w) : cl Pg 88 [.int .i64 a0] [kB] w K := cl_of Tryz.func88 (tie88 ..) h
def sh89 (a0 : Int) (R : List Value → World → Prop) (w : World) : Prop :=
 jn [kB] w (fun (t2 : Bool × Unit) w3 =>
 R [.bool t2.1] w3) fun J1 w4 =>
 cs (decide ((a0 : Int) ≥ (1 : Int))) (
 J1 (decide ((a0 : Int) ≤ (16 : Int)), ()) w4) (
 J1 (false, ()) w4)
theorem tie89 (a0 : Int) (R : List Value → World → Prop) (w : World) : compF Pg Tryz.f89 ⟨[], [], [], [(1, [(3, 3, ⟨[(8, kB)], [6, 7]⟩)])]⟩ [.int .i64 a0] R w = sh89 a0 R w := by kernel_rfl
theorem call89 {a0 : Int} {w : World} {K : TK [kB] → World → Prop} (h : sh89 a0 (fun vs w' => ∃ t, encK [kB] t = vs ∧ K t w') w) : cl Pg 89 [.int .i64 a0] [kB] w K := cl_of Tryz.func89 (tie89 ..) h
def sh223 (a0 : Int) (R : List Value → World → Prop) (w : World) : Prop :=
 jn [kB] w (fun (t2 : Bool × Unit) w3 =>
 cs t2.1 (
 R [.int .i64 0, .int .u64 0, .bool false] w3) (
 dr w3 fun w5 =>
 ob (0 ≤ (Int.tmod (w64 (a0 - 1)) 64)) (
 R [.int .i64 (w64 (Int.tdiv (w64 (a0 - 1)) 64)), .int .u64 (IntKind.u64.wrap (1 * 2 ^ (min (Int.tmod (w64 (a0 - 1)) 64).toNat 64))), .bool true] w5))) fun J1 w4 =>
 cs (decide ((a0 : Int) < (1 : Int))) (
 J1 (true, ()) w4) (
 J1 (decide ((a0 : Int) > (256 : Int)), ()) w4)
theorem tie223 (a0 : Int) (R : List Value → World → Prop) (w : World) : compF Pg Tryz.f223 ⟨[], [], [(3, .l [(0, []), (1, []), (2, []), (3, []), (4, []), (5, []), (6, []), (7, []), (8, []), (9, [])])], [(1, [(3, 3, ⟨[(10, kB)], [8, 9]⟩)])]⟩ [.int .i64 a0] R w = sh223 a0 R w := by kernel_rfl
theorem call223 {a0 : Int} {w : World} {K : TK [kI, .l (.i .u64), kB] → World → Prop} (h : sh223 a0 (fun vs w' => ∃ t, encK [kI, .l (.i .u64), kB] t = vs ∧ K t w') w) : cl Pg 223 [.int .i64 a0] [kI, .l (.i .u64), kB] w K := cl_of Tryz.func223 (tie223 ..) h
def sh168 (a0 : Option Addr) (a1 : Sl) (R : List Value → World → Prop) (w : World) : Prop :=
 lp [kI] w ((0 : Int), ()) fun (t1 : Int × Unit) J2 w3 =>
 cs (decide ((t1.1 : Int) < ((a1.len : Int) : Int))) (
 ix a1 t1.1 1 fun b4 o5 =>
 ldI w3 .i64 b4 o5 fun n6 =>
 cl Pg 223 [.int .i64 n6] [kI, .l (.i .u64), kB] w3 fun (r7 : Int × Int × Bool × Unit) w8 =>
 cs r7.2.2.1 (
 dr w8 fun w9 =>
 nn a0 fun b10 o11 =>
 ixA b10 o11 4 r7.1 1 fun b12 o13 =>
 ldI w9 .u64 b12 o13 fun n14 =>
 nn a0 fun b15 o16 =>
 ixA b15 o16 4 r7.1 1 fun b17 o18 =>
 st1 w9 b17 o18 (.int .u64 (bOr .u64 n14 r7.2.1)) fun w19 =>
 J2 (w64 (t1.1 + 1), ()) w19) (
 J2 (w64 (t1.1 + 1), ()) w8)) (
 R [] w3)
theorem tie168 (a0 : Option Addr) (a1 : Sl) (R : List Value → World → Prop) (w : World) : compF Pg Tryz.f168 ⟨[(1, ⟨[(11, kI)], [5, 6, 7, 8, 12, 13, 14, 15, 16, 17, 18, 19, 20, 21, 22, 23, 24, 25, 26, 27, 28, 29, 30, 31, 32, 33]⟩)], [], [(5, .l [(0, []), (1, []), (2, []), (3, []), (4, []), (5, []), (6, []), (7, []), (8, []), (9, []), (10, []), (11, [10, 7, 0, 1, 2, 3, 4, 5, 6, 9, 8])])], []⟩ [.pointer a0, vS a1] R w = sh168 a0 a1 R w := by kernel_rfl
theorem call168 {a0 : Option Addr} {a1 : Sl} {w : World} {K : TK [] → World → Prop} (h : sh168 a0 a1 (fun vs w' => ∃ t, encK [] t = vs ∧ K t w') w) : cl Pg 168 [.pointer a0, vS a1] [] w K := cl_of Tryz.func168 (tie168 ..) h
def sh90 (a0 : Option Addr) (a1 : Int) (a2 : Int) (R : List Value → World → Prop) (w : World) : Prop :=
 dr w fun w1 =>
 nn a0 fun b2 o3 =>
 ixA b2 (o3 + 4) 17 a2 1 fun b4 o5 =>
 ldS w1 b4 o5 fun s6 =>
 nn a0 fun b7 o8 =>
 al w1 3 [.int .i64 a1] fun b9 w10 =>
(w10.cell? ⟨b4, o5, none⟩ = some (vS s6)) ∧ (
 ef Pg (Builtin.append_ #[72, 72] 72 #[vS s6, vS ⟨some ⟨b9, 0, none⟩, 1, 1⟩]) [kS] w10 fun (r11 : Sl × Unit) w12 =>
 ixA b7 (o8 + 4) 17 a2 1 fun b13 o14 =>
 st1 w12 b13 o14 (vS r11.1) fun w15 =>
 nn a0 fun b16 o17 =>
 ixA b16 (o17 + 21) 17 a1 1 fun b18 o19 =>
 st1 w15 b18 o19 (.int .i64 a2) fun w20 =>
 nn a0 fun b21 o22 =>
 al w20 3 [.int .i64 a2] fun b23 w24 =>
 cl Pg 168 [.pointer (some ⟨b21, o22, none⟩), vS ⟨some ⟨b23, 0, none⟩, 1, 1⟩] [] w24 fun (r25 : Unit) w26 =>
 R [] w26)
theorem tie90 (a0 : Option Addr) (a1 : Int) (a2 : Int) (R : List Value → World → Prop) (w : World) : compF Pg Tryz.f90 ⟨[], [], [(0, .l [(0, []), (1, []), (2, []), (3, []), (4, []), (5, []), (6, []), (7, []), (8, []), (11, []), (12, []), (9, [8]), (10, [7, 9, 6, 8, 5, 3, 4, 2]), (13, []), (14, [13, 10, 0, 1, 2, 3, 4, 5, 6, 7, 8, 9, 12, 11])])], []⟩ [.pointer a0, .int .i64 a1, .int .i64 a2] R w = sh90 a0 a1 a2 R w := by kernel_rfl
theorem call90 {a0 : Option Addr} {a1 : Int} {a2 : Int} {w : World} {K : TK [] → World → Prop} (h : sh90 a0 a1 a2 (fun vs w' => ∃ t, encK [] t = vs ∧ K t w') w) : cl Pg 90 [.pointer a0, .int .i64 a1, .int .i64 a2] [] w K := cl_of Tryz.func90 (tie90 ..) h
def sh46 (a0 : Option Addr) (a1 : Int) (a2 : Int) (R : List Value → World → Prop) (w : World) : Prop :=
 cl Pg 88 [.int .i64 a1] [kB] w fun (r1 : Bool × Unit) w2 =>
 jn [kB] w2 (fun (t4 : Bool × Unit) w5 =>
 cs t4.1 (
 R [.int .i64 (-17)] w5) (
 nn a0 fun b7 o8 =>
 ixA b7 (o8 + 21) 17 a1 1 fun b9 o10 =>
 ldI w5 .i64 b9 o10 fun n11 =>
 cs (decide ((n11 : Int) > (0 : Int))) (
 R [.int .i64 (-41)] w5) (
 cl Pg 90 [.pointer a0, .int .i64 a1, .int .i64 a2] [] w5 fun (r12 : Unit) w13 =>
 R [.int .i64 0] w13))) fun J3 w6 =>
 cs (!r1.1) (
 J3 (true, ()) w6) (
 cl Pg 89 [.int .i64 a2] [kB] w6 fun (r14 : Bool × Unit) w15 =>
 J3 (!r14.1, ()) w15)
theorem tie46 (a0 : Option Addr) (a1 : Int) (a2 : Int) (R : List Value → World → Prop) (w : World) : compF Pg Tryz.f46 ⟨[], [], [], [(1, [(4, 4, ⟨[(15, kB)], [12, 13, 14]⟩)])]⟩ [.pointer a0, .int .i64 a1, .int .i64 a2] R w = sh46 a0 a1 a2 R w := by kernel_rfl
theorem call46 {a0 : Option Addr} {a1 : Int} {a2 : Int} {w : World} {K : TK [kI] → World → Prop} (h : sh46 a0 a1 a2 (fun vs w' => ∃ t, encK [kI] t = vs ∧ K t w') w) : cl Pg 46 [.pointer a0, .int .i64 a1, .int .i64 a2] [kI] w K := cl_of Tryz.func46 (tie46 ..) h
def sh188 (a0 : Option Addr) (a1 : Int) (R : List Value → World → Prop) (w : World) : Prop :=
 nn a0 fun b1 o2 =>
 ldS w b1 (o2 + 9) fun s3 =>
 ix s3 a1 1 fun b4 o5 =>
 ldP w b4 o5 fun p6 =>
 nn p6 fun b7 o8 =>
 ldP w b7 o8 fun p9 =>
 al w 3 [.int .i64 2] fun b10 w11 =>
 cl Pg 207 [.pointer p9, vS ⟨some ⟨b10, 0, none⟩, 1, 1⟩] [kB] w11 fun (r12 : Bool × Unit) w13 =>
 cs r12.1 (
 nn a0 fun b14 o15 =>
 ldP w13 b14 (o15 + 5) fun p16 =>
 cl Pg 35 [.pointer p16, .int .i64 a1] [kI] w13 fun (r17 : Int × Unit) w18 =>
 nn p6 fun b19 o20 =>
 st1 w18 b19 (o20 + 2) (.int .i64 r17.1) fun w21 =>
 dr w21 fun w22 =>
 nn a0 fun b23 o24 =>
 ldP w22 b23 (o24 + 8) fun p25 =>
 nn p6 fun b26 o27 =>
 ldI w22 .i64 b26 (o27 + 2) fun n28 =>
 cl Pg 46 [.pointer p25, .int .i64 a1, .int .i64 n28] [kI] w22 fun (r29 : Int × Unit) w30 =>
 R [] w30) (
 R [] w13)
theorem tie188 (a0 : Option Addr) (a1 : Int) (R : List Value → World → Prop) (w : World) : compF Pg Tryz.f188 ⟨[], [], [(3, .l [(0, []), (1, []), (2, []), (3, []), (4, []), (5, []), (6, []), (7, []), (8, []), (9, [3, 4, 8, 2, 7, 1, 6, 0, 5])])], []⟩ [.pointer a0, .int .i64 a1] R w = sh188 a0 a1 R w := by kernel_rfl
theorem call188 {a0 : Option Addr} {a1 : Int} {w : World} {K : TK [] → World → Prop} (h : sh188 a0 a1 (fun vs w' => ∃ t, encK [] t = vs ∧ K t w') w) : cl Pg 188 [.pointer a0, .int .i64 a1] [] w K := cl_of Tryz.func188 (tie188 ..) h
def sh105 (a0 : Option Addr) (a1 : Int) (R : List Value → World → Prop) (w : World) : Prop :=
 nn a0 fun b1 o2 =>
 ldS w b1 (o2 + 9) fun s3 =>
 ix s3 a1 1 fun b4 o5 =>
 ldP w b4 o5 fun p6 =>
 nn p6 fun b7 o8 =>
 ldP w b7 o8 fun p9 =>
 cl Pg 187 [.pointer p9] [kB, kI] w fun (r10 : Bool × Int × Unit) w11 =>
 cs r10.1 (
 nn a0 fun b12 o13 =>
 ldS w11 b12 (o13 + 9) fun s14 =>
 ix s14 a1 1 fun b15 o16 =>
 ldP w11 b15 o16 fun p17 =>
 nn p17 fun b18 o19 =>
 st1 w11 b18 (o19 + 6) (.int .i64 0) fun w20 =>
 st1 w20 b18 (o19 + 6 + 1) (.int .i64 0) fun w21 =>
 cl Pg 188 [.pointer a0, .int .i64 a1] [] w21 fun (r22 : Unit) w23 =>
 R [.int .i64 r10.2.1] w23) (
 R [.int .i64 r10.2.1] w11)
theorem tie105 (a0 : Option Addr) (a1 : Int) (R : List Value → World → Prop) (w : World) : compF Pg Tryz.f105 ⟨[], [], [], []⟩ [.pointer a0, .int .i64 a1] R w = sh105 a0 a1 R w := by kernel_rfl
theorem call105 {a0 : Option Addr} {a1 : Int} {w : World} {K : TK [kI] → World → Prop} (h : sh105 a0 a1 (fun vs w' => ∃ t, encK [kI] t = vs ∧ K t w') w) : cl Pg 105 [.pointer a0, .int .i64 a1] [kI] w K := cl_of Tryz.func105 (tie105 ..) h
def sh51 (a0 : (Int × Sl × Sl × Sl × Sl × Sl × Sl × Sl × Int × Unit)) (R : List Value → World → Prop) (w : World) : Prop :=
 al w 33 [.int .i64 a0.1, vS a0.2.1, vS a0.2.2.1, vS a0.2.2.2.1, vS a0.2.2.2.2.1, vS a0.2.2.2.2.2.1, vS a0.2.2.2.2.2.2.1, vS a0.2.2.2.2.2.2.2.1, .int .i64 a0.2.2.2.2.2.2.2.2.1] fun b1 w2 =>
 ldI w2 .i64 b1 0 fun n3 =>
 ldS w2 b1 (0 + 1) fun s4 =>
 ldS w2 b1 (0 + 2) fun s5 =>
 ldS w2 b1 (0 + 3) fun s6 =>
 ldS w2 b1 (0 + 4) fun s7 =>
 ldS w2 b1 (0 + 5) fun s8 =>
 ldS w2 b1 (0 + 6) fun s9 =>
 ldS w2 b1 (0 + 7) fun s10 =>
 ldI w2 .i64 b1 (0 + 8) fun n11 =>
 cl Pg 98 [.agg #[.int .i64 n3, vS s4, vS s5, vS s6, vS s7, vS s8, vS s9, vS s10, .int .i64 n11]] [.l .g, kI, kI] w2 fun (r12 : ByteArray × Int × Int × Unit) w13 =>
 cs ((r12.2.2.1 : Int) != (0 : Int)) (
 R [.pointer none, .int .i64 r12.2.2.1] w13) (
 dr w13 fun w14 =>
 ldS w14 b1 (0 + 7) fun s15 =>
 ldI w14 .i64 b1 (0 + 8) fun n16 =>
(
 cl Pg 99 [] [kP] w14 fun (r17 : Option Addr × Unit) w18 =>
(w18.cell? ⟨b1, 0 + 8, none⟩ = some (.int .i64 n16)) ∧ (
(w18.cell? ⟨b1, 0 + 7, none⟩ = some (vS s15)) ∧ (
(
 cl Pg 45 [] [kP] w18 fun (r19 : Option Addr × Unit) w20 =>
(w20.cell? ⟨b1, 0 + 8, none⟩ = some (.int .i64 n16)) ∧ (
(w20.cell? ⟨b1, 0 + 7, none⟩ = some (vS s15)) ∧ (
 al w20 138 [.pointer none] fun b21 w22 =>
(w22.cell? ⟨b1, 0 + 8, none⟩ = some (.int .i64 n16)) ∧ (
(w22.cell? ⟨b1, 0 + 7, none⟩ = some (vS s15)) ∧ (
 al w22 132 [.slice none 0 0, .slice none 0 0, .slice none 0 0, .slice none 0 0, .int .i64 0, .pointer none, .pointer r17.1, .pointer none, .pointer r19.1, vS ⟨some ⟨b21, 0, none⟩, 1, 1⟩, .int .i64 (s15.len : Int), .int .i64 n16, .int .i64 0] fun b23 w24 =>
 dr w24 fun w25 =>
 nn (some ⟨b23, 0, none⟩) fun b26 o27 =>
 ldI w25 .i64 b1 0 fun n28 =>
 ldS w25 b1 (0 + 1) fun s29 =>
 ldS w25 b1 (0 + 2) fun s30 =>
 ldS w25 b1 (0 + 3) fun s31 =>
 ldS w25 b1 (0 + 4) fun s32 =>
 ldS w25 b1 (0 + 5) fun s33 =>
 ldS w25 b1 (0 + 6) fun s34 =>
 ldS w25 b1 (0 + 7) fun s35 =>
 ldI w25 .i64 b1 (0 + 8) fun n36 =>
 cl Pg 100 [.pointer (some ⟨b26, o27, none⟩), .agg #[.int .i64 n28, vS s29, vS s30, vS s31, vS s32, vS s33, vS s34, vS s35, .int .i64 n36]] [] w25 fun (r37 : Unit) w38 =>
 ldI w38 .i64 b1 0 fun n39 =>
 cl Pg 101 [.int .i64 n39] [kP, kI] w38 fun (r40 : Option Addr × Int × Unit) w41 =>
 nn (some ⟨b23, 0, none⟩) fun b42 o43 =>
 st1 w41 b42 (o43 + 7) (.pointer r40.1) fun w44 =>
 ldS w44 b1 (0 + 7) fun s45 =>
 lp [kI] w44 ((0 : Int), ()) fun (t46 : Int × Unit) J47 w48 =>
 cs (decide ((t46.1 : Int) < ((s45.len : Int) : Int))) (
 ix s45 t46.1 4 fun b49 o50 =>
 ldI w48 .i64 b49 o50 fun n51 =>
 ldI w48 .i64 b49 (o50 + 1) fun n52 =>
 ldB w48 b49 (o50 + 2) fun b53 =>
 ldB w48 b49 (o50 + 3) fun b54 =>
 al w48 192 [.int .i64 0, .int .i64 0, .bool false, .bool false] fun b55 w56 =>
 st1 w56 b55 0 (.int .i64 n51) fun w57 =>
 st1 w57 b55 (0 + 1) (.int .i64 n52) fun w58 =>
 st1 w58 b55 (0 + 2) (.bool b53) fun w59 =>
 st1 w59 b55 (0 + 3) (.bool b54) fun w60 =>
 dr w60 fun w61 =>
 nn (some ⟨b23, 0, none⟩) fun b62 o63 =>
 ldP w61 b62 (o63 + 7) fun p64 =>
 ldI w61 .i64 b55 0 fun n65 =>
 ldI w61 .i64 b55 (0 + 1) fun n66 =>
 ldB w61 b55 (0 + 2) fun b67 =>
 ldB w61 b55 (0 + 3) fun b68 =>
 cl Pg 102 [.pointer p64, .int .i64 n65, .int .i64 n66, .bool b67, .bool b68] [kI, kI] w61 fun (r69 : Int × Int × Unit) w70 =>
 J47 (w64 (t46.1 + 1), ()) w70) (
 ldI w48 .i64 b1 (0 + 8) fun n71 =>
 lp [kI] w48 ((0 : Int), ()) fun (t72 : Int × Unit) J73 w74 =>
 cs (decide ((t72.1 : Int) < (n71 : Int))) (
 nn (some ⟨b23, 0, none⟩) fun b75 o76 =>
 ldP w74 b75 (o76 + 7) fun p77 =>
 cl Pg 103 [.pointer p77] [kI, kI] w74 fun (r78 : Int × Int × Unit) w79 =>
 J73 (w64 (t72.1 + 1), ()) w79) (
 ldS w74 b1 (0 + 1) fun s80 =>
 lp [kI] w74 ((0 : Int), ()) fun (t81 : Int × Unit) J82 w83 =>
 cs (decide ((t81.1 : Int) < ((s80.len : Int) : Int))) (
 ix s80 t81.1 2 fun b84 o85 =>
 ldI w83 .i64 b84 o85 fun n86 =>
 ldB w83 b84 (o85 + 1) fun b87 =>
 al w83 45 [.int .i64 0, .bool false] fun b88 w89 =>
 st1 w89 b88 0 (.int .i64 n86) fun w90 =>
 st1 w90 b88 (0 + 1) (.bool b87) fun w91 =>
 dr w91 fun w92 =>
 nn (some ⟨b23, 0, none⟩) fun b93 o94 =>
 ldP w92 b93 (o94 + 5) fun p95 =>
 ldI w92 .i64 b88 0 fun n96 =>
 cl Pg 31 [.pointer p95, .int .i64 (w64 (t81.1 + 1)), .int .i64 n96] [kI] w92 fun (r97 : Int × Unit) w98 =>
 dr w98 fun w99 =>
 nn (some ⟨b23, 0, none⟩) fun b100 o101 =>
 ldS w99 b100 (o101 + 9) fun s102 =>
 ldI w99 .i64 b88 0 fun n103 =>
 ldI w99 .i64 b88 0 fun n104 =>
 cl Pg 104 [] [kP] w99 fun (r105 : Option Addr × Unit) w106 =>
(w106.cell? ⟨b88, 0, none⟩ = some (.int .i64 n104)) ∧ (
(w106.cell? ⟨b88, 0, none⟩ = some (.int .i64 n103)) ∧ (
(w106.cell? ⟨b100, o101 + 9, none⟩ = some (vS s102)) ∧ (
 al w106 137 [.pointer r105.1, .int .i64 n103, .int .i64 n104, .int .i64 0, .int .i64 0, .int .i64 0, .int .i64 0, .int .i64 0] fun b107 w108 =>
(w108.cell? ⟨b100, o101 + 9, none⟩ = some (vS s102)) ∧ (
 al w108 138 [.pointer (some ⟨b107, 0, none⟩)] fun b109 w110 =>
(w110.cell? ⟨b100, o101 + 9, none⟩ = some (vS s102)) ∧ (
 ef Pg (Builtin.append_ #[130, 130] 130 #[vS s102, vS ⟨some ⟨b109, 0, none⟩, 1, 1⟩]) [kS] w110 fun (r111 : Sl × Unit) w112 =>
 nn (some ⟨b23, 0, none⟩) fun b113 o114 =>
 st1 w112 b113 (o114 + 9) (vS r111.1) fun w115 =>
 J82 (w64 (t81.1 + 1), ()) w115)))))) (
 ldS w83 b1 (0 + 1) fun s116 =>
 lp [kI] w83 ((0 : Int), ()) fun (t117 : Int × Unit) J118 w119 =>
 cs (decide ((t117.1 : Int) < ((s116.len : Int) : Int))) (
 ix s116 t117.1 2 fun b120 o121 =>
 ldI w119 .i64 b120 o121 fun n122 =>
 ldB w119 b120 (o121 + 1) fun b123 =>
 al w119 45 [.int .i64 0, .bool false] fun b124 w125 =>
 st1 w125 b124 0 (.int .i64 n122) fun w126 =>
 st1 w126 b124 (0 + 1) (.bool b123) fun w127 =>
 ldB w127 b124 (0 + 1) fun b128 =>
 cs b128 (
 cl Pg 105 [.pointer (some ⟨b23, 0, none⟩), .int .i64 (w64 (t117.1 + 1))] [kI] w127 fun (r129 : Int × Unit) w130 =>
 J118 (w64 (t117.1 + 1), ()) w130) (
 J118 (w64 (t117.1 + 1), ()) w127)) (
 cl Pg 57 [.pointer (some ⟨b23, 0, none⟩)] [] w119 fun (r131 : Unit) w132 =>
 R [.pointer (some ⟨b23, 0, none⟩), .int .i64 0] w132))))))))) ∧ (
 al w18 138 [.pointer none] fun b133 w134 =>
(w134.cell? ⟨b1, 0 + 8, none⟩ = some (.int .i64 n16)) ∧ (
(w134.cell? ⟨b1, 0 + 7, none⟩ = some (vS s15)) ∧ (
 cl Pg 45 [] [kP] w134 fun (r135 : Option Addr × Unit) w136 =>
(w136.cell? ⟨b1, 0 + 8, none⟩ = some (.int .i64 n16)) ∧ (
(w136.cell? ⟨b1, 0 + 7, none⟩ = some (vS s15)) ∧ (
 al w136 132 [.slice none 0 0, .slice none 0 0, .slice none 0 0, .slice none 0 0, .int .i64 0, .pointer none, .pointer r17.1, .pointer none, .pointer r135.1, vS ⟨some ⟨b133, 0, none⟩, 1, 1⟩, .int .i64 (s15.len : Int), .int .i64 n16, .int .i64 0] fun b137 w138 =>
 dr w138 fun w139 =>
 nn (some ⟨b137, 0, none⟩) fun b140 o141 =>
 ldI w139 .i64 b1 0 fun n142 =>
 ldS w139 b1 (0 + 1) fun s143 =>
 ldS w139 b1 (0 + 2) fun s144 =>
 ldS w139 b1 (0 + 3) fun s145 =>
 ldS w139 b1 (0 + 4) fun s146 =>
 ldS w139 b1 (0 + 5) fun s147 =>
 ldS w139 b1 (0 + 6) fun s148 =>
 ldS w139 b1 (0 + 7) fun s149 =>
 ldI w139 .i64 b1 (0 + 8) fun n150 =>
 cl Pg 100 [.pointer (some ⟨b140, o141, none⟩), .agg #[.int .i64 n142, vS s143, vS s144, vS s145, vS s146, vS s147, vS s148, vS s149, .int .i64 n150]] [] w139 fun (r151 : Unit) w152 =>
 ldI w152 .i64 b1 0 fun n153 =>
 cl Pg 101 [.int .i64 n153] [kP, kI] w152 fun (r154 : Option Addr × Int × Unit) w155 =>
 nn (some ⟨b137, 0, none⟩) fun b156 o157 =>
 st1 w155 b156 (o157 + 7) (.pointer r154.1) fun w158 =>
 ldS w158 b1 (0 + 7) fun s159 =>
 lp [kI] w158 ((0 : Int), ()) fun (t160 : Int × Unit) J161 w162 =>
 cs (decide ((t160.1 : Int) < ((s159.len : Int) : Int))) (
 ix s159 t160.1 4 fun b163 o164 =>
 ldI w162 .i64 b163 o164 fun n165 =>
 ldI w162 .i64 b163 (o164 + 1) fun n166 =>
 ldB w162 b163 (o164 + 2) fun b167 =>
 ldB w162 b163 (o164 + 3) fun b168 =>
 al w162 192 [.int .i64 0, .int .i64 0, .bool false, .bool false] fun b169 w170 =>
 st1 w170 b169 0 (.int .i64 n165) fun w171 =>
 st1 w171 b169 (0 + 1) (.int .i64 n166) fun w172 =>
 st1 w172 b169 (0 + 2) (.bool b167) fun w173 =>
 st1 w173 b169 (0 + 3) (.bool b168) fun w174 =>
 dr w174 fun w175 =>
 nn (some ⟨b137, 0, none⟩) fun b176 o177 =>
 ldP w175 b176 (o177 + 7) fun p178 =>
 ldI w175 .i64 b169 0 fun n179 =>
 ldI w175 .i64 b169 (0 + 1) fun n180 =>
 ldB w175 b169 (0 + 2) fun b181 =>
 ldB w175 b169 (0 + 3) fun b182 =>
 cl Pg 102 [.pointer p178, .int .i64 n179, .int .i64 n180, .bool b181, .bool b182] [kI, kI] w175 fun (r183 : Int × Int × Unit) w184 =>
 J161 (w64 (t160.1 + 1), ()) w184) (
 ldI w162 .i64 b1 (0 + 8) fun n185 =>
 lp [kI] w162 ((0 : Int), ()) fun (t186 : Int × Unit) J187 w188 =>
 cs (decide ((t186.1 : Int) < (n185 : Int))) (
 nn (some ⟨b137, 0, none⟩) fun b189 o190 =>
 ldP w188 b189 (o190 + 7) fun p191 =>
 cl Pg 103 [.pointer p191] [kI, kI] w188 fun (r192 : Int × Int × Unit) w193 =>
 J187 (w64 (t186.1 + 1), ()) w193) (
 ldS w188 b1 (0 + 1) fun s194 =>
 lp [kI] w188 ((0 : Int), ()) fun (t195 : Int × Unit) J196 w197 =>
 cs (decide ((t195.1 : Int) < ((s194.len : Int) : Int))) (
 ix s194 t195.1 2 fun b198 o199 =>
 ldI w197 .i64 b198 o199 fun n200 =>
 ldB w197 b198 (o199 + 1) fun b201 =>
 al w197 45 [.int .i64 0, .bool false] fun b202 w203 =>
 st1 w203 b202 0 (.int .i64 n200) fun w204 =>
 st1 w204 b202 (0 + 1) (.bool b201) fun w205 =>
 dr w205 fun w206 =>
 nn (some ⟨b137, 0, none⟩) fun b207 o208 =>
 ldP w206 b207 (o208 + 5) fun p209 =>
 ldI w206 .i64 b202 0 fun n210 =>
 cl Pg 31 [.pointer p209, .int .i64 (w64 (t195.1 + 1)), .int .i64 n210] [kI] w206 fun (r211 : Int × Unit) w212 =>
 dr w212 fun w213 =>
 nn (some ⟨b137, 0, none⟩) fun b214 o215 =>
 ldS w213 b214 (o215 + 9) fun s216 =>
 ldI w213 .i64 b202 0 fun n217 =>
 ldI w213 .i64 b202 0 fun n218 =>
 cl Pg 104 [] [kP] w213 fun (r219 : Option Addr × Unit) w220 =>
(w220.cell? ⟨b202, 0, none⟩ = some (.int .i64 n218)) ∧ (
(w220.cell? ⟨b202, 0, none⟩ = some (.int .i64 n217)) ∧ (
(w220.cell? ⟨b214, o215 + 9, none⟩ = some (vS s216)) ∧ (
 al w220 137 [.pointer r219.1, .int .i64 n217, .int .i64 n218, .int .i64 0, .int .i64 0, .int .i64 0, .int .i64 0, .int .i64 0] fun b221 w222 =>
(w222.cell? ⟨b214, o215 + 9, none⟩ = some (vS s216)) ∧ (
 al w222 138 [.pointer (some ⟨b221, 0, none⟩)] fun b223 w224 =>
(w224.cell? ⟨b214, o215 + 9, none⟩ = some (vS s216)) ∧ (
 ef Pg (Builtin.append_ #[130, 130] 130 #[vS s216, vS ⟨some ⟨b223, 0, none⟩, 1, 1⟩]) [kS] w224 fun (r225 : Sl × Unit) w226 =>
 nn (some ⟨b137, 0, none⟩) fun b227 o228 =>
 st1 w226 b227 (o228 + 9) (vS r225.1) fun w229 =>
 J196 (w64 (t195.1 + 1), ()) w229)))))) (
 ldS w197 b1 (0 + 1) fun s230 =>
 lp [kI] w197 ((0 : Int), ()) fun (t231 : Int × Unit) J232 w233 =>
 cs (decide ((t231.1 : Int) < ((s230.len : Int) : Int))) (
 ix s230 t231.1 2 fun b234 o235 =>
 ldI w233 .i64 b234 o235 fun n236 =>
 ldB w233 b234 (o235 + 1) fun b237 =>
 al w233 45 [.int .i64 0, .bool false] fun b238 w239 =>
 st1 w239 b238 0 (.int .i64 n236) fun w240 =>
 st1 w240 b238 (0 + 1) (.bool b237) fun w241 =>
 ldB w241 b238 (0 + 1) fun b242 =>
 cs b242 (
 cl Pg 105 [.pointer (some ⟨b137, 0, none⟩), .int .i64 (w64 (t231.1 + 1))] [kI] w241 fun (r243 : Int × Unit) w244 =>
 J232 (w64 (t231.1 + 1), ()) w244) (
 J232 (w64 (t231.1 + 1), ()) w241)) (
 cl Pg 57 [.pointer (some ⟨b137, 0, none⟩)] [] w233 fun (r245 : Unit) w246 =>
 R [.pointer (some ⟨b137, 0, none⟩), .int .i64 0] w246)))))))))))) ∧ (
 al w14 138 [.pointer none] fun b247 w248 =>
(w248.cell? ⟨b1, 0 + 8, none⟩ = some (.int .i64 n16)) ∧ (
(w248.cell? ⟨b1, 0 + 7, none⟩ = some (vS s15)) ∧ (
 cl Pg 99 [] [kP] w248 fun (r249 : Option Addr × Unit) w250 =>
(w250.cell? ⟨b1, 0 + 8, none⟩ = some (.int .i64 n16)) ∧ (
(w250.cell? ⟨b1, 0 + 7, none⟩ = some (vS s15)) ∧ (
 cl Pg 45 [] [kP] w250 fun (r251 : Option Addr × Unit) w252 =>
(w252.cell? ⟨b1, 0 + 8, none⟩ = some (.int .i64 n16)) ∧ (
(w252.cell? ⟨b1, 0 + 7, none⟩ = some (vS s15)) ∧ (
 al w252 132 [.slice none 0 0, .slice none 0 0, .slice none 0 0, .slice none 0 0, .int .i64 0, .pointer none, .pointer r249.1, .pointer none, .pointer r251.1, vS ⟨some ⟨b247, 0, none⟩, 1, 1⟩, .int .i64 (s15.len : Int), .int .i64 n16, .int .i64 0] fun b253 w254 =>
 dr w254 fun w255 =>
 nn (some ⟨b253, 0, none⟩) fun b256 o257 =>
 ldI w255 .i64 b1 0 fun n258 =>
 ldS w255 b1 (0 + 1) fun s259 =>
 ldS w255 b1 (0 + 2) fun s260 =>
 ldS w255 b1 (0 + 3) fun s261 =>
 ldS w255 b1 (0 + 4) fun s262 =>
 ldS w255 b1 (0 + 5) fun s263 =>
 ldS w255 b1 (0 + 6) fun s264 =>
 ldS w255 b1 (0 + 7) fun s265 =>
 ldI w255 .i64 b1 (0 + 8) fun n266 =>
 cl Pg 100 [.pointer (some ⟨b256, o257, none⟩), .agg #[.int .i64 n258, vS s259, vS s260, vS s261, vS s262, vS s263, vS s264, vS s265, .int .i64 n266]] [] w255 fun (r267 : Unit) w268 =>
 ldI w268 .i64 b1 0 fun n269 =>
 cl Pg 101 [.int .i64 n269] [kP, kI] w268 fun (r270 : Option Addr × Int × Unit) w271 =>
 nn (some ⟨b253, 0, none⟩) fun b272 o273 =>
 st1 w271 b272 (o273 + 7) (.pointer r270.1) fun w274 =>
 ldS w274 b1 (0 + 7) fun s275 =>
 lp [kI] w274 ((0 : Int), ()) fun (t276 : Int × Unit) J277 w278 =>
 cs (decide ((t276.1 : Int) < ((s275.len : Int) : Int))) (
 ix s275 t276.1 4 fun b279 o280 =>
 ldI w278 .i64 b279 o280 fun n281 =>
 ldI w278 .i64 b279 (o280 + 1) fun n282 =>
 ldB w278 b279 (o280 + 2) fun b283 =>
 ldB w278 b279 (o280 + 3) fun b284 =>
 al w278 192 [.int .i64 0, .int .i64 0, .bool false, .bool false] fun b285 w286 =>
 st1 w286 b285 0 (.int .i64 n281) fun w287 =>
 st1 w287 b285 (0 + 1) (.int .i64 n282) fun w288 =>
 st1 w288 b285 (0 + 2) (.bool b283) fun w289 =>
 st1 w289 b285 (0 + 3) (.bool b284) fun w290 =>
 dr w290 fun w291 =>
 nn (some ⟨b253, 0, none⟩) fun b292 o293 =>
 ldP w291 b292 (o293 + 7) fun p294 =>
 ldI w291 .i64 b285 0 fun n295 =>
 ldI w291 .i64 b285 (0 + 1) fun n296 =>
 ldB w291 b285 (0 + 2) fun b297 =>
 ldB w291 b285 (0 + 3) fun b298 =>
 cl Pg 102 [.pointer p294, .int .i64 n295, .int .i64 n296, .bool b297, .bool b298] [kI, kI] w291 fun (r299 : Int × Int × Unit) w300 =>
 J277 (w64 (t276.1 + 1), ()) w300) (
 ldI w278 .i64 b1 (0 + 8) fun n301 =>
 lp [kI] w278 ((0 : Int), ()) fun (t302 : Int × Unit) J303 w304 =>
 cs (decide ((t302.1 : Int) < (n301 : Int))) (
 nn (some ⟨b253, 0, none⟩) fun b305 o306 =>
 ldP w304 b305 (o306 + 7) fun p307 =>
 cl Pg 103 [.pointer p307] [kI, kI] w304 fun (r308 : Int × Int × Unit) w309 =>
 J303 (w64 (t302.1 + 1), ()) w309) (
 ldS w304 b1 (0 + 1) fun s310 =>
 lp [kI] w304 ((0 : Int), ()) fun (t311 : Int × Unit) J312 w313 =>
 cs (decide ((t311.1 : Int) < ((s310.len : Int) : Int))) (
 ix s310 t311.1 2 fun b314 o315 =>
 ldI w313 .i64 b314 o315 fun n316 =>
 ldB w313 b314 (o315 + 1) fun b317 =>
 al w313 45 [.int .i64 0, .bool false] fun b318 w319 =>
 st1 w319 b318 0 (.int .i64 n316) fun w320 =>
 st1 w320 b318 (0 + 1) (.bool b317) fun w321 =>
 dr w321 fun w322 =>
 nn (some ⟨b253, 0, none⟩) fun b323 o324 =>
 ldP w322 b323 (o324 + 5) fun p325 =>
 ldI w322 .i64 b318 0 fun n326 =>
 cl Pg 31 [.pointer p325, .int .i64 (w64 (t311.1 + 1)), .int .i64 n326] [kI] w322 fun (r327 : Int × Unit) w328 =>
 dr w328 fun w329 =>
 nn (some ⟨b253, 0, none⟩) fun b330 o331 =>
 ldS w329 b330 (o331 + 9) fun s332 =>
 ldI w329 .i64 b318 0 fun n333 =>
 ldI w329 .i64 b318 0 fun n334 =>
 cl Pg 104 [] [kP] w329 fun (r335 : Option Addr × Unit) w336 =>
(w336.cell? ⟨b318, 0, none⟩ = some (.int .i64 n334)) ∧ (
(w336.cell? ⟨b318, 0, none⟩ = some (.int .i64 n333)) ∧ (
(w336.cell? ⟨b330, o331 + 9, none⟩ = some (vS s332)) ∧ (
 al w336 137 [.pointer r335.1, .int .i64 n333, .int .i64 n334, .int .i64 0, .int .i64 0, .int .i64 0, .int .i64 0, .int .i64 0] fun b337 w338 =>
(w338.cell? ⟨b330, o331 + 9, none⟩ = some (vS s332)) ∧ (
 al w338 138 [.pointer (some ⟨b337, 0, none⟩)] fun b339 w340 =>
(w340.cell? ⟨b330, o331 + 9, none⟩ = some (vS s332)) ∧ (
 ef Pg (Builtin.append_ #[130, 130] 130 #[vS s332, vS ⟨some ⟨b339, 0, none⟩, 1, 1⟩]) [kS] w340 fun (r341 : Sl × Unit) w342 =>
 nn (some ⟨b253, 0, none⟩) fun b343 o344 =>
 st1 w342 b343 (o344 + 9) (vS r341.1) fun w345 =>
 J312 (w64 (t311.1 + 1), ()) w345)))))) (
 ldS w313 b1 (0 + 1) fun s346 =>
 lp [kI] w313 ((0 : Int), ()) fun (t347 : Int × Unit) J348 w349 =>
 cs (decide ((t347.1 : Int) < ((s346.len : Int) : Int))) (
 ix s346 t347.1 2 fun b350 o351 =>
 ldI w349 .i64 b350 o351 fun n352 =>
 ldB w349 b350 (o351 + 1) fun b353 =>
 al w349 45 [.int .i64 0, .bool false] fun b354 w355 =>
 st1 w355 b354 0 (.int .i64 n352) fun w356 =>
 st1 w356 b354 (0 + 1) (.bool b353) fun w357 =>
 ldB w357 b354 (0 + 1) fun b358 =>
 cs b358 (
 cl Pg 105 [.pointer (some ⟨b253, 0, none⟩), .int .i64 (w64 (t347.1 + 1))] [kI] w357 fun (r359 : Int × Unit) w360 =>
 J348 (w64 (t347.1 + 1), ()) w360) (
 J348 (w64 (t347.1 + 1), ()) w357)) (
 cl Pg 57 [.pointer (some ⟨b253, 0, none⟩)] [] w349 fun (r361 : Unit) w362 =>
 R [.pointer (some ⟨b253, 0, none⟩), .int .i64 0] w362))))))))))))
theorem tie51 (a0 : (Int × Sl × Sl × Sl × Sl × Sl × Sl × Sl × Int × Unit)) (R : List Value → World → Prop) (w : World) : compF Pg Tryz.f51 ⟨[(2, ⟨[(50, kI)], [9, 51, 52, 53, 54, 55, 56, 57, 58, 59, 60, 61, 62, 63, 64, 65, 66, 67]⟩), (6, ⟨[(70, kI)], [71, 72, 73, 74, 75, 76, 77]⟩), (10, ⟨[(81, kI)], [10, 11, 82, 83, 84, 85, 86, 87, 88, 89, 90, 91, 92, 93, 94, 95, 96, 97, 98, 99, 100, 101, 102, 103, 104, 105, 106, 107, 108, 109, 110, 111, 112]⟩), (14, ⟨[(116, kI)], [12, 13, 117, 118, 119, 120, 121, 122, 123, 124, 125, 126, 127]⟩)], [], [(4, .t [(3, []), (4, []), (5, []), (6, []), (7, [])] 0 [] (.t [] 1 [0] (.l [(2, []), (8, []), (9, [8, 0, 1, 2, 5, 7, 4, 6, 3]), (10, [])]) 2 [] (.l [(1, [0]), (8, []), (9, [8, 0, 1, 2, 5, 7, 4, 6, 3]), (10, [])])) 2 [] (.l [(0, []), (1, [0]), (8, []), (9, [8, 0, 1, 2, 5, 7, 4, 6, 3]), (10, [])])), (5, .l [(0, []), (1, []), (2, []), (3, []), (4, [2, 3, 1, 0])]), (10, .l [(0, []), (1, []), (2, []), (3, []), (4, []), (5, []), (6, []), (7, []), (8, []), (9, []), (10, []), (11, []), (12, [3, 5, 7, 9, 11, 2, 4, 6, 8, 10, 1, 0])]), (19, .l [(0, []), (1, []), (2, []), (3, []), (4, []), (5, []), (6, []), (7, []), (8, []), (9, [4, 6, 8, 3, 5, 7, 2, 1, 0])]), (20, .l [(0, []), (1, []), (2, []), (3, []), (4, []), (6, []), (7, []), (8, []), (9, []), (5, []), (10, []), (11, [10, 5, 7, 9, 6, 8]), (12, [11, 10, 5, 7, 9, 6, 8]), (13, [4, 12, 5, 3, 11, 2, 10, 1, 7, 9, 6, 8]), (14, []), (15, []), (16, [15, 13, 0, 1, 2, 3, 4, 5, 6, 7, 8, 9, 10, 11, 12, 14])])], []⟩ [.agg #[.int .i64 a0.1, vS a0.2.1, vS a0.2.2.1, vS a0.2.2.2.1, vS a0.2.2.2.2.1, vS a0.2.2.2.2.2.1, vS a0.2.2.2.2.2.2.1, vS a0.2.2.2.2.2.2.2.1, .int .i64 a0.2.2.2.2.2.2.2.2.1]] R w = sh51 a0 R w := by kernel_rfl
theorem call51 {a0 : (Int × Sl × Sl × Sl × Sl × Sl × Sl × Sl × Int × Unit)} {w : World} {K : TK [kP, kI] → World → Prop} (h : sh51 a0 (fun vs w' => ∃ t, encK [kP, kI] t = vs ∧ K t w') w) : cl Pg 51 [.agg #[.int .i64 a0.1, vS a0.2.1, vS a0.2.2.1, vS a0.2.2.2.1, vS a0.2.2.2.2.1, vS a0.2.2.2.2.2.1, vS a0.2.2.2.2.2.2.1, vS a0.2.2.2.2.2.2.2.1, .int .i64 a0.2.2.2.2.2.2.2.2.1]] [kP, kI] w K := cl_of Tryz.func51 (tie51 ..) h
def sh19 (a0 : (Int × Sl × Sl × Sl × Sl × Sl × Sl × Sl × Int × Unit)) (R : List Value → World → Prop) (w : World) : Prop :=
 al w 33 [.int .i64 a0.1, vS a0.2.1, vS a0.2.2.1, vS a0.2.2.2.1, vS a0.2.2.2.2.1, vS a0.2.2.2.2.2.1, vS a0.2.2.2.2.2.2.1, vS a0.2.2.2.2.2.2.2.1, .int .i64 a0.2.2.2.2.2.2.2.2.1] fun b1 w2 =>
 ldI w2 .i64 b1 0 fun n3 =>
 ldS w2 b1 (0 + 1) fun s4 =>
 ldS w2 b1 (0 + 2) fun s5 =>
 ldS w2 b1 (0 + 3) fun s6 =>
 ldS w2 b1 (0 + 4) fun s7 =>
 ldS w2 b1 (0 + 5) fun s8 =>
 ldS w2 b1 (0 + 6) fun s9 =>
 ldS w2 b1 (0 + 7) fun s10 =>
 ldI w2 .i64 b1 (0 + 8) fun n11 =>
 cl Pg 51 [.agg #[.int .i64 n3, vS s4, vS s5, vS s6, vS s7, vS s8, vS s9, vS s10, .int .i64 n11]] [kP, kI] w2 fun (r12 : Option Addr × Int × Unit) w13 =>
 cs ((r12.2.1 : Int) != (0 : Int)) (
 R [.pointer none] w13) (
 R [.pointer r12.1] w13)
theorem tie19 (a0 : (Int × Sl × Sl × Sl × Sl × Sl × Sl × Sl × Int × Unit)) (R : List Value → World → Prop) (w : World) : compF Pg Tryz.f19 ⟨[], [], [], []⟩ [.agg #[.int .i64 a0.1, vS a0.2.1, vS a0.2.2.1, vS a0.2.2.2.1, vS a0.2.2.2.2.1, vS a0.2.2.2.2.2.1, vS a0.2.2.2.2.2.2.1, vS a0.2.2.2.2.2.2.2.1, .int .i64 a0.2.2.2.2.2.2.2.2.1]] R w = sh19 a0 R w := by kernel_rfl
theorem call19 {a0 : (Int × Sl × Sl × Sl × Sl × Sl × Sl × Sl × Int × Unit)} {w : World} {K : TK [kP] → World → Prop} (h : sh19 a0 (fun vs w' => ∃ t, encK [kP] t = vs ∧ K t w') w) : cl Pg 19 [.agg #[.int .i64 a0.1, vS a0.2.1, vS a0.2.2.1, vS a0.2.2.2.1, vS a0.2.2.2.2.1, vS a0.2.2.2.2.2.1, vS a0.2.2.2.2.2.2.1, vS a0.2.2.2.2.2.2.2.1, .int .i64 a0.2.2.2.2.2.2.2.2.1]] [kP] w K := cl_of Tryz.func19 (tie19 ..) h
def sh167  (R : List Value → World → Prop) (w : World) : Prop :=
 al w 173 [.string ByteArray.empty, .int .i64 0, .int .i64 0, .string (bs [97, 99, 116, 95, 116, 115, 107]), .int .i64 1, .int .i64 1, .string (bs [105, 97, 99, 116, 95, 116, 115, 107]), .int .i64 1, .int .i64 3, .string (bs [99, 97, 110, 95, 97, 99, 116]), .int .i64 1, .int .i64 1, .string (bs [101, 120, 116, 95, 116, 115, 107]), .int .i64 0, .int .i64 4, .string (bs [116, 101, 114, 95, 116, 115, 107]), .int .i64 1, .int .i64 1, .string (bs [99, 104, 103, 95, 112, 114, 105]), .int .i64 2, .int .i64 1, .string (bs [103, 101, 116, 95, 112, 114, 105]), .int .i64 1, .int .i64 1, .string (bs [114, 111, 116, 95, 114, 100, 113]), .int .i64 1, .int .i64 1, .string (bs [105, 114, 111, 116, 95, 114, 100, 113]), .int .i64 1, .int .i64 3, .string (bs [103, 101, 116, 95, 116, 105, 100]), .int .i64 0, .int .i64 1, .string (bs [105, 103, 101, 116, 95, 116, 105, 100]), .int .i64 0, .int .i64 3, .string (bs [115, 108, 112, 95, 116, 115, 107]), .int .i64 0, .int .i64 2, .string (bs [116, 115, 108, 112, 95, 116, 115, 107]), .int .i64 1, .int .i64 2, .string (bs [119, 117, 112, 95, 116, 115, 107]), .int .i64 1, .int .i64 1, .string (bs [105, 119, 117, 112, 95, 116, 115, 107]), .int .i64 1, .int .i64 3, .string (bs [99, 97, 110, 95, 119, 117, 112]), .int .i64 1, .int .i64 1, .string (bs [114, 101, 108, 95, 119, 97, 105]), .int .i64 1, .int .i64 1, .string (bs [105, 114, 101, 108, 95, 119, 97, 105]), .int .i64 1, .int .i64 3, .string (bs [115, 117, 115, 95, 116, 115, 107]), .int .i64 1, .int .i64 1, .string (bs [114, 115, 109, 95, 116, 115, 107]), .int .i64 1, .int .i64 1, .string (bs [102, 114, 115, 109, 95, 116, 115, 107]), .int .i64 1, .int .i64 1, .string (bs [100, 108, 121, 95, 116, 115, 107]), .int .i64 1, .int .i64 2, .string (bs [115, 105, 103, 95, 115, 101, 109]), .int .i64 1, .int .i64 1, .string (bs [105, 115, 105, 103, 95, 115, 101, 109]), .int .i64 1, .int .i64 3, .string (bs [119, 97, 105, 95, 115, 101, 109]), .int .i64 1, .int .i64 2, .string (bs [112, 111, 108, 95, 115, 101, 109]), .int .i64 1, .int .i64 1, .string (bs [116, 119, 97, 105, 95, 115, 101, 109]), .int .i64 2, .int .i64 2, .string (bs [115, 101, 116, 95, 102, 108, 103]), .int .i64 2, .int .i64 1, .string (bs [105, 115, 101, 116, 95, 102, 108, 103]), .int .i64 2, .int .i64 3, .string (bs [99, 108, 114, 95, 102, 108, 103]), .int .i64 2, .int .i64 1, .string (bs [119, 97, 105, 95, 102, 108, 103]), .int .i64 3, .int .i64 2, .string (bs [112, 111, 108, 95, 102, 108, 103]), .int .i64 3, .int .i64 1, .string (bs [116, 119, 97, 105, 95, 102, 108, 103]), .int .i64 4, .int .i64 2, .string (bs [115, 110, 100, 95, 100, 116, 113]), .int .i64 2, .int .i64 2, .string (bs [112, 115, 110, 100, 95, 100, 116, 113]), .int .i64 2, .int .i64 1, .string (bs [105, 112, 115, 110, 100, 95, 100, 116, 113]), .int .i64 2, .int .i64 3, .string (bs [116, 115, 110, 100, 95, 100, 116, 113]), .int .i64 3, .int .i64 2, .string (bs [102, 115, 110, 100, 95, 100, 116, 113]), .int .i64 2, .int .i64 1, .string (bs [105, 102, 115, 110, 100, 95, 100, 116, 113]), .int .i64 2, .int .i64 3, .string (bs [114, 99, 118, 95, 100, 116, 113]), .int .i64 1, .int .i64 2, .string (bs [112, 114, 99, 118, 95, 100, 116, 113]), .int .i64 1, .int .i64 1, .string (bs [116, 114, 99, 118, 95, 100, 116, 113]), .int .i64 2, .int .i64 2, .string (bs [108, 111, 99, 95, 109, 116, 120]), .int .i64 1, .int .i64 2, .string (bs [112, 108, 111, 99, 95, 109, 116, 120]), .int .i64 1, .int .i64 1, .string (bs [116, 108, 111, 99, 95, 109, 116, 120]), .int .i64 2, .int .i64 2, .string (bs [117, 110, 108, 95, 109, 116, 120]), .int .i64 1, .int .i64 1, .string (bs [103, 101, 116, 95, 109, 112, 102]), .int .i64 1, .int .i64 2, .string (bs [112, 103, 101, 116, 95, 109, 112, 102]), .int .i64 1, .int .i64 1, .string (bs [116, 103, 101, 116, 95, 109, 112, 102]), .int .i64 2, .int .i64 2, .string (bs [114, 101, 108, 95, 109, 112, 102]), .int .i64 2, .int .i64 1, .string (bs [115, 101, 116, 95, 116, 105, 109]), .int .i64 1, .int .i64 1, .string (bs [103, 101, 116, 95, 116, 105, 109]), .int .i64 0, .int .i64 1, .string (bs [115, 116, 97, 95, 99, 121, 99]), .int .i64 1, .int .i64 1, .string (bs [115, 116, 112, 95, 99, 121, 99]), .int .i64 1, .int .i64 1, .string (bs [115, 116, 97, 95, 97, 108, 109]), .int .i64 2, .int .i64 1, .string (bs [115, 116, 112, 95, 97, 108, 109]), .int .i64 1, .int .i64 1, .string (bs [108, 111, 99, 95, 99, 112, 117]), .int .i64 0, .int .i64 4, .string (bs [117, 110, 108, 95, 99, 112, 117]), .int .i64 0, .int .i64 4, .string (bs [100, 105, 115, 95, 100, 115, 112]), .int .i64 0, .int .i64 1, .string (bs [101, 110, 97, 95, 100, 115, 112]), .int .i64 0, .int .i64 1, .string (bs [115, 110, 115, 95, 99, 116, 120]), .int .i64 0, .int .i64 0, .string (bs [115, 110, 115, 95, 108, 111, 99]), .int .i64 0, .int .i64 0, .string (bs [115, 110, 115, 95, 100, 115, 112]), .int .i64 0, .int .i64 0, .string (bs [115, 110, 115, 95, 100, 112, 110]), .int .i64 0, .int .i64 0] fun b1 w2 =>
 R [vS ⟨some ⟨b1, 0, none⟩, 65, 65⟩] w2
theorem tie167  (R : List Value → World → Prop) (w : World) : compF Pg Tryz.f167 ⟨[], [], [], []⟩ [] R w = sh167  R w := by kernel_rfl
theorem call167  {w : World} {K : TK [kS] → World → Prop} (h : sh167  (fun vs w' => ∃ t, encK [kS] t = vs ∧ K t w') w) : cl Pg 167 [] [kS] w K := cl_of Tryz.func167 (tie167 ..) h
def sh87 (a0 : Int) (R : List Value → World → Prop) (w : World) : Prop :=
 al w 173 [.string ByteArray.empty, .int .i64 0, .int .i64 0] fun b1 w2 =>
 cl Pg 167 [] [kS] w2 fun (r3 : Sl × Unit) w4 =>
 jn [kB] w4 (fun (t6 : Bool × Unit) w7 =>
 cs t6.1 (
 st1 w7 b1 0 (.string ByteArray.empty) fun w9 =>
 st1 w9 b1 (0 + 1) (.int .i64 0) fun w10 =>
 st1 w10 b1 (0 + 2) (.int .i64 0) fun w11 =>
 ldG w11 b1 0 fun g12 =>
 ldI w11 .i64 b1 (0 + 1) fun n13 =>
 ldI w11 .i64 b1 (0 + 2) fun n14 =>
 R [.agg #[.string g12, .int .i64 n13, .int .i64 n14]] w11) (
 ix r3.1 a0 3 fun b15 o16 =>
 ldG w7 b15 o16 fun g17 =>
 ldI w7 .i64 b15 (o16 + 1) fun n18 =>
 ldI w7 .i64 b15 (o16 + 2) fun n19 =>
 st1 w7 b1 0 (.string g17) fun w20 =>
 st1 w20 b1 (0 + 1) (.int .i64 n18) fun w21 =>
 st1 w21 b1 (0 + 2) (.int .i64 n19) fun w22 =>
 ldG w22 b1 0 fun g23 =>
 ldI w22 .i64 b1 (0 + 1) fun n24 =>
 ldI w22 .i64 b1 (0 + 2) fun n25 =>
 R [.agg #[.string g23, .int .i64 n24, .int .i64 n25]] w22)) fun J5 w8 =>
 cs (decide ((a0 : Int) < (1 : Int))) (
 J5 (true, ()) w8) (
 J5 (decide ((a0 : Int) ≥ ((r3.1.len : Int) : Int)), ()) w8)
theorem tie87 (a0 : Int) (R : List Value → World → Prop) (w : World) : compF Pg Tryz.f87 ⟨[], [], [], [(2, [(3, 5, ⟨[(12, kB)], [8, 9, 10, 11]⟩)])]⟩ [.int .i64 a0] R w = sh87 a0 R w := by kernel_rfl
theorem call87 {a0 : Int} {w : World} {K : TK [.a [.g, (.i .i64), (.i .i64)]] → World → Prop} (h : sh87 a0 (fun vs w' => ∃ t, encK [.a [.g, (.i .i64), (.i .i64)]] t = vs ∧ K t w') w) : cl Pg 87 [.int .i64 a0] [.a [.g, (.i .i64), (.i .i64)]] w K := cl_of Tryz.func87 (tie87 ..) h
def sh42 (a0 : (Int × Int × Int × Int × Int × Unit)) (R : List Value → World → Prop) (w : World) : Prop :=
 al w 97 [.int .i64 a0.1, .int .i64 a0.2.1, .int .i64 a0.2.2.1, .int .i64 a0.2.2.2.1, .int .i64 a0.2.2.2.2.1] fun b1 w2 =>
 ldI w2 .i64 b1 0 fun n3 =>
 cl Pg 87 [.int .i64 n3] [.a [.g, (.i .i64), (.i .i64)]] w2 fun (r4 : (ByteArray × Int × Int × Unit) × Unit) w5 =>
 R [.int .i64 r4.1.2.2.1] w5
theorem tie42 (a0 : (Int × Int × Int × Int × Int × Unit)) (R : List Value → World → Prop) (w : World) : compF Pg Tryz.f42 ⟨[], [], [], []⟩ [.agg #[.int .i64 a0.1, .int .i64 a0.2.1, .int .i64 a0.2.2.1, .int .i64 a0.2.2.2.1, .int .i64 a0.2.2.2.2.1]] R w = sh42 a0 R w := by kernel_rfl
theorem call42 {a0 : (Int × Int × Int × Int × Int × Unit)} {w : World} {K : TK [kI] → World → Prop} (h : sh42 a0 (fun vs w' => ∃ t, encK [kI] t = vs ∧ K t w') w) : cl Pg 42 [.agg #[.int .i64 a0.1, .int .i64 a0.2.1, .int .i64 a0.2.2.1, .int .i64 a0.2.2.2.1, .int .i64 a0.2.2.2.2.1]] [kI] w K := cl_of Tryz.func42 (tie42 ..) h
def sh76 (a0 : Int) (R : List Value → World → Prop) (w : World) : Prop :=
 cl Pg 87 [.int .i64 a0] [.a [.g, (.i .i64), (.i .i64)]] w fun (r1 : (ByteArray × Int × Int × Unit) × Unit) w2 =>
 R [.bool (!(r1.1.1.toList == (bs []).toList))] w2
theorem tie76 (a0 : Int) (R : List Value → World → Prop) (w : World) : compF Pg Tryz.f76 ⟨[], [], [], []⟩ [.int .i64 a0] R w = sh76 a0 R w := by kernel_rfl
theorem call76 {a0 : Int} {w : World} {K : TK [kB] → World → Prop} (h : sh76 a0 (fun vs w' => ∃ t, encK [kB] t = vs ∧ K t w') w) : cl Pg 76 [.int .i64 a0] [kB] w K := cl_of Tryz.func76 (tie76 ..) h
def sh77 (a0 : Int) (a1 : Sl) (R : List Value → World → Prop) (w : World) : Prop :=
 al w 57 [.int .i64 0, .int .i64 0] fun b1 w2 =>
 al w2 57 [.int .i64 0, .int .i64 0] fun b3 w4 =>
 st1 w4 b3 0 (.int .i64 a0) fun w5 =>
 st1 w5 b3 (0 + 1) (.int .i64 0) fun w6 =>
 lp [kI] w6 ((0 : Int), ()) fun (t7 : Int × Unit) J8 w9 =>
 cs (decide ((t7.1 : Int) < ((a1.len : Int) : Int))) (
 ix a1 t7.1 1 fun b10 o11 =>
 ldI w9 .i64 b10 o11 fun n12 =>
 st1 w9 b3 (0 + 1) (.int .i64 n12) fun w13 =>
 J8 (w64 (t7.1 + 1), ()) w13) (
 cs ((a0 : Int) != (0 : Int)) (
 st1 w9 b3 (0 + 1) (.int .i64 0) fun w14 =>
 ldI w14 .i64 b3 0 fun n15 =>
 ldI w14 .i64 b3 (0 + 1) fun n16 =>
 st1 w14 b1 0 (.int .i64 n15) fun w17 =>
 st1 w17 b1 (0 + 1) (.int .i64 n16) fun w18 =>
 ldI w18 .i64 b1 0 fun n19 =>
 ldI w18 .i64 b1 (0 + 1) fun n20 =>
 R [.agg #[.int .i64 n19, .int .i64 n20]] w18) (
 ldI w9 .i64 b3 0 fun n21 =>
 ldI w9 .i64 b3 (0 + 1) fun n22 =>
 st1 w9 b1 0 (.int .i64 n21) fun w23 =>
 st1 w23 b1 (0 + 1) (.int .i64 n22) fun w24 =>
 ldI w24 .i64 b1 0 fun n25 =>
 ldI w24 .i64 b1 (0 + 1) fun n26 =>
 R [.agg #[.int .i64 n25, .int .i64 n26]] w24))
theorem tie77 (a0 : Int) (a1 : Sl) (R : List Value → World → Prop) (w : World) : compF Pg Tryz.f77 ⟨[(1, ⟨[(12, kI)], [7, 13, 14, 15, 16, 17, 18]⟩)], [], [], []⟩ [.int .i64 a0, vS a1] R w = sh77 a0 a1 R w := by kernel_rfl
theorem call77 {a0 : Int} {a1 : Sl} {w : World} {K : TK [.a [(.i .i64), (.i .i64)]] → World → Prop} (h : sh77 a0 a1 (fun vs w' => ∃ t, encK [.a [(.i .i64), (.i .i64)]] t = vs ∧ K t w') w) : cl Pg 77 [.int .i64 a0, vS a1] [.a [(.i .i64), (.i .i64)]] w K := cl_of Tryz.func77 (tie77 ..) h
def sh129 (a0 : Option Addr) (a1 : Int) (a2 : Bool) (R : List Value → World → Prop) (w : World) : Prop :=
 cl Pg 128 [.pointer a0] [kB] w fun (r1 : Bool × Unit) w2 =>
 jn [kB] w2 (fun (t4 : Bool × Unit) w5 =>
 cs ((a1 : Int) == (0 : Int)) (
 R [.bool true] w5) (
 cs ((a1 : Int) == (4 : Int)) (
 R [.bool t4.1] w5) (
 cs ((a1 : Int) == (1 : Int)) (
 jn [kB] w5 (fun (t8 : Bool × Unit) w9 =>
 R [.bool t8.1] w9) fun J7 w10 =>
 cs t4.1 (
 nn a0 fun b11 o12 =>
 ldB w10 b11 (o12 + 1) fun b13 =>
 J7 (!b13, ()) w10) (
 J7 (false, ()) w10)) (
 cs ((a1 : Int) == (2 : Int)) (
 jn [kB] w5 (fun (t15 : Bool × Unit) w16 =>
 jn [kB] w16 (fun (t19 : Bool × Unit) w20 =>
 R [.bool t19.1] w20) fun J18 w21 =>
 cs t15.1 (
 nn a0 fun b22 o23 =>
 ldB w21 b22 (o23 + 2) fun b24 =>
 J18 (!b24, ()) w21) (
 J18 (false, ()) w21)) fun J14 w17 =>
 cs t4.1 (
 nn a0 fun b25 o26 =>
 ldB w17 b25 (o26 + 1) fun b27 =>
 J14 (!b27, ()) w17) (
 J14 (false, ()) w17)) (
 cs ((a1 : Int) == (3 : Int)) (
 cl Pg 128 [.pointer a0] [kB] w5 fun (r28 : Bool × Unit) w29 =>
 jn [kB] w29 (fun (t31 : Bool × Unit) w32 =>
 R [.bool t31.1] w32) fun J30 w33 =>
 cs r28.1 (
 nn a0 fun b34 o35 =>
 ldB w33 b34 (o35 + 1) fun b36 =>
 J30 (!b36, ()) w33) (
 J30 (false, ()) w33)) (
 R [.bool false] w5)))))) fun J3 w6 =>
 cs (!r1.1) (
 J3 (!a2, ()) w6) (
 J3 (false, ()) w6)
theorem tie129 (a0 : Option Addr) (a1 : Int) (a2 : Bool) (R : List Value → World → Prop) (w : World) : compF Pg Tryz.f129 ⟨[], [], [], [(1, [(4, 3, ⟨[(14, kB)], [12, 13]⟩)]), (8, [(2, 6, ⟨[(30, kB)], [25, 26, 27, 28, 29]⟩)]), (10, [(2, 6, ⟨[(40, kB)], [35, 36, 37, 38, 39]⟩), (9, 6, ⟨[(47, kB)], [42, 43, 44, 45, 46]⟩)]), (12, [(3, 6, ⟨[(58, kB)], [53, 54, 55, 56, 57]⟩)])]⟩ [.pointer a0, .int .i64 a1, .bool a2] R w = sh129 a0 a1 a2 R w := by kernel_rfl
theorem call129 {a0 : Option Addr} {a1 : Int} {a2 : Bool} {w : World} {K : TK [kB] → World → Prop} (h : sh129 a0 a1 a2 (fun vs w' => ∃ t, encK [kB] t = vs ∧ K t w') w) : cl Pg 129 [.pointer a0, .int .i64 a1, .bool a2] [kB] w K := cl_of Tryz.func129 (tie129 ..) h
def sh78 (a0 : Option Addr) (a1 : Int) (a2 : Bool) (R : List Value → World → Prop) (w : World) : Prop :=
 nn a0 fun b1 o2 =>
 cl Pg 129 [.pointer (some ⟨b1, o2, none⟩), .int .i64 a1, .bool a2] [kB] w fun (r3 : Bool × Unit) w4 =>
 cs (!r3.1) (
 R [.int .i64 (-25)] w4) (
 R [.int .i64 0] w4)
theorem tie78 (a0 : Option Addr) (a1 : Int) (a2 : Bool) (R : List Value → World → Prop) (w : World) : compF Pg Tryz.f78 ⟨[], [], [], []⟩ [.pointer a0, .int .i64 a1, .bool a2] R w = sh78 a0 a1 a2 R w := by kernel_rfl
theorem call78 {a0 : Option Addr} {a1 : Int} {a2 : Bool} {w : World} {K : TK [kI] → World → Prop} (h : sh78 a0 a1 a2 (fun vs w' => ∃ t, encK [kI] t = vs ∧ K t w') w) : cl Pg 78 [.pointer a0, .int .i64 a1, .bool a2] [kI] w K := cl_of Tryz.func78 (tie78 ..) h
def sh130 (a0 : Option Addr) (a1 : (Int × Int × Int × Int × Int × Unit)) (R : List Value → World → Prop) (w : World) : Prop :=
 al w 97 [.int .i64 a1.1, .int .i64 a1.2.1, .int .i64 a1.2.2.1, .int .i64 a1.2.2.2.1, .int .i64 a1.2.2.2.2.1] fun b1 w2 =>
 ldI w2 .i64 b1 0 fun n3 =>
 jn [kB] w2 (fun (t5 : Bool × Unit) w6 =>
 cs t5.1 (
 nn a0 fun b8 o9 =>
 ldI w6 .i64 b8 (o9 + 12) fun n10 =>
 R [.int .i64 n10] w6) (
 ixA b1 (0 + 1) 4 0 1 fun b11 o12 =>
 ldI w6 .i64 b11 o12 fun n13 =>
 jn [kB] w6 (fun (t15 : Bool × Unit) w16 =>
 cs t15.1 (
 R [.int .i64 n13] w16) (
 ldI w16 .i64 b1 0 fun n18 =>
 jn [kB] w16 (fun (t20 : Bool × Unit) w21 =>
 cs t20.1 (
 R [.int .i64 0] w21) (
 ixA b1 (0 + 1) 4 0 1 fun b23 o24 =>
 ldI w21 .i64 b23 o24 fun n25 =>
 jn [kB] w21 (fun (t27 : Bool × Unit) w28 =>
 cs t27.1 (
 nn a0 fun b30 o31 =>
 ldI w28 .i64 b30 (o31 + 12) fun n32 =>
 R [.int .i64 n32] w28) (
 R [.int .i64 0] w28)) fun J26 w29 =>
 cs ((n25 : Int) == (0 : Int)) (
 ldI w29 .i64 b1 0 fun n33 =>
 ldI w29 .i64 b1 (0 + 1) fun n34 =>
 ldI w29 .i64 b1 (0 + 2) fun n35 =>
 ldI w29 .i64 b1 (0 + 3) fun n36 =>
 ldI w29 .i64 b1 (0 + 4) fun n37 =>
 cl Pg 42 [.agg #[.int .i64 n33, .int .i64 n34, .int .i64 n35, .int .i64 n36, .int .i64 n37]] [kI] w29 fun (r38 : Int × Unit) w39 =>
 J26 ((r38.1 : Int) != (3 : Int), ()) w39) (
 J26 (false, ()) w29))) fun J19 w22 =>
 cs ((n18 : Int) == (5 : Int)) (
 J19 (true, ()) w22) (
 jn [kB] w22 (fun (t41 : Bool × Unit) w42 =>
 J19 (t41.1, ()) w42) fun J40 w43 =>
 cs ((n18 : Int) == (17 : Int)) (
 J40 (true, ()) w43) (
 jn [kB] w43 (fun (t45 : Bool × Unit) w46 =>
 J40 (t45.1, ()) w46) fun J44 w47 =>
 cs ((n18 : Int) == (20 : Int)) (
 J44 (true, ()) w47) (
 J44 ((n18 : Int) == (21 : Int), ()) w47))))) fun J14 w17 =>
 cs (decide ((n13 : Int) ≥ (1 : Int))) (
 nn a0 fun b48 o49 =>
 ldS w17 b48 (o49 + 9) fun s50 =>
 J14 (decide ((n13 : Int) < ((s50.len : Int) : Int)), ()) w17) (
 J14 (false, ()) w17))) fun J4 w7 =>
 cs ((n3 : Int) == (4 : Int)) (
 J4 (true, ()) w7) (
 jn [kB] w7 (fun (t52 : Bool × Unit) w53 =>
 J4 (t52.1, ()) w53) fun J51 w54 =>
 cs ((n3 : Int) == (8 : Int)) (
 J51 (true, ()) w54) (
 jn [kB] w54 (fun (t56 : Bool × Unit) w57 =>
 J51 (t56.1, ()) w57) fun J55 w58 =>
 cs ((n3 : Int) == (9 : Int)) (
 J55 (true, ()) w58) (
 jn [kB] w58 (fun (t60 : Bool × Unit) w61 =>
 J55 (t60.1, ()) w61) fun J59 w62 =>
 cs ((n3 : Int) == (10 : Int)) (
 J59 (true, ()) w62) (
 jn [kB] w62 (fun (t64 : Bool × Unit) w65 =>
 J59 (t64.1, ()) w65) fun J63 w66 =>
 cs ((n3 : Int) == (11 : Int)) (
 J63 (true, ()) w66) (
 jn [kB] w66 (fun (t68 : Bool × Unit) w69 =>
 J63 (t68.1, ()) w69) fun J67 w70 =>
 cs ((n3 : Int) == (12 : Int)) (
 J67 (true, ()) w70) (
 jn [kB] w70 (fun (t72 : Bool × Unit) w73 =>
 J67 (t72.1, ()) w73) fun J71 w74 =>
 cs ((n3 : Int) == (13 : Int)) (
 J71 (true, ()) w74) (
 J71 ((n3 : Int) == (22 : Int), ()) w74)))))))
theorem tie130 (a0 : Option Addr) (a1 : (Int × Int × Int × Int × Int × Unit)) (R : List Value → World → Prop) (w : World) : compF Pg Tryz.f130 ⟨[(1, ⟨[(8, kB)], [10, 11, 12, 13, 14, 15, 16]⟩), (11, ⟨[(38, kB)], [40, 41, 42]⟩), (12, ⟨[(38, kB)], [41, 42]⟩), (13, ⟨[(38, kB)], [42]⟩), (2, ⟨[(8, kB)], [11, 12, 13, 14, 15, 16]⟩), (3, ⟨[(8, kB)], [12, 13, 14, 15, 16]⟩), (4, ⟨[(8, kB)], [13, 14, 15, 16]⟩), (5, ⟨[(8, kB)], [14, 15, 16]⟩), (6, ⟨[(8, kB)], [15, 16]⟩), (7, ⟨[(8, kB)], [16]⟩)], [], [], [(12, [(3, 8, ⟨[(34, kB)], [27, 28, 29, 30, 31, 32, 33]⟩)]), (20, [(5, 4, ⟨[(51, kB)], [48, 49, 50]⟩)])]⟩ [.pointer a0, .agg #[.int .i64 a1.1, .int .i64 a1.2.1, .int .i64 a1.2.2.1, .int .i64 a1.2.2.2.1, .int .i64 a1.2.2.2.2.1]] R w = sh130 a0 a1 R w := by kernel_rfl
theorem call130 {a0 : Option Addr} {a1 : (Int × Int × Int × Int × Int × Unit)} {w : World} {K : TK [kI] → World → Prop} (h : sh130 a0 a1 (fun vs w' => ∃ t, encK [kI] t = vs ∧ K t w') w) : cl Pg 130 [.pointer a0, .agg #[.int .i64 a1.1, .int .i64 a1.2.1, .int .i64 a1.2.2.1, .int .i64 a1.2.2.2.1, .int .i64 a1.2.2.2.2.1]] [kI] w K := cl_of Tryz.func130 (tie130 ..) h
def sh131 (a0 : Option Addr) (a1 : Bool) (R : List Value → World → Prop) (w : World) : Prop :=
 nn a0 fun b1 o2 =>
 st1 w b1 (o2 + 1) (.bool a1) fun w3 =>
 R [] w3
theorem tie131 (a0 : Option Addr) (a1 : Bool) (R : List Value → World → Prop) (w : World) : compF Pg Tryz.f131 ⟨[], [], [], []⟩ [.pointer a0, .bool a1] R w = sh131 a0 a1 R w := by kernel_rfl
theorem call131 {a0 : Option Addr} {a1 : Bool} {w : World} {K : TK [] → World → Prop} (h : sh131 a0 a1 (fun vs w' => ∃ t, encK [] t = vs ∧ K t w') w) : cl Pg 131 [.pointer a0, .bool a1] [] w K := cl_of Tryz.func131 (tie131 ..) h
def sh132 (a0 : Option Addr) (a1 : Bool) (R : List Value → World → Prop) (w : World) : Prop :=
 nn a0 fun b1 o2 =>
 st1 w b1 (o2 + 2) (.bool a1) fun w3 =>
 R [] w3
theorem tie132 (a0 : Option Addr) (a1 : Bool) (R : List Value → World → Prop) (w : World) : compF Pg Tryz.f132 ⟨[], [], [], []⟩ [.pointer a0, .bool a1] R w = sh132 a0 a1 R w := by kernel_rfl
theorem call132 {a0 : Option Addr} {a1 : Bool} {w : World} {K : TK [] → World → Prop} (h : sh132 a0 a1 (fun vs w' => ∃ t, encK [] t = vs ∧ K t w') w) : cl Pg 132 [.pointer a0, .bool a1] [] w K := cl_of Tryz.func132 (tie132 ..) h
def sh225 (a0 : Sl) (a1 : Fv) (R : List Value → World → Prop) (w : World) : Prop :=
 lp [kI] w ((0 : Int), ()) fun (t1 : Int × Unit) J2 w3 =>
 cs (decide ((t1.1 : Int) < ((a0.len : Int) : Int))) (
 ix a0 t1.1 2 fun b4 o5 =>
 ldI w3 .i64 b4 o5 fun n6 =>
 ldI w3 .i64 b4 (o5 + 1) fun n7 =>
 ob (enterable Pg a1.fid = true) (
 cl Pg a1.fid (a1.pre ++ ([.agg #[.int .i64 n6, .int .i64 n7]] ++ a1.post)) [kB] w3 fun (r8 : Bool × Unit) w9 =>
 cs r8.1 (
 R [.int .i64 t1.1] w9) (
 J2 (w64 (t1.1 + 1), ()) w9))) (
 R [.int .i64 (-1)] w3)
theorem tie225 (a0 : Sl) (a1 : Fv) (R : List Value → World → Prop) (w : World) : compF Pg Tryz.f225 ⟨[(1, ⟨[(8, kI)], [4, 5, 9, 10, 11, 12, 13, 14, 15, 16, 17, 18]⟩)], [], [], []⟩ [vS a0, vF a1] R w = sh225 a0 a1 R w := by kernel_rfl
theorem call225 {a0 : Sl} {a1 : Fv} {w : World} {K : TK [kI] → World → Prop} (h : sh225 a0 a1 (fun vs w' => ∃ t, encK [kI] t = vs ∧ K t w') w) : cl Pg 225 [vS a0, vF a1] [kI] w K := cl_of Tryz.func225 (tie225 ..) h
def sh226 (a0 : (Int × Int × Unit)) (c0 : Nat) (R : List Value → World → Prop) (w : World) : Prop :=
 al w 117 [.int .i64 a0.1, .int .i64 a0.2.1] fun b1 w2 =>
 ldI w2 .i64 b1 0 fun n3 =>
 ldI w2 .i64 c0 0 fun n4 =>
 R [.bool ((n3 : Int) == (n4 : Int))] w2
theorem tie226 (a0 : (Int × Int × Unit)) (c0 : Nat) (R : List Value → World → Prop) (w : World) : compF Pg Tryz.f226 ⟨[], [], [], []⟩ [.agg #[.int .i64 a0.1, .int .i64 a0.2.1], .pointer (some ⟨c0, 0, none⟩)] R w = sh226 a0 c0 R w := by kernel_rfl
theorem call226 {a0 : (Int × Int × Unit)} {c0 : Nat} {w : World} {K : TK [kB] → World → Prop} (h : sh226 a0 c0 (fun vs w' => ∃ t, encK [kB] t = vs ∧ K t w') w) : cl Pg 226 [.agg #[.int .i64 a0.1, .int .i64 a0.2.1], .pointer (some ⟨c0, 0, none⟩)] [kB] w K := cl_of Tryz.func226 (tie226 ..) h
def sh171 (a0 : Option Addr) (a1 : Int) (R : List Value → World → Prop) (w : World) : Prop :=
 al w 3 [.int .i64 a1] fun b1 w2 =>
 nn a0 fun b3 o4 =>
 ldS w2 b3 o4 fun s5 =>
 cl Pg 225 [vS s5, .func (.func 226) #[] #[.pointer (some ⟨b1, 0, none⟩)]] [kI] w2 fun (r6 : Int × Unit) w7 =>
 R [.int .i64 r6.1] w7
theorem tie171 (a0 : Option Addr) (a1 : Int) (R : List Value → World → Prop) (w : World) : compF Pg Tryz.f171 ⟨[], [], [], []⟩ [.pointer a0, .int .i64 a1] R w = sh171 a0 a1 R w := by kernel_rfl
theorem call171 {a0 : Option Addr} {a1 : Int} {w : World} {K : TK [kI] → World → Prop} (h : sh171 a0 a1 (fun vs w' => ∃ t, encK [kI] t = vs ∧ K t w') w) : cl Pg 171 [.pointer a0, .int .i64 a1] [kI] w K := cl_of Tryz.func171 (tie171 ..) h
def sh193 (a0 : Sl) (a1 : Int) (a2 : Int) (R : List Value → World → Prop) (w : World) : Prop :=
 sb a0 a1 a2 (a0.len : Int) 2 fun s1 =>
 cs ((a1 : Int) == (a2 : Int)) (
 R [vS a0] w) (
 dr w fun w2 =>
 sb a0 0 a1 a0.cap 2 fun s3 =>
 sb a0 a2 a0.len a0.cap 2 fun s4 =>
 ef Pg (Builtin.append_ #[108, 108] 108 #[vS s3, vS s4]) [kS] w2 fun (r5 : Sl × Unit) w6 =>
 sb r5.1 (r5.1.len : Int) (a0.len : Int) r5.1.cap 2 fun s7 =>
 ef Pg (Builtin.clear_ #[108] 0 #[vS s7]) [] w6 fun (r8 : Unit) w9 =>
 R [vS r5.1] w9)
theorem tie193 (a0 : Sl) (a1 : Int) (a2 : Int) (R : List Value → World → Prop) (w : World) : compF Pg Tryz.f193 ⟨[], [], [(5, .l [(0, []), (1, []), (2, []), (3, []), (4, []), (5, []), (6, [2, 5, 0, 1, 3, 4]), (7, [])])], []⟩ [vS a0, .int .i64 a1, .int .i64 a2] R w = sh193 a0 a1 a2 R w := by kernel_rfl
theorem call193 {a0 : Sl} {a1 : Int} {a2 : Int} {w : World} {K : TK [kS] → World → Prop} (h : sh193 a0 a1 a2 (fun vs w' => ∃ t, encK [kS] t = vs ∧ K t w') w) : cl Pg 193 [vS a0, .int .i64 a1, .int .i64 a2] [kS] w K := cl_of Tryz.func193 (tie193 ..) h
def sh111 (a0 : Option Addr) (a1 : Int) (R : List Value → World → Prop) (w : World) : Prop :=
 cl Pg 171 [.pointer a0, .int .i64 a1] [kI] w fun (r1 : Int × Unit) w2 =>
 cs (decide ((r1.1 : Int) < (0 : Int))) (
 R [.bool false] w2) (
 nn a0 fun b3 o4 =>
 ldS w2 b3 o4 fun s5 =>
 cl Pg 193 [vS s5, .int .i64 r1.1, .int .i64 (w64 (r1.1 + 1))] [kS] w2 fun (r6 : Sl × Unit) w7 =>
 nn a0 fun b8 o9 =>
 st1 w7 b8 o9 (vS r6.1) fun w10 =>
 R [.bool true] w10)
theorem tie111 (a0 : Option Addr) (a1 : Int) (R : List Value → World → Prop) (w : World) : compF Pg Tryz.f111 ⟨[], [], [], []⟩ [.pointer a0, .int .i64 a1] R w = sh111 a0 a1 R w := by kernel_rfl
theorem call111 {a0 : Option Addr} {a1 : Int} {w : World} {K : TK [kB] → World → Prop} (h : sh111 a0 a1 (fun vs w' => ∃ t, encK [kB] t = vs ∧ K t w') w) : cl Pg 111 [.pointer a0, .int .i64 a1] [kB] w K := cl_of Tryz.func111 (tie111 ..) h
def sh54 (a0 : Option Addr) (a1 : Int) (R : List Value → World → Prop) (w : World) : Prop :=
 nn a0 fun b1 o2 =>
 ldS w b1 (o2 + 9) fun s3 =>
 ix s3 a1 1 fun b4 o5 =>
 ldP w b4 o5 fun p6 =>
 nn p6 fun b7 o8 =>
 ldI w .i64 b7 (o8 + 3) fun n9 =>
 cs ((n9 : Int) == (3 : Int)) (
 dr w fun w10 =>
 nn a0 fun b11 o12 =>
 ldS w10 b11 o12 fun s13 =>
 nn p6 fun b14 o15 =>
 ldI w10 .i64 b14 (o15 + 4) fun n16 =>
 ix s13 (w64 (n16 - 1)) 1 fun b17 o18 =>
 ldP w10 b17 o18 fun p19 =>
 nn p19 fun b20 o21 =>
 ldP w10 b20 o21 fun p22 =>
 nn p22 fun b23 o24 =>
 cl Pg 111 [.pointer (some ⟨b23, o24, none⟩), .int .i64 a1] [kB] w10 fun (r25 : Bool × Unit) w26 =>
 R [] w26) (
 cs ((n9 : Int) == (4 : Int)) (
 dr w fun w27 =>
 nn a0 fun b28 o29 =>
 ldS w27 b28 (o29 + 1) fun s30 =>
 nn p6 fun b31 o32 =>
 ldI w27 .i64 b31 (o32 + 4) fun n33 =>
 ix s30 (w64 (n33 - 1)) 1 fun b34 o35 =>
 ldP w27 b34 o35 fun p36 =>
 cl Pg 112 [.pointer p36, .int .i64 a1] [kB] w27 fun (r37 : Bool × Unit) w38 =>
 R [] w38) (
 jn [kB] w (fun (t40 : Bool × Unit) w41 =>
 cs t40.1 (
 dr w41 fun w43 =>
 nn a0 fun b44 o45 =>
 ldS w43 b44 (o45 + 2) fun s46 =>
 nn p6 fun b47 o48 =>
 ldI w43 .i64 b47 (o48 + 4) fun n49 =>
 ix s46 (w64 (n49 - 1)) 1 fun b50 o51 =>
 ldP w43 b50 o51 fun p52 =>
 cl Pg 113 [.pointer p52, .int .i64 a1] [kB] w43 fun (r53 : Bool × Unit) w54 =>
 R [] w54) (
 cs ((n9 : Int) == (7 : Int)) (
 nn a0 fun b55 o56 =>
 ldP w41 b55 (o56 + 5) fun p57 =>
 cl Pg 114 [.pointer p57, .int .i64 a1] [kB] w41 fun (r58 : Bool × Unit) w59 =>
 R [] w59) (
 cs ((n9 : Int) == (8 : Int)) (
 dr w41 fun w60 =>
 nn a0 fun b61 o62 =>
 ldS w60 b61 (o62 + 3) fun s63 =>
 nn p6 fun b64 o65 =>
 ldI w60 .i64 b64 (o65 + 4) fun n66 =>
 ix s63 (w64 (n66 - 1)) 1 fun b67 o68 =>
 ldP w60 b67 o68 fun p69 =>
 nn p69 fun b70 o71 =>
 ldP w60 b70 o71 fun p72 =>
 nn p72 fun b73 o74 =>
 cl Pg 111 [.pointer (some ⟨b73, o74, none⟩), .int .i64 a1] [kB] w60 fun (r75 : Bool × Unit) w76 =>
 R [] w76) (
 R [] w41)))) fun J39 w42 =>
 cs ((n9 : Int) == (5 : Int)) (
 J39 (true, ()) w42) (
 J39 ((n9 : Int) == (6 : Int), ()) w42)))
theorem tie54 (a0 : Option Addr) (a1 : Int) (R : List Value → World → Prop) (w : World) : compF Pg Tryz.f54 ⟨[(3, ⟨[(53, kB)], [55]⟩)], [], [(3, .l [(0, []), (1, []), (2, []), (3, []), (4, []), (5, []), (6, []), (7, []), (8, []), (9, []), (10, []), (11, []), (12, []), (13, []), (14, []), (15, []), (16, []), (17, []), (18, [16, 17, 15, 14, 13, 12, 11, 10, 4, 9, 3, 8, 2, 7, 1, 6, 0, 5])]), (5, .l [(0, []), (1, []), (2, []), (3, []), (4, []), (5, []), (6, []), (7, []), (8, []), (9, []), (10, []), (11, []), (12, []), (13, [11, 12, 10, 4, 9, 3, 8, 2, 7, 1, 6, 0, 5])]), (8, .l [(0, []), (1, []), (2, []), (3, []), (4, []), (5, []), (6, []), (7, []), (8, []), (9, []), (10, []), (11, []), (12, []), (13, [11, 12, 10, 4, 9, 3, 8, 2, 7, 1, 6, 0, 5])]), (12, .l [(0, []), (1, []), (2, []), (3, []), (4, []), (5, []), (6, []), (7, []), (8, []), (9, []), (10, []), (11, []), (12, []), (13, []), (14, []), (15, []), (16, []), (17, []), (18, [16, 17, 15, 14, 13, 12, 11, 10, 4, 9, 3, 8, 2, 7, 1, 6, 0, 5])])], []⟩ [.pointer a0, .int .i64 a1] R w = sh54 a0 a1 R w := by kernel_rfl
theorem call54 {a0 : Option Addr} {a1 : Int} {w : World} {K : TK [] → World → Prop} (h : sh54 a0 a1 (fun vs w' => ∃ t, encK [] t = vs ∧ K t w') w) : cl Pg 54 [.pointer a0, .int .i64 a1] [] w K := cl_of Tryz.func54 (tie54 ..) h
def sh219 (a0 : Sl) (a1 : Int) (a2 : Int) (R : List Value → World → Prop) (w : World) : Prop :=
 sb a0 a1 a2 (a0.len : Int) 1 fun s1 =>
 cs ((a1 : Int) == (a2 : Int)) (
 R [vS a0] w) (
 dr w fun w2 =>
 sb a0 0 a1 a0.cap 1 fun s3 =>
 sb a0 a2 a0.len a0.cap 1 fun s4 =>
 ef Pg (Builtin.append_ #[72, 72] 72 #[vS s3, vS s4]) [kS] w2 fun (r5 : Sl × Unit) w6 =>
 sb r5.1 (r5.1.len : Int) (a0.len : Int) r5.1.cap 1 fun s7 =>
 ef Pg (Builtin.clear_ #[72] 0 #[vS s7]) [] w6 fun (r8 : Unit) w9 =>
 R [vS r5.1] w9)
theorem tie219 (a0 : Sl) (a1 : Int) (a2 : Int) (R : List Value → World → Prop) (w : World) : compF Pg Tryz.f219 ⟨[], [], [(5, .l [(0, []), (1, []), (2, []), (3, []), (4, []), (5, []), (6, [2, 5, 0, 1, 3, 4]), (7, [])])], []⟩ [vS a0, .int .i64 a1, .int .i64 a2] R w = sh219 a0 a1 a2 R w := by kernel_rfl
theorem call219 {a0 : Sl} {a1 : Int} {a2 : Int} {w : World} {K : TK [kS] → World → Prop} (h : sh219 a0 a1 a2 (fun vs w' => ∃ t, encK [kS] t = vs ∧ K t w') w) : cl Pg 219 [vS a0, .int .i64 a1, .int .i64 a2] [kS] w K := cl_of Tryz.func219 (tie219 ..) h
def sh238 (a0 : Option Addr) (a1 : Sl) (R : List Value → World → Prop) (w : World) : Prop :=
 lp [kI] w ((0 : Int), ()) fun (t1 : Int × Unit) J2 w3 =>
 cs (decide ((t1.1 : Int) < ((a1.len : Int) : Int))) (
 ix a1 t1.1 1 fun b4 o5 =>
 ldI w3 .i64 b4 o5 fun n6 =>
 cl Pg 223 [.int .i64 n6] [kI, .l (.i .u64), kB] w3 fun (r7 : Int × Int × Bool × Unit) w8 =>
 cs r7.2.2.1 (
 dr w8 fun w9 =>
 nn a0 fun b10 o11 =>
 ixA b10 o11 4 r7.1 1 fun b12 o13 =>
 ldI w9 .u64 b12 o13 fun n14 =>
 nn a0 fun b15 o16 =>
 ixA b15 o16 4 r7.1 1 fun b17 o18 =>
 st1 w9 b17 o18 (.int .u64 (bAndNot .u64 n14 r7.2.1)) fun w19 =>
 J2 (w64 (t1.1 + 1), ()) w19) (
 J2 (w64 (t1.1 + 1), ()) w8)) (
 R [] w3)
theorem tie238 (a0 : Option Addr) (a1 : Sl) (R : List Value → World → Prop) (w : World) : compF Pg Tryz.f238 ⟨[(1, ⟨[(11, kI)], [5, 6, 7, 8, 12, 13, 14, 15, 16, 17, 18, 19, 20, 21, 22, 23, 24, 25, 26, 27, 28, 29, 30, 31, 32, 33]⟩)], [], [(5, .l [(0, []), (1, []), (2, []), (3, []), (4, []), (5, []), (6, []), (7, []), (8, []), (9, []), (10, []), (11, [10, 7, 0, 1, 2, 3, 4, 5, 6, 9, 8])])], []⟩ [.pointer a0, vS a1] R w = sh238 a0 a1 R w := by kernel_rfl
theorem call238 {a0 : Option Addr} {a1 : Sl} {w : World} {K : TK [] → World → Prop} (h : sh238 a0 a1 (fun vs w' => ∃ t, encK [] t = vs ∧ K t w') w) : cl Pg 238 [.pointer a0, vS a1] [] w K := cl_of Tryz.func238 (tie238 ..) h
def sh197 (a0 : Option Addr) (a1 : Int) (R : List Value → World → Prop) (w : World) : Prop :=
 cl Pg 88 [.int .i64 a1] [kB] w fun (r1 : Bool × Unit) w2 =>
 jn [kB] w2 (fun (t4 : Bool × Unit) w5 =>
 cs t4.1 (
 R [.bool false] w5) (
 nn a0 fun b7 o8 =>
 ixA b7 (o8 + 21) 17 a1 1 fun b9 o10 =>
 ldI w5 .i64 b9 o10 fun n11 =>
 nn a0 fun b12 o13 =>
 ixA b12 (o13 + 4) 17 n11 1 fun b14 o15 =>
 ldS w5 b14 o15 fun s16 =>
 cl Pg 237 [vS s16, .int .i64 a1] [kI] w5 fun (r17 : Int × Unit) w18 =>
 dr w18 fun w19 =>
 nn a0 fun b20 o21 =>
 ixA b20 (o21 + 4) 17 n11 1 fun b22 o23 =>
 ldS w19 b22 o23 fun s24 =>
 nn a0 fun b25 o26 =>
 cl Pg 219 [vS s24, .int .i64 r17.1, .int .i64 (w64 (r17.1 + 1))] [kS] w19 fun (r27 : Sl × Unit) w28 =>
 ixA b25 (o26 + 4) 17 n11 1 fun b29 o30 =>
 st1 w28 b29 o30 (vS r27.1) fun w31 =>
 nn a0 fun b32 o33 =>
 ixA b32 (o33 + 21) 17 a1 1 fun b34 o35 =>
 st1 w31 b34 o35 (.int .i64 0) fun w36 =>
 nn a0 fun b37 o38 =>
 ixA b37 (o38 + 4) 17 n11 1 fun b39 o40 =>
 ldS w36 b39 o40 fun s41 =>
 cs (((s41.len : Int) : Int) == (0 : Int)) (
 nn a0 fun b42 o43 =>
 al w36 3 [.int .i64 n11] fun b44 w45 =>
 cl Pg 238 [.pointer (some ⟨b42, o43, none⟩), vS ⟨some ⟨b44, 0, none⟩, 1, 1⟩] [] w45 fun (r46 : Unit) w47 =>
 R [.bool true] w47) (
 R [.bool true] w36))) fun J3 w6 =>
 cs (!r1.1) (
 J3 (true, ()) w6) (
 nn a0 fun b48 o49 =>
 ixA b48 (o49 + 21) 17 a1 1 fun b50 o51 =>
 ldI w6 .i64 b50 o51 fun n52 =>
 J3 ((n52 : Int) == (0 : Int), ()) w6)
theorem tie197 (a0 : Option Addr) (a1 : Int) (R : List Value → World → Prop) (w : World) : compF Pg Tryz.f197 ⟨[], [], [(5, .l [(0, []), (1, []), (2, []), (3, []), (4, []), (5, []), (6, []), (7, []), (8, []), (9, []), (10, []), (12, []), (13, []), (11, [7, 8, 10, 6, 9, 5, 3, 4, 2]), (14, []), (15, [14, 11, 0, 1, 2, 3, 4, 5, 6, 7, 8, 9, 10, 13, 12])])], [(1, [(4, 8, ⟨[(18, kB)], [11, 12, 13, 14, 15, 16, 17]⟩)])]⟩ [.pointer a0, .int .i64 a1] R w = sh197 a0 a1 R w := by kernel_rfl
theorem call197 {a0 : Option Addr} {a1 : Int} {w : World} {K : TK [kB] → World → Prop} (h : sh197 a0 a1 (fun vs w' => ∃ t, encK [kB] t = vs ∧ K t w') w) : cl Pg 197 [.pointer a0, .int .i64 a1] [kB] w K := cl_of Tryz.func197 (tie197 ..) h
def sh117 (a0 : Option Addr) (a1 : Int) (a2 : Int) (R : List Value → World → Prop) (w : World) : Prop :=
 cl Pg 89 [.int .i64 a2] [kB] w fun (r1 : Bool × Unit) w2 =>
 jn [kB] w2 (fun (t4 : Bool × Unit) w5 =>
 cs t4.1 (
 R [.bool false] w5) (
 cl Pg 90 [.pointer a0, .int .i64 a1, .int .i64 a2] [] w5 fun (r7 : Unit) w8 =>
 R [.bool true] w8)) fun J3 w6 =>
 cs (!r1.1) (
 J3 (true, ()) w6) (
 cl Pg 197 [.pointer a0, .int .i64 a1] [kB] w6 fun (r9 : Bool × Unit) w10 =>
 J3 (!r9.1, ()) w10)
theorem tie117 (a0 : Option Addr) (a1 : Int) (a2 : Int) (R : List Value → World → Prop) (w : World) : compF Pg Tryz.f117 ⟨[], [], [], [(1, [(4, 5, ⟨[(15, kB)], [11, 12, 13, 14]⟩)])]⟩ [.pointer a0, .int .i64 a1, .int .i64 a2] R w = sh117 a0 a1 a2 R w := by kernel_rfl
theorem call117 {a0 : Option Addr} {a1 : Int} {a2 : Int} {w : World} {K : TK [kB] → World → Prop} (h : sh117 a0 a1 a2 (fun vs w' => ∃ t, encK [kB] t = vs ∧ K t w') w) : cl Pg 117 [.pointer a0, .int .i64 a1, .int .i64 a2] [kB] w K := cl_of Tryz.func117 (tie117 ..) h
def sh56 (a0 : Option Addr) (R : List Value → World → Prop) (w : World) : Prop :=
 lp [kI] w ((1 : Int), ()) fun (t1 : Int × Unit) J2 w3 =>
 nn a0 fun b4 o5 =>
 ldS w3 b4 (o5 + 9) fun s6 =>
 cs (decide ((t1.1 : Int) < ((s6.len : Int) : Int))) (
 nn a0 fun b7 o8 =>
 ldS w3 b7 (o8 + 9) fun s9 =>
 ix s9 t1.1 1 fun b10 o11 =>
 ldP w3 b10 o11 fun p12 =>
 nn a0 fun b13 o14 =>
 ldP w3 b13 (o14 + 5) fun p15 =>
 cl Pg 35 [.pointer p15, .int .i64 t1.1] [kI] w3 fun (r16 : Int × Unit) w17 =>
 nn p12 fun b18 o19 =>
 ldI w17 .i64 b18 (o19 + 2) fun n20 =>
 cs ((r16.1 : Int) == (n20 : Int)) (
 J2 (w64 (t1.1 + 1), ()) w17) (
 nn p12 fun b21 o22 =>
 st1 w17 b21 (o22 + 2) (.int .i64 r16.1) fun w23 =>
 nn a0 fun b24 o25 =>
 ldP w23 b24 (o25 + 8) fun p26 =>
 cl Pg 117 [.pointer p26, .int .i64 t1.1, .int .i64 r16.1] [kB] w23 fun (r27 : Bool × Unit) w28 =>
 cs r27.1 (
 J2 (w64 (t1.1 + 1), ()) w28) (
 nn p12 fun b29 o30 =>
 ldI w28 .i64 b29 (o30 + 3) fun n31 =>
 cs ((n31 : Int) == (3 : Int)) (
 dr w28 fun w32 =>
 nn a0 fun b33 o34 =>
 ldS w32 b33 o34 fun s35 =>
 nn p12 fun b36 o37 =>
 ldI w32 .i64 b36 (o37 + 4) fun n38 =>
 ix s35 (w64 (n38 - 1)) 1 fun b39 o40 =>
 ldP w32 b39 o40 fun p41 =>
 nn p41 fun b42 o43 =>
 ldP w32 b42 o43 fun p44 =>
 cl Pg 118 [.pointer p44, .int .i64 t1.1, .int .i64 r16.1] [kB] w32 fun (r45 : Bool × Unit) w46 =>
 J2 (w64 (t1.1 + 1), ()) w46) (
 cs ((n31 : Int) == (4 : Int)) (
 dr w28 fun w47 =>
 nn a0 fun b48 o49 =>
 ldS w47 b48 (o49 + 1) fun s50 =>
 nn p12 fun b51 o52 =>
 ldI w47 .i64 b51 (o52 + 4) fun n53 =>
 ix s50 (w64 (n53 - 1)) 1 fun b54 o55 =>
 ldP w47 b54 o55 fun p56 =>
 nn p56 fun b57 o58 =>
 ldP w47 b57 o58 fun p59 =>
 cl Pg 118 [.pointer p59, .int .i64 t1.1, .int .i64 r16.1] [kB] w47 fun (r60 : Bool × Unit) w61 =>
 J2 (w64 (t1.1 + 1), ()) w61) (
 jn [kB] w28 (fun (t63 : Bool × Unit) w65 =>
 cs t63.1 (
 dr w65 fun w67 =>
 nn a0 fun b68 o69 =>
 ldS w67 b68 (o69 + 2) fun s70 =>
 nn p12 fun b71 o72 =>
 ldI w67 .i64 b71 (o72 + 4) fun n73 =>
 ix s70 (w64 (n73 - 1)) 1 fun b74 o75 =>
 ldP w67 b74 o75 fun p76 =>
 cl Pg 119 [.pointer p76, .int .i64 t1.1, .int .i64 r16.1] [kB] w67 fun (r77 : Bool × Unit) w78 =>
 J2 (w64 (t1.1 + 1), ()) w78) (
 cs ((n31 : Int) == (8 : Int)) (
 dr w65 fun w79 =>
 nn a0 fun b80 o81 =>
 ldS w79 b80 (o81 + 3) fun s82 =>
 nn p12 fun b83 o84 =>
 ldI w79 .i64 b83 (o84 + 4) fun n85 =>
 ix s82 (w64 (n85 - 1)) 1 fun b86 o87 =>
 ldP w79 b86 o87 fun p88 =>
 nn p88 fun b89 o90 =>
 ldP w79 b89 o90 fun p91 =>
 cl Pg 118 [.pointer p91, .int .i64 t1.1, .int .i64 r16.1] [kB] w79 fun (r92 : Bool × Unit) w93 =>
 J2 (w64 (t1.1 + 1), ()) w93) (
 J2 (w64 (t1.1 + 1), ()) w65))) fun J62 w66 =>
 cs ((n31 : Int) == (5 : Int)) (
 J62 (true, ()) w66) (
 J62 ((n31 : Int) == (6 : Int), ()) w66)))))) (
 R [] w3)
theorem tie56 (a0 : Option Addr) (R : List Value → World → Prop) (w : World) : compF Pg Tryz.f56 ⟨[(1, ⟨[(2, kI)], [3, 4, 5, 6, 7, 8, 9, 10, 11, 12, 13, 14, 15, 16, 17, 18, 19, 20, 21, 22, 23, 24, 25, 26, 27, 28, 29, 30, 31, 32, 33, 34, 35, 36, 37, 38, 39, 40, 41, 42, 43, 44, 45, 46, 47, 48, 49, 50, 51, 52, 53, 54, 55, 56, 57, 58, 59, 60, 61, 62, 63, 64, 65, 66, 67, 68, 69, 70, 71, 72, 73, 74, 75, 76, 77, 78, 79, 80, 81, 82, 83, 84, 85, 86, 87, 88, 89, 90, 91, 92, 93, 94, 95, 96, 97, 98, 99, 100, 101, 102, 103, 104, 105, 106, 107, 108, 109, 110, 111, 112, 113, 114, 115, 116, 117, 118, 119, 120, 121, 122, 123, 124, 125, 126]⟩), (9, ⟨[(89, kB)], [91]⟩)], [], [(10, .l [(0, []), (1, []), (2, []), (3, []), (4, []), (5, []), (6, []), (7, []), (8, []), (9, []), (10, []), (11, []), (12, []), (13, []), (14, []), (15, []), (16, []), (17, [14, 15, 16, 13, 12, 11, 10, 4, 9, 3, 8, 2, 7, 1, 6, 0, 5])]), (12, .l [(0, []), (1, []), (2, []), (3, []), (4, []), (5, []), (6, []), (7, []), (8, []), (9, []), (10, []), (11, []), (12, []), (13, []), (14, []), (15, []), (16, []), (17, [14, 15, 16, 13, 12, 11, 10, 4, 9, 3, 8, 2, 7, 1, 6, 0, 5])]), (15, .l [(0, []), (1, []), (2, []), (3, []), (4, []), (5, []), (6, []), (7, []), (8, []), (9, []), (10, []), (11, []), (12, []), (13, []), (14, [11, 12, 13, 10, 4, 9, 3, 8, 2, 7, 1, 6, 0, 5])]), (17, .l [(0, []), (1, []), (2, []), (3, []), (4, []), (5, []), (6, []), (7, []), (8, []), (9, []), (10, []), (11, []), (12, []), (13, []), (14, []), (15, []), (16, []), (17, [14, 15, 16, 13, 12, 11, 10, 4, 9, 3, 8, 2, 7, 1, 6, 0, 5])])], []⟩ [.pointer a0] R w = sh56 a0 R w := by kernel_rfl
theorem call56 {a0 : Option Addr} {w : World} {K : TK [] → World → Prop} (h : sh56 a0 (fun vs w' => ∃ t, encK [] t = vs ∧ K t w') w) : cl Pg 56 [.pointer a0] [] w K := cl_of Tryz.func56 (tie56 ..) h
def sh115 (a0 : Option Addr) (R : List Value → World → Prop) (w : World) : Prop :=
 nn a0 fun b1 o2 =>
 ldI w .i64 b1 (o2 + 3) fun n3 =>
 jn [] w (fun (t5 : Unit) w6 =>
 nn a0 fun b8 o9 =>
 st1 w6 b8 (o9 + 4) (.bool false) fun w10 =>
 R [.bool true] w10) fun J4 w7 =>
 cs ((n3 : Int) == (4 : Int)) (
 nn a0 fun b11 o12 =>
 st1 w7 b11 (o12 + 3) (.int .i64 2) fun w13 =>
 J4 () w13) (
 cs ((n3 : Int) == (12 : Int)) (
 nn a0 fun b14 o15 =>
 st1 w7 b14 (o15 + 3) (.int .i64 8) fun w16 =>
 J4 () w16) (
 R [.bool false] w7))
theorem tie115 (a0 : Option Addr) (R : List Value → World → Prop) (w : World) : compF Pg Tryz.f115 ⟨[(1, ⟨[], [2, 9, 10, 11, 12, 13, 14, 15, 16]⟩)], [], [], []⟩ [.pointer a0] R w = sh115 a0 R w := by kernel_rfl
theorem call115 {a0 : Option Addr} {w : World} {K : TK [kB] → World → Prop} (h : sh115 a0 (fun vs w' => ∃ t, encK [kB] t = vs ∧ K t w') w) : cl Pg 115 [.pointer a0] [kB] w K := cl_of Tryz.func115 (tie115 ..) h
def sh255 (a0 : Sl) (a1 : Int) (a2 : Int) (R : List Value → World → Prop) (w : World) : Prop :=
 dr w fun w1 =>
 ix a0 a1 3 fun b2 o3 =>
 ldI w1 .u64 b2 o3 fun n4 =>
 ldI w1 .i64 b2 (o3 + 1) fun n5 =>
 ldI w1 .i64 b2 (o3 + 2) fun n6 =>
 ix a0 a2 3 fun b7 o8 =>
 ldI w1 .u64 b7 o8 fun n9 =>
 ldI w1 .i64 b7 (o8 + 1) fun n10 =>
 ldI w1 .i64 b7 (o8 + 2) fun n11 =>
(
 al w1 331 [.int .u64 0, .int .i64 0, .int .i64 0] fun b12 w13 =>
(w13.cell? ⟨b7, o8, none⟩ = some (.int .u64 n9) ∧ w13.cell? ⟨b7, o8 + 1, none⟩ = some (.int .i64 n10) ∧ w13.cell? ⟨b7, o8 + 2, none⟩ = some (.int .i64 n11)) ∧ (
(w13.cell? ⟨b2, o3, none⟩ = some (.int .u64 n4) ∧ w13.cell? ⟨b2, o3 + 1, none⟩ = some (.int .i64 n5) ∧ w13.cell? ⟨b2, o3 + 2, none⟩ = some (.int .i64 n6)) ∧ (
 al w13 331 [.int .u64 0, .int .i64 0, .int .i64 0] fun b14 w15 =>
(w15.cell? ⟨b7, o8, none⟩ = some (.int .u64 n9) ∧ w15.cell? ⟨b7, o8 + 1, none⟩ = some (.int .i64 n10) ∧ w15.cell? ⟨b7, o8 + 2, none⟩ = some (.int .i64 n11)) ∧ (
(w15.cell? ⟨b2, o3, none⟩ = some (.int .u64 n4) ∧ w15.cell? ⟨b2, o3 + 1, none⟩ = some (.int .i64 n5) ∧ w15.cell? ⟨b2, o3 + 2, none⟩ = some (.int .i64 n6)) ∧ (
 st1 w15 b12 0 (.int .u64 n4) fun w16 =>
 st1 w16 b12 (0 + 1) (.int .i64 n5) fun w17 =>
 st1 w17 b12 (0 + 2) (.int .i64 n6) fun w18 =>
(w18.cell? ⟨b7, o8, none⟩ = some (.int .u64 n9) ∧ w18.cell? ⟨b7, o8 + 1, none⟩ = some (.int .i64 n10) ∧ w18.cell? ⟨b7, o8 + 2, none⟩ = some (.int .i64 n11)) ∧ (
 st1 w18 b14 0 (.int .u64 n9) fun w19 =>
 st1 w19 b14 (0 + 1) (.int .i64 n10) fun w20 =>
 st1 w20 b14 (0 + 2) (.int .i64 n11) fun w21 =>
 ldI w21 .u64 b12 0 fun n22 =>
 ldI w21 .u64 b14 0 fun n23 =>
 jn [kB] w21 (fun (t25 : Bool × Unit) w26 =>
 R [.bool t25.1] w26) fun J24 w27 =>
 cs (decide ((n22 : Int) < (n23 : Int))) (
 J24 (true, ()) w27) (
 ldI w27 .u64 b12 0 fun n28 =>
 ldI w27 .u64 b14 0 fun n29 =>
 jn [kB] w27 (fun (t31 : Bool × Unit) w32 =>
 J24 (t31.1, ()) w32) fun J30 w33 =>
 cs ((n28 : Int) == (n29 : Int)) (
 ldI w33 .i64 b12 (0 + 1) fun n34 =>
 ldI w33 .i64 b14 (0 + 1) fun n35 =>
 J30 (decide ((n34 : Int) < (n35 : Int)), ()) w33) (
 J30 (false, ()) w33)))))))) ∧ (
 al w1 331 [.int .u64 0, .int .i64 0, .int .i64 0] fun b36 w37 =>
(w37.cell? ⟨b7, o8, none⟩ = some (.int .u64 n9) ∧ w37.cell? ⟨b7, o8 + 1, none⟩ = some (.int .i64 n10) ∧ w37.cell? ⟨b7, o8 + 2, none⟩ = some (.int .i64 n11)) ∧ (
(w37.cell? ⟨b2, o3, none⟩ = some (.int .u64 n4) ∧ w37.cell? ⟨b2, o3 + 1, none⟩ = some (.int .i64 n5) ∧ w37.cell? ⟨b2, o3 + 2, none⟩ = some (.int .i64 n6)) ∧ (
 al w37 331 [.int .u64 0, .int .i64 0, .int .i64 0] fun b38 w39 =>
(w39.cell? ⟨b7, o8, none⟩ = some (.int .u64 n9) ∧ w39.cell? ⟨b7, o8 + 1, none⟩ = some (.int .i64 n10) ∧ w39.cell? ⟨b7, o8 + 2, none⟩ = some (.int .i64 n11)) ∧ (
(w39.cell? ⟨b2, o3, none⟩ = some (.int .u64 n4) ∧ w39.cell? ⟨b2, o3 + 1, none⟩ = some (.int .i64 n5) ∧ w39.cell? ⟨b2, o3 + 2, none⟩ = some (.int .i64 n6)) ∧ (
 st1 w39 b38 0 (.int .u64 n4) fun w40 =>
 st1 w40 b38 (0 + 1) (.int .i64 n5) fun w41 =>
 st1 w41 b38 (0 + 2) (.int .i64 n6) fun w42 =>
(w42.cell? ⟨b7, o8, none⟩ = some (.int .u64 n9) ∧ w42.cell? ⟨b7, o8 + 1, none⟩ = some (.int .i64 n10) ∧ w42.cell? ⟨b7, o8 + 2, none⟩ = some (.int .i64 n11)) ∧ (
 st1 w42 b36 0 (.int .u64 n9) fun w43 =>
 st1 w43 b36 (0 + 1) (.int .i64 n10) fun w44 =>
 st1 w44 b36 (0 + 2) (.int .i64 n11) fun w45 =>
 ldI w45 .u64 b38 0 fun n46 =>
 ldI w45 .u64 b36 0 fun n47 =>
 jn [kB] w45 (fun (t49 : Bool × Unit) w50 =>
 R [.bool t49.1] w50) fun J48 w51 =>
 cs (decide ((n46 : Int) < (n47 : Int))) (
 J48 (true, ()) w51) (
 ldI w51 .u64 b38 0 fun n52 =>
 ldI w51 .u64 b36 0 fun n53 =>
 jn [kB] w51 (fun (t55 : Bool × Unit) w56 =>
 J48 (t55.1, ()) w56) fun J54 w57 =>
 cs ((n52 : Int) == (n53 : Int)) (
 ldI w57 .i64 b38 (0 + 1) fun n58 =>
 ldI w57 .i64 b36 (0 + 1) fun n59 =>
 J54 (decide ((n58 : Int) < (n59 : Int)), ()) w57) (
 J54 (false, ()) w57))))))))
theorem tie255 (a0 : Sl) (a1 : Int) (a2 : Int) (R : List Value → World → Prop) (w : World) : compF Pg Tryz.f255 ⟨[], [], [(1, .t [(0, []), (1, []), (2, []), (3, []), (4, []), (5, []), (6, []), (7, [])] 8 [] (.l [(9, []), (10, [8, 3, 0, 1, 2, 9]), (11, [9, 7, 10, 0, 1, 2, 3, 4, 5, 6, 8])]) 9 [] (.l [(8, []), (10, [8, 3, 0, 1, 2, 9]), (11, [9, 7, 10, 0, 1, 2, 3, 4, 5, 6, 8])]))], [(2, [(6, 13, ⟨[(35, kB)], [23, 24, 25, 26, 27, 28, 29, 30, 31, 32, 33, 34]⟩), (12, 6, ⟨[(34, kB)], [29, 30, 31, 32, 33]⟩)])]⟩ [vS a0, .int .i64 a1, .int .i64 a2] R w = sh255 a0 a1 a2 R w := by kernel_rfl
theorem call255 {a0 : Sl} {a1 : Int} {a2 : Int} {w : World} {K : TK [kB] → World → Prop} (h : sh255 a0 a1 a2 (fun vs w' => ∃ t, encK [kB] t = vs ∧ K t w') w) : cl Pg 255 [vS a0, .int .i64 a1, .int .i64 a2] [kB] w K := cl_of Tryz.func255 (tie255 ..) h
def sh248 (a0 : Sl) (a1 : Int) (R : List Value → World → Prop) (w : World) : Prop :=
 lp [kI] w (a1, ()) fun (t1 : Int × Unit) J2 w3 =>
 jn [kB] w3 (fun (t5 : Bool × Unit) w6 =>
 cs t5.1 (
 dr w6 fun w8 =>
 ix a0 (w64 (Int.tdiv (w64 (t1.1 - 1)) 2)) 3 fun b9 o10 =>
 ldI w8 .u64 b9 o10 fun n11 =>
 ldI w8 .i64 b9 (o10 + 1) fun n12 =>
 ldI w8 .i64 b9 (o10 + 2) fun n13 =>
 ix a0 t1.1 3 fun b14 o15 =>
 ldI w8 .u64 b14 o15 fun n16 =>
 ldI w8 .i64 b14 (o15 + 1) fun n17 =>
 ldI w8 .i64 b14 (o15 + 2) fun n18 =>
 ix a0 t1.1 3 fun b19 o20 =>
 st1 w8 b19 o20 (.int .u64 n11) fun w21 =>
 st1 w21 b19 (o20 + 1) (.int .i64 n12) fun w22 =>
 st1 w22 b19 (o20 + 2) (.int .i64 n13) fun w23 =>
 ix a0 (w64 (Int.tdiv (w64 (t1.1 - 1)) 2)) 3 fun b24 o25 =>
 st1 w23 b24 o25 (.int .u64 n16) fun w26 =>
 st1 w26 b24 (o25 + 1) (.int .i64 n17) fun w27 =>
 st1 w27 b24 (o25 + 2) (.int .i64 n18) fun w28 =>
 J2 (w64 (Int.tdiv (w64 (t1.1 - 1)) 2), ()) w28) (
 R [] w6)) fun J4 w7 =>
 cs (decide ((t1.1 : Int) > (0 : Int))) (
 cl Pg 255 [vS a0, .int .i64 t1.1, .int .i64 (w64 (Int.tdiv (w64 (t1.1 - 1)) 2))] [kB] w7 fun (r29 : Bool × Unit) w30 =>
 J4 (r29.1, ()) w30) (
 J4 (false, ()) w7)
theorem tie248 (a0 : Sl) (a1 : Int) (R : List Value → World → Prop) (w : World) : compF Pg Tryz.f248 ⟨[(1, ⟨[(1, kI)], [4, 5, 6, 7, 8, 9, 10, 11, 12, 13, 14, 15, 16, 17, 18, 19, 20, 21, 22, 23, 24, 25, 26, 27, 28, 29, 30, 31, 32, 33, 34]⟩)], [], [(1, .l [(0, []), (1, []), (2, []), (3, []), (4, []), (5, []), (6, []), (7, []), (8, []), (9, []), (10, []), (11, []), (12, []), (13, []), (14, []), (15, []), (16, []), (17, [16, 11, 0, 1, 6, 7, 8, 9, 10, 15, 14, 12, 13]), (18, []), (19, [18, 15, 17, 0, 1, 2, 3, 4, 5, 6, 7, 8, 9, 10, 11, 12, 13, 14, 16])])], [(0, [(3, 7, ⟨[(13, kB)], [7, 8, 9, 10, 11, 12]⟩)])]⟩ [vS a0, .int .i64 a1] R w = sh248 a0 a1 R w := by kernel_rfl
theorem call248 {a0 : Sl} {a1 : Int} {w : World} {K : TK [] → World → Prop} (h : sh248 a0 a1 (fun vs w' => ∃ t, encK [] t = vs ∧ K t w') w) : cl Pg 248 [vS a0, .int .i64 a1] [] w K := cl_of Tryz.func248 (tie248 ..) h
def sh249 (a0 : Sl) (a1 : Int) (R : List Value → World → Prop) (w : World) : Prop :=
 lp [kI] w (a1, ()) fun (t1 : Int × Unit) J2 w3 =>
 jn [kB] w3 (fun (t5 : Bool × Unit) w6 =>
 jn [kI] w6 (fun (t9 : Int × Unit) w10 =>
 jn [kB] w10 (fun (t13 : Bool × Unit) w14 =>
 cs t13.1 (
 R [] w14) (
 dr w14 fun w16 =>
 ix a0 t9.1 3 fun b17 o18 =>
 ldI w16 .u64 b17 o18 fun n19 =>
 ldI w16 .i64 b17 (o18 + 1) fun n20 =>
 ldI w16 .i64 b17 (o18 + 2) fun n21 =>
 ix a0 t1.1 3 fun b22 o23 =>
 ldI w16 .u64 b22 o23 fun n24 =>
 ldI w16 .i64 b22 (o23 + 1) fun n25 =>
 ldI w16 .i64 b22 (o23 + 2) fun n26 =>
 ix a0 t1.1 3 fun b27 o28 =>
 st1 w16 b27 o28 (.int .u64 n19) fun w29 =>
 st1 w29 b27 (o28 + 1) (.int .i64 n20) fun w30 =>
 st1 w30 b27 (o28 + 2) (.int .i64 n21) fun w31 =>
 ix a0 t9.1 3 fun b32 o33 =>
 st1 w31 b32 o33 (.int .u64 n24) fun w34 =>
 st1 w34 b32 (o33 + 1) (.int .i64 n25) fun w35 =>
 st1 w35 b32 (o33 + 2) (.int .i64 n26) fun w36 =>
 J2 (t9.1, ()) w36)) fun J12 w15 =>
 cs (decide ((t9.1 : Int) ≥ ((a0.len : Int) : Int))) (
 J12 (true, ()) w15) (
 cl Pg 255 [vS a0, .int .i64 t9.1, .int .i64 t1.1] [kB] w15 fun (r37 : Bool × Unit) w38 =>
 J12 (!r37.1, ()) w38)) fun J8 w11 =>
 cs t5.1 (
 J8 (w64 ((w64 ((w64 (2 * t1.1)) + 1)) + 1), ()) w11) (
 J8 (w64 ((w64 (2 * t1.1)) + 1), ()) w11)) fun J4 w7 =>
 cs (decide ((w64 ((w64 ((w64 (2 * t1.1)) + 1)) + 1) : Int) < ((a0.len : Int) : Int))) (
 cl Pg 255 [vS a0, .int .i64 (w64 ((w64 ((w64 (2 * t1.1)) + 1)) + 1)), .int .i64 (w64 ((w64 (2 * t1.1)) + 1))] [kB] w7 fun (r39 : Bool × Unit) w40 =>
 J4 (r39.1, ()) w40) (
 J4 (false, ()) w7)
theorem tie249 (a0 : Sl) (a1 : Int) (R : List Value → World → Prop) (w : World) : compF Pg Tryz.f249 ⟨[(1, ⟨[(1, kI)], [4, 5, 6, 7, 8, 9, 10, 11, 12, 13, 14, 15, 16, 17, 18, 19, 20, 21, 22, 23, 24, 25, 26, 27, 28, 29, 30, 31, 32, 33, 34, 35, 36, 37, 38, 39, 40, 41, 42, 43, 44, 45, 46, 47]⟩), (3, ⟨[(4, kI)], [20, 21]⟩)], [], [(4, .l [(0, []), (1, []), (2, []), (3, []), (4, []), (5, []), (6, []), (7, []), (8, []), (9, []), (10, []), (11, []), (12, []), (13, [12, 7, 0, 1, 4, 5, 6, 11, 10, 8, 9]), (14, []), (15, [14, 11, 13, 0, 1, 2, 3, 4, 5, 6, 7, 8, 9, 10, 12])])], [(1, [(6, 6, ⟨[(19, kB)], [14, 15, 16, 17, 18]⟩)]), (3, [(5, 6, ⟨[(32, kB)], [27, 28, 29, 30, 31]⟩)])]⟩ [vS a0, .int .i64 a1] R w = sh249 a0 a1 R w := by kernel_rfl
theorem call249 {a0 : Sl} {a1 : Int} {w : World} {K : TK [] → World → Prop} (h : sh249 a0 a1 (fun vs w' => ∃ t, encK [] t = vs ∧ K t w') w) : cl Pg 249 [vS a0, .int .i64 a1] [] w K := cl_of Tryz.func249 (tie249 ..) h
def sh230 (a0 : Option Addr) (a1 : Int) (R : List Value → World → Prop) (w : World) : Prop :=
 nn a0 fun b1 o2 =>
 ldS w b1 o2 fun s3 =>
 dr w fun w4 =>
 nn a0 fun b5 o6 =>
 ldS w4 b5 o6 fun s7 =>
 nn a0 fun b8 o9 =>
 ldS w4 b8 o9 fun s10 =>
 ix s10 (w64 ((s3.len : Int) - 1)) 3 fun b11 o12 =>
 ldI w4 .u64 b11 o12 fun n13 =>
 ldI w4 .i64 b11 (o12 + 1) fun n14 =>
 ldI w4 .i64 b11 (o12 + 2) fun n15 =>
 ix s7 a1 3 fun b16 o17 =>
 st1 w4 b16 o17 (.int .u64 n13) fun w18 =>
 st1 w18 b16 (o17 + 1) (.int .i64 n14) fun w19 =>
 st1 w19 b16 (o17 + 2) (.int .i64 n15) fun w20 =>
 nn a0 fun b21 o22 =>
 ldS w20 b21 o22 fun s23 =>
 sb s23 0 (w64 ((s3.len : Int) - 1)) s23.cap 3 fun s24 =>
 nn a0 fun b25 o26 =>
 st1 w20 b25 o26 (vS s24) fun w27 =>
 cs (decide ((a1 : Int) < (w64 ((s3.len : Int) - 1) : Int))) (
 nn a0 fun b28 o29 =>
 ldS w27 b28 o29 fun s30 =>
 cl Pg 248 [vS s30, .int .i64 a1] [] w27 fun (r31 : Unit) w32 =>
 nn a0 fun b33 o34 =>
 ldS w32 b33 o34 fun s35 =>
 cl Pg 249 [vS s35, .int .i64 a1] [] w32 fun (r36 : Unit) w37 =>
 R [] w37) (
 R [] w27)
theorem tie230 (a0 : Option Addr) (a1 : Int) (R : List Value → World → Prop) (w : World) : compF Pg Tryz.f230 ⟨[], [], [(1, .l [(0, []), (1, []), (2, []), (3, []), (4, []), (5, []), (6, []), (7, []), (8, []), (9, []), (10, []), (11, []), (12, []), (13, [12, 11, 0, 1, 2, 3, 4, 5, 6, 7, 8, 9, 10])])], []⟩ [.pointer a0, .int .i64 a1] R w = sh230 a0 a1 R w := by kernel_rfl
theorem call230 {a0 : Option Addr} {a1 : Int} {w : World} {K : TK [] → World → Prop} (h : sh230 a0 a1 (fun vs w' => ∃ t, encK [] t = vs ∧ K t w') w) : cl Pg 230 [.pointer a0, .int .i64 a1] [] w K := cl_of Tryz.func230 (tie230 ..) h
def sh257 (a0 : Sl) (a1 : Fv) (R : List Value → World → Prop) (w : World) : Prop :=
 lp [kI] w ((0 : Int), ()) fun (t1 : Int × Unit) J2 w3 =>
 cs (decide ((t1.1 : Int) < ((a0.len : Int) : Int))) (
 ix a0 t1.1 3 fun b4 o5 =>
 ldI w3 .u64 b4 o5 fun n6 =>
 ldI w3 .i64 b4 (o5 + 1) fun n7 =>
 ldI w3 .i64 b4 (o5 + 2) fun n8 =>
 ob (enterable Pg a1.fid = true) (
 cl Pg a1.fid (a1.pre ++ ([.agg #[.int .u64 n6, .int .i64 n7, .int .i64 n8]] ++ a1.post)) [kB] w3 fun (r9 : Bool × Unit) w10 =>
 cs r9.1 (
 R [.int .i64 t1.1] w10) (
 J2 (w64 (t1.1 + 1), ()) w10))) (
 R [.int .i64 (-1)] w3)
theorem tie257 (a0 : Sl) (a1 : Fv) (R : List Value → World → Prop) (w : World) : compF Pg Tryz.f257 ⟨[(1, ⟨[(8, kI)], [4, 5, 9, 10, 11, 12, 13, 14, 15, 16, 17, 18]⟩)], [], [], []⟩ [vS a0, vF a1] R w = sh257 a0 a1 R w := by kernel_rfl
theorem call257 {a0 : Sl} {a1 : Fv} {w : World} {K : TK [kI] → World → Prop} (h : sh257 a0 a1 (fun vs w' => ∃ t, encK [kI] t = vs ∧ K t w') w) : cl Pg 257 [vS a0, vF a1] [kI] w K := cl_of Tryz.func257 (tie257 ..) h
def sh258 (a0 : (Int × Int × Int × Unit)) (c0 : Nat) (R : List Value → World → Prop) (w : World) : Prop :=
 al w 331 [.int .u64 a0.1, .int .i64 a0.2.1, .int .i64 a0.2.2.1] fun b1 w2 =>
 ldI w2 .i64 b1 (0 + 1) fun n3 =>
 ldI w2 .i64 c0 0 fun n4 =>
 R [.bool ((n3 : Int) == (n4 : Int))] w2
theorem tie258 (a0 : (Int × Int × Int × Unit)) (c0 : Nat) (R : List Value → World → Prop) (w : World) : compF Pg Tryz.f258 ⟨[], [], [], []⟩ [.agg #[.int .u64 a0.1, .int .i64 a0.2.1, .int .i64 a0.2.2.1], .pointer (some ⟨c0, 0, none⟩)] R w = sh258 a0 c0 R w := by kernel_rfl
theorem call258 {a0 : (Int × Int × Int × Unit)} {c0 : Nat} {w : World} {K : TK [kB] → World → Prop} (h : sh258 a0 c0 (fun vs w' => ∃ t, encK [kB] t = vs ∧ K t w') w) : cl Pg 258 [.agg #[.int .u64 a0.1, .int .i64 a0.2.1, .int .i64 a0.2.2.1], .pointer (some ⟨c0, 0, none⟩)] [kB] w K := cl_of Tryz.func258 (tie258 ..) h
def sh251 (a0 : Option Addr) (a1 : Int) (R : List Value → World → Prop) (w : World) : Prop :=
 al w 3 [.int .i64 a1] fun b1 w2 =>
 nn a0 fun b3 o4 =>
 ldS w2 b3 o4 fun s5 =>
 cl Pg 257 [vS s5, .func (.func 258) #[] #[.pointer (some ⟨b1, 0, none⟩)]] [kI] w2 fun (r6 : Int × Unit) w7 =>
 R [.int .i64 r6.1] w7
theorem tie251 (a0 : Option Addr) (a1 : Int) (R : List Value → World → Prop) (w : World) : compF Pg Tryz.f251 ⟨[], [], [], []⟩ [.pointer a0, .int .i64 a1] R w = sh251 a0 a1 R w := by kernel_rfl
theorem call251 {a0 : Option Addr} {a1 : Int} {w : World} {K : TK [kI] → World → Prop} (h : sh251 a0 a1 (fun vs w' => ∃ t, encK [kI] t = vs ∧ K t w') w) : cl Pg 251 [.pointer a0, .int .i64 a1] [kI] w K := cl_of Tryz.func251 (tie251 ..) h
def sh236 (a0 : Option Addr) (a1 : Int) (R : List Value → World → Prop) (w : World) : Prop :=
 cl Pg 251 [.pointer a0, .int .i64 a1] [kI] w fun (r1 : Int × Unit) w2 =>
 cs (decide ((r1.1 : Int) ≥ (0 : Int))) (
 cl Pg 230 [.pointer a0, .int .i64 r1.1] [] w2 fun (r3 : Unit) w4 =>
 R [.bool (decide ((r1.1 : Int) ≥ (0 : Int)))] w4) (
 R [.bool (decide ((r1.1 : Int) ≥ (0 : Int)))] w2)
theorem tie236 (a0 : Option Addr) (a1 : Int) (R : List Value → World → Prop) (w : World) : compF Pg Tryz.f236 ⟨[], [], [], []⟩ [.pointer a0, .int .i64 a1] R w = sh236 a0 a1 R w := by kernel_rfl
theorem call236 {a0 : Option Addr} {a1 : Int} {w : World} {K : TK [kB] → World → Prop} (h : sh236 a0 a1 (fun vs w' => ∃ t, encK [kB] t = vs ∧ K t w') w) : cl Pg 236 [.pointer a0, .int .i64 a1] [kB] w K := cl_of Tryz.func236 (tie236 ..) h
def sh196 (a0 : Option Addr) (a1 : Int) (R : List Value → World → Prop) (w : World) : Prop :=
 nn a0 fun b1 o2 =>
 ldS w b1 (o2 + 9) fun s3 =>
 ix s3 a1 1 fun b4 o5 =>
 ldP w b4 o5 fun p6 =>
 dr w fun w7 =>
 nn a0 fun b8 o9 =>
 ldP w7 b8 (o9 + 7) fun p10 =>
 nn p10 fun b11 o12 =>
 ldP w7 b11 o12 fun p13 =>
 nn p13 fun b14 o15 =>
 ldP w7 b14 o15 fun p16 =>
 nn p6 fun b17 o18 =>
 ldI w7 .i64 b17 (o18 + 5) fun n19 =>
 cl Pg 236 [.pointer p16, .int .i64 n19] [kB] w7 fun (r20 : Bool × Unit) w21 =>
 nn p6 fun b22 o23 =>
 st1 w21 b22 (o23 + 3) (.int .i64 0) fun w24 =>
 nn p6 fun b25 o26 =>
 st1 w24 b25 (o26 + 4) (.int .i64 0) fun w27 =>
 nn p6 fun b28 o29 =>
 st1 w27 b28 (o29 + 5) (.int .i64 0) fun w30 =>
 R [] w30
theorem tie196 (a0 : Option Addr) (a1 : Int) (R : List Value → World → Prop) (w : World) : compF Pg Tryz.f196 ⟨[], [], [(1, .l [(0, []), (1, []), (2, []), (3, []), (4, []), (5, []), (6, []), (7, []), (8, []), (9, []), (10, []), (11, []), (12, []), (13, []), (14, [9, 13, 8, 12, 7, 11, 6, 10, 5, 4, 3, 2, 1, 0])])], []⟩ [.pointer a0, .int .i64 a1] R w = sh196 a0 a1 R w := by kernel_rfl
theorem call196 {a0 : Option Addr} {a1 : Int} {w : World} {K : TK [] → World → Prop} (h : sh196 a0 a1 (fun vs w' => ∃ t, encK [] t = vs ∧ K t w') w) : cl Pg 196 [.pointer a0, .int .i64 a1] [] w K := cl_of Tryz.func196 (tie196 ..) h
def sh116 (a0 : Option Addr) (a1 : Int) (a2 : (Int × Int × Unit)) (R : List Value → World → Prop) (w : World) : Prop :=
 al w 57 [.int .i64 a2.1, .int .i64 a2.2.1] fun b1 w2 =>
 cl Pg 196 [.pointer a0, .int .i64 a1] [] w2 fun (r3 : Unit) w4 =>
 dr w4 fun w5 =>
 nn a0 fun b6 o7 =>
 ldS w5 b6 (o7 + 9) fun s8 =>
 ix s8 a1 1 fun b9 o10 =>
 ldP w5 b9 o10 fun p11 =>
 ldI w5 .i64 b1 0 fun n12 =>
 ldI w5 .i64 b1 (0 + 1) fun n13 =>
 nn p11 fun b14 o15 =>
 st1 w5 b14 (o15 + 6) (.int .i64 n12) fun w16 =>
 st1 w16 b14 (o15 + 6 + 1) (.int .i64 n13) fun w17 =>
 cl Pg 188 [.pointer a0, .int .i64 a1] [] w17 fun (r18 : Unit) w19 =>
 R [] w19
theorem tie116 (a0 : Option Addr) (a1 : Int) (a2 : (Int × Int × Unit)) (R : List Value → World → Prop) (w : World) : compF Pg Tryz.f116 ⟨[], [], [(2, .l [(0, []), (1, []), (2, []), (3, []), (4, []), (5, []), (6, []), (7, []), (8, []), (9, []), (10, [9, 7, 0, 1, 2, 3, 4, 5, 6, 8])])], []⟩ [.pointer a0, .int .i64 a1, .agg #[.int .i64 a2.1, .int .i64 a2.2.1]] R w = sh116 a0 a1 a2 R w := by kernel_rfl
theorem call116 {a0 : Option Addr} {a1 : Int} {a2 : (Int × Int × Unit)} {w : World} {K : TK [] → World → Prop} (h : sh116 a0 a1 a2 (fun vs w' => ∃ t, encK [] t = vs ∧ K t w') w) : cl Pg 116 [.pointer a0, .int .i64 a1, .agg #[.int .i64 a2.1, .int .i64 a2.2.1]] [] w K := cl_of Tryz.func116 (tie116 ..) h
def sh55 (a0 : Option Addr) (a1 : Int) (a2 : (Int × Int × Unit)) (R : List Value → World → Prop) (w : World) : Prop :=
 al w 57 [.int .i64 a2.1, .int .i64 a2.2.1] fun b1 w2 =>
 nn a0 fun b3 o4 =>
 ldS w2 b3 (o4 + 9) fun s5 =>
 ix s5 a1 1 fun b6 o7 =>
 ldP w2 b6 o7 fun p8 =>
 nn p8 fun b9 o10 =>
 ldP w2 b9 o10 fun p11 =>
 cl Pg 115 [.pointer p11] [kB] w2 fun (r12 : Bool × Unit) w13 =>
 ldI w13 .i64 b1 0 fun n14 =>
 ldI w13 .i64 b1 (0 + 1) fun n15 =>
 cl Pg 116 [.pointer a0, .int .i64 a1, .agg #[.int .i64 n14, .int .i64 n15]] [] w13 fun (r16 : Unit) w17 =>
 R [] w17
theorem tie55 (a0 : Option Addr) (a1 : Int) (a2 : (Int × Int × Unit)) (R : List Value → World → Prop) (w : World) : compF Pg Tryz.f55 ⟨[], [], [], []⟩ [.pointer a0, .int .i64 a1, .agg #[.int .i64 a2.1, .int .i64 a2.2.1]] R w = sh55 a0 a1 a2 R w := by kernel_rfl
theorem call55 {a0 : Option Addr} {a1 : Int} {a2 : (Int × Int × Unit)} {w : World} {K : TK [] → World → Prop} (h : sh55 a0 a1 a2 (fun vs w' => ∃ t, encK [] t = vs ∧ K t w') w) : cl Pg 55 [.pointer a0, .int .i64 a1, .agg #[.int .i64 a2.1, .int .i64 a2.2.1]] [] w K := cl_of Tryz.func55 (tie55 ..) h
def sh143 (a0 : Option Addr) (a1 : Int) (a2 : Sl) (R : List Value → World → Prop) (w : World) : Prop :=
 lp [kI] w ((0 : Int), ()) fun (t1 : Int × Unit) J2 w3 =>
 cs (decide ((t1.1 : Int) < ((a2.len : Int) : Int))) (
 ix a2 t1.1 1 fun b4 o5 =>
 ldI w3 .i64 b4 o5 fun n6 =>
 cs (decide ((n6 : Int) > (0 : Int))) (
 cl Pg 55 [.pointer a0, .int .i64 n6, .agg #[.int .i64 0, .int .i64 a1]] [] w3 fun (r7 : Unit) w8 =>
 J2 (w64 (t1.1 + 1), ()) w8) (
 J2 (w64 (t1.1 + 1), ()) w3)) (
 R [] w3)
theorem tie143 (a0 : Option Addr) (a1 : Int) (a2 : Sl) (R : List Value → World → Prop) (w : World) : compF Pg Tryz.f143 ⟨[(1, ⟨[(10, kI)], [7, 11, 12, 13, 14, 15, 16, 17, 18, 19, 20, 21]⟩)], [], [], []⟩ [.pointer a0, .int .i64 a1, vS a2] R w = sh143 a0 a1 a2 R w := by kernel_rfl
theorem call143 {a0 : Option Addr} {a1 : Int} {a2 : Sl} {w : World} {K : TK [] → World → Prop} (h : sh143 a0 a1 a2 (fun vs w' => ∃ t, encK [] t = vs ∧ K t w') w) : cl Pg 143 [.pointer a0, .int .i64 a1, vS a2] [] w K := cl_of Tryz.func143 (tie143 ..) h
def sh69 (a0 : Sl) (R : List Value → World → Prop) (w : World) : Prop :=
 sb a0 0 (a0.len : Int) (a0.len : Int) 1 fun s1 =>
 R [vS s1] w
theorem tie69 (a0 : Sl) (R : List Value → World → Prop) (w : World) : compF Pg Tryz.f69 ⟨[], [], [], []⟩ [vS a0] R w = sh69 a0 R w := by kernel_rfl
theorem call69 {a0 : Sl} {w : World} {K : TK [kS] → World → Prop} (h : sh69 a0 (fun vs w' => ∃ t, encK [kS] t = vs ∧ K t w') w) : cl Pg 69 [vS a0] [kS] w K := cl_of Tryz.func69 (tie69 ..) h
def sh68 (a0 : Option Addr) (a1 : Int) (R : List Value → World → Prop) (w : World) : Prop :=
 jn [kB] w (fun (t2 : Bool × Unit) w3 =>
 R [.bool t2.1] w3) fun J1 w4 =>
 cs (decide ((a1 : Int) ≥ (1 : Int))) (
 nn a0 fun b5 o6 =>
 ldS w4 b5 o6 fun s7 =>
 J1 (decide ((a1 : Int) < ((s7.len : Int) : Int)), ()) w4) (
 J1 (false, ()) w4)
theorem tie68 (a0 : Option Addr) (a1 : Int) (R : List Value → World → Prop) (w : World) : compF Pg Tryz.f68 ⟨[], [], [], [(1, [(3, 8, ⟨[(15, kB)], [8, 9, 10, 11, 12, 13, 14]⟩)])]⟩ [.pointer a0, .int .i64 a1] R w = sh68 a0 a1 R w := by kernel_rfl
theorem call68 {a0 : Option Addr} {a1 : Int} {w : World} {K : TK [kB] → World → Prop} (h : sh68 a0 a1 (fun vs w' => ∃ t, encK [kB] t = vs ∧ K t w') w) : cl Pg 68 [.pointer a0, .int .i64 a1] [kB] w K := cl_of Tryz.func68 (tie68 ..) h
def sh155 (a0 : Option Addr) (a1 : Int) (a2 : Int) (R : List Value → World → Prop) (w : World) : Prop :=
 cl Pg 68 [.pointer a0, .int .i64 a1] [kB] w fun (r1 : Bool × Unit) w2 =>
 jn [kB] w2 (fun (t4 : Bool × Unit) w5 =>
 cs t4.1 (
 R [.int .i64 0, .int .i64 (-18)] w5) (
 nn a0 fun b7 o8 =>
 ldS w5 b7 o8 fun s9 =>
 ix s9 a1 4 fun b10 o11 =>
 nn (some ⟨b10, o11, none⟩) fun b12 o13 =>
 ldI w5 .i64 b12 (o13 + 2) fun n14 =>
 cs ((n14 : Int) != (a2 : Int)) (
 R [.int .i64 0, .int .i64 (-28)] w5) (
 nn (some ⟨b10, o11, none⟩) fun b15 o16 =>
 st1 w5 b15 (o16 + 2) (.int .i64 0) fun w17 =>
 nn (some ⟨b10, o11, none⟩) fun b18 o19 =>
 ldS w17 b18 (o19 + 3) fun s20 =>
 jn [] w17 (fun (t22 : Unit) w23 =>
 cl Pg 64 [.pointer a0] [] w23 fun (r25 : Unit) w26 =>
 nn a0 fun b27 o28 =>
 ldS w26 b27 o28 fun s29 =>
 ix s29 a1 4 fun b30 o31 =>
 ldI w26 .i64 b30 (o31 + 2) fun n32 =>
 R [.int .i64 n32, .int .i64 0] w26) fun J21 w24 =>
 cs (decide (((s20.len : Int) : Int) > (0 : Int))) (
 nn (some ⟨b10, o11, none⟩) fun b33 o34 =>
 ldS w24 b33 (o34 + 3) fun s35 =>
 ix s35 0 1 fun b36 o37 =>
 ldI w24 .i64 b36 o37 fun n38 =>
 nn (some ⟨b10, o11, none⟩) fun b39 o40 =>
 st1 w24 b39 (o40 + 2) (.int .i64 n38) fun w41 =>
 nn (some ⟨b10, o11, none⟩) fun b42 o43 =>
 ldS w41 b42 (o43 + 3) fun s44 =>
 cl Pg 219 [vS s44, .int .i64 0, .int .i64 1] [kS] w41 fun (r45 : Sl × Unit) w46 =>
 nn (some ⟨b10, o11, none⟩) fun b47 o48 =>
 st1 w46 b47 (o48 + 3) (vS r45.1) fun w49 =>
 dr w49 fun w50 =>
 nn (some ⟨b10, o11, none⟩) fun b51 o52 =>
 ldI w50 .i64 b51 (o52 + 2) fun n53 =>
 nn a0 fun b54 o55 =>
 ixA b54 (o55 + 1) 17 n53 3 fun b56 o57 =>
 st1 w50 b56 (o57 + 2) (.int .i64 0) fun w58 =>
 J21 () w58) (
 J21 () w24)))) fun J3 w6 =>
 cs (!r1.1) (
 J3 (true, ()) w6) (
 cl Pg 62 [.int .i64 a2] [kB] w6 fun (r59 : Bool × Unit) w60 =>
 J3 (!r59.1, ()) w60)
theorem tie155 (a0 : Option Addr) (a1 : Int) (a2 : Int) (R : List Value → World → Prop) (w : World) : compF Pg Tryz.f155 ⟨[(2, ⟨[], [39, 40, 41, 42, 43, 44, 45, 46, 47, 48, 49, 50, 51, 52, 53, 54, 55, 56, 57, 58, 59, 60, 61, 62, 63, 64]⟩)], [], [(10, .l [(0, []), (1, []), (2, []), (3, []), (4, []), (5, []), (6, []), (7, []), (8, []), (9, [8, 0, 1, 2, 3, 4, 7, 6, 5])])], [(1, [(5, 4, ⟨[(17, kB)], [14, 15, 16]⟩)])]⟩ [.pointer a0, .int .i64 a1, .int .i64 a2] R w = sh155 a0 a1 a2 R w := by kernel_rfl
theorem call155 {a0 : Option Addr} {a1 : Int} {a2 : Int} {w : World} {K : TK [kI, kI] → World → Prop} (h : sh155 a0 a1 a2 (fun vs w' => ∃ t, encK [kI, kI] t = vs ∧ K t w') w) : cl Pg 155 [.pointer a0, .int .i64 a1, .int .i64 a2] [kI, kI] w K := cl_of Tryz.func155 (tie155 ..) h
def sh240 (a0 : Option Addr) (a1 : Int) (R : List Value → World → Prop) (w : World) : Prop :=
 lp [kS, kI] w (⟨none, 0, 0⟩, (1 : Int), ()) fun (t1 : Sl × Int × Unit) J2 w3 =>
 cl Pg 62 [.int .i64 a1] [kB] w3 fun (r4 : Bool × Unit) w5 =>
 jn [kB] w5 (fun (t7 : Bool × Unit) w8 =>
 cs t7.1 (
 nn a0 fun b10 o11 =>
 ldS w8 b10 o11 fun s12 =>
 ix s12 t1.2.1 4 fun b13 o14 =>
 ldI w8 .i64 b13 (o14 + 2) fun n15 =>
 cs ((n15 : Int) == (a1 : Int)) (
 al w8 3 [.int .i64 t1.2.1] fun b16 w17 =>
 ef Pg (Builtin.append_ #[72, 72] 72 #[vS t1.1, vS ⟨some ⟨b16, 0, none⟩, 1, 1⟩]) [kS] w17 fun (r18 : Sl × Unit) w19 =>
 J2 (r18.1, w64 (t1.2.1 + 1), ()) w19) (
 J2 (t1.1, w64 (t1.2.1 + 1), ()) w8)) (
 cl Pg 69 [vS t1.1] [kS] w8 fun (r20 : Sl × Unit) w21 =>
 R [vS r20.1] w21)) fun J6 w9 =>
 cs r4.1 (
 nn a0 fun b22 o23 =>
 ldS w9 b22 o23 fun s24 =>
 J6 (decide ((t1.2.1 : Int) < ((s24.len : Int) : Int)), ()) w9) (
 J6 (false, ()) w9)
theorem tie240 (a0 : Option Addr) (a1 : Int) (R : List Value → World → Prop) (w : World) : compF Pg Tryz.f240 ⟨[(1, ⟨[(5, kS), (6, kI)], [7, 8, 9, 10, 11, 12, 13, 14, 15, 16, 17, 18, 19, 20, 21, 22, 23, 24, 25, 26, 27, 28, 29, 30, 31, 32, 33]⟩)], [], [], [(3, [(3, 8, ⟨[(17, kB)], [10, 11, 12, 13, 14, 15, 16]⟩)])]⟩ [.pointer a0, .int .i64 a1] R w = sh240 a0 a1 R w := by kernel_rfl
theorem call240 {a0 : Option Addr} {a1 : Int} {w : World} {K : TK [kS] → World → Prop} (h : sh240 a0 a1 (fun vs w' => ∃ t, encK [kS] t = vs ∧ K t w') w) : cl Pg 240 [.pointer a0, .int .i64 a1] [kS] w K := cl_of Tryz.func240 (tie240 ..) h
def sh201 (a0 : Option Addr) (a1 : Int) (R : List Value → World → Prop) (w : World) : Prop :=
 cl Pg 240 [.pointer a0, .int .i64 a1] [kS] w fun (r1 : Sl × Unit) w2 =>
 lp [kS, kI] w2 (⟨none, 0, 0⟩, (0 : Int), ()) fun (t3 : Sl × Int × Unit) J4 w5 =>
 cs (decide ((t3.2.1 : Int) < ((r1.1.len : Int) : Int))) (
 ix r1.1 t3.2.1 1 fun b6 o7 =>
 ldI w5 .i64 b6 o7 fun n8 =>
 cl Pg 155 [.pointer a0, .int .i64 n8, .int .i64 a1] [kI, kI] w5 fun (r9 : Int × Int × Unit) w10 =>
 jn [kB] w10 (fun (t12 : Bool × Unit) w13 =>
 cs t12.1 (
 al w13 3 [.int .i64 r9.1] fun b15 w16 =>
 ef Pg (Builtin.append_ #[72, 72] 72 #[vS t3.1, vS ⟨some ⟨b15, 0, none⟩, 1, 1⟩]) [kS] w16 fun (r17 : Sl × Unit) w18 =>
 J4 (r17.1, w64 (t3.2.1 + 1), ()) w18) (
 J4 (t3.1, w64 (t3.2.1 + 1), ()) w13)) fun J11 w14 =>
 cs ((r9.2.1 : Int) == (0 : Int)) (
 J11 (decide ((r9.1 : Int) > (0 : Int)), ()) w14) (
 J11 (false, ()) w14)) (
 cl Pg 69 [vS t3.1] [kS] w5 fun (r19 : Sl × Unit) w20 =>
 R [vS r19.1] w20)
theorem tie201 (a0 : Option Addr) (a1 : Int) (R : List Value → World → Prop) (w : World) : compF Pg Tryz.f201 ⟨[(1, ⟨[(5, kS), (14, kI)], [7, 8, 9, 15, 16, 17, 18, 19, 20, 21, 22, 23, 24, 25, 26, 27, 28, 29, 30, 31, 32, 33, 34, 35]⟩)], [], [], [(6, [(3, 3, ⟨[(30, kB)], [28, 29]⟩)])]⟩ [.pointer a0, .int .i64 a1] R w = sh201 a0 a1 R w := by kernel_rfl
theorem call201 {a0 : Option Addr} {a1 : Int} {w : World} {K : TK [kS] → World → Prop} (h : sh201 a0 a1 (fun vs w' => ∃ t, encK [kS] t = vs ∧ K t w') w) : cl Pg 201 [.pointer a0, .int .i64 a1] [kS] w K := cl_of Tryz.func201 (tie201 ..) h
def sh241 (a0 : Option Addr) (R : List Value → World → Prop) (w : World) : Prop :=
 nn a0 fun b1 o2 =>
 st1 w b1 (o2 + 3) (.int .i64 16) fun w3 =>
 nn a0 fun b4 o5 =>
 st1 w3 b4 (o5 + 4) (.bool false) fun w6 =>
 nn a0 fun b7 o8 =>
 st1 w6 b7 (o8 + 1) (.int .i64 0) fun w9 =>
 nn a0 fun b10 o11 =>
 st1 w9 b10 (o11 + 2) (.int .i64 0) fun w12 =>
 nn a0 fun b13 o14 =>
 ldI w12 .i64 b13 o14 fun n15 =>
 cs ((n15 : Int) == (0 : Int)) (
 R [.bool false] w12) (
 nn a0 fun b16 o17 =>
 ldI w12 .i64 b16 o17 fun n18 =>
 nn a0 fun b19 o20 =>
 st1 w12 b19 o20 (.int .i64 (w64 (n18 - 1))) fun w21 =>
 nn a0 fun b22 o23 =>
 st1 w21 b22 (o23 + 3) (.int .i64 2) fun w24 =>
 R [.bool true] w24)
theorem tie241 (a0 : Option Addr) (R : List Value → World → Prop) (w : World) : compF Pg Tryz.f241 ⟨[], [], [], []⟩ [.pointer a0] R w = sh241 a0 R w := by kernel_rfl
theorem call241 {a0 : Option Addr} {w : World} {K : TK [kB] → World → Prop} (h : sh241 a0 (fun vs w' => ∃ t, encK [kB] t = vs ∧ K t w') w) : cl Pg 241 [.pointer a0] [kB] w K := cl_of Tryz.func241 (tie241 ..) h
def sh202 (a0 : Option Addr) (R : List Value → World → Prop) (w : World) : Prop :=
 al w 3 [.int .i64 16] fun b1 w2 =>
 cl Pg 207 [.pointer a0, vS ⟨some ⟨b1, 0, none⟩, 1, 1⟩] [kB] w2 fun (r3 : Bool × Unit) w4 =>
 cs r3.1 (
 R [.bool false, .int .i64 (-41)] w4) (
 cl Pg 241 [.pointer a0] [kB] w4 fun (r5 : Bool × Unit) w6 =>
 R [.bool r5.1, .int .i64 0] w6)
theorem tie202 (a0 : Option Addr) (R : List Value → World → Prop) (w : World) : compF Pg Tryz.f202 ⟨[], [], [], []⟩ [.pointer a0] R w = sh202 a0 R w := by kernel_rfl
theorem call202 {a0 : Option Addr} {w : World} {K : TK [kB, kI] → World → Prop} (h : sh202 a0 (fun vs w' => ∃ t, encK [kB, kI] t = vs ∧ K t w') w) : cl Pg 202 [.pointer a0] [kB, kI] w K := cl_of Tryz.func202 (tie202 ..) h
def sh133 (a0 : Option Addr) (a1 : Int) (R : List Value → World → Prop) (w : World) : Prop :=
 nn a0 fun b1 o2 =>
 ldS w b1 (o2 + 9) fun s3 =>
 ix s3 a1 1 fun b4 o5 =>
 ldP w b4 o5 fun p6 =>
 cl Pg 54 [.pointer a0, .int .i64 a1] [] w fun (r7 : Unit) w8 =>
 cl Pg 196 [.pointer a0, .int .i64 a1] [] w8 fun (r9 : Unit) w10 =>
 nn a0 fun b11 o12 =>
 ldP w10 b11 (o12 + 8) fun p13 =>
 cl Pg 197 [.pointer p13, .int .i64 a1] [kB] w10 fun (r14 : Bool × Unit) w15 =>
 nn a0 fun b16 o17 =>
 ldP w15 b16 (o17 + 5) fun p18 =>
 cl Pg 201 [.pointer p18, .int .i64 a1] [kS] w15 fun (r19 : Sl × Unit) w20 =>
 dr w20 fun w21 =>
 nn a0 fun b22 o23 =>
 ldP w21 b22 (o23 + 5) fun p24 =>
 nn p6 fun b25 o26 =>
 ldI w21 .i64 b25 (o26 + 1) fun n27 =>
 cl Pg 31 [.pointer p24, .int .i64 a1, .int .i64 n27] [kI] w21 fun (r28 : Int × Unit) w29 =>
 nn p6 fun b30 o31 =>
 ldP w29 b30 o31 fun p32 =>
 cl Pg 202 [.pointer p32] [kB, kI] w29 fun (r33 : Bool × Int × Unit) w34 =>
 cl Pg 143 [.pointer a0, .int .i64 0, vS r19.1] [] w34 fun (r35 : Unit) w36 =>
 cs r33.1 (
 nn p6 fun b37 o38 =>
 st1 w36 b37 (o38 + 6) (.int .i64 0) fun w39 =>
 st1 w39 b37 (o38 + 6 + 1) (.int .i64 0) fun w40 =>
 cl Pg 188 [.pointer a0, .int .i64 a1] [] w40 fun (r41 : Unit) w42 =>
 cl Pg 56 [.pointer a0] [] w42 fun (r43 : Unit) w44 =>
 R [] w44) (
 cl Pg 56 [.pointer a0] [] w36 fun (r45 : Unit) w46 =>
 R [] w46)
theorem tie133 (a0 : Option Addr) (a1 : Int) (R : List Value → World → Prop) (w : World) : compF Pg Tryz.f133 ⟨[], [], [(5, .l [(0, []), (1, []), (2, []), (3, []), (4, []), (5, []), (6, []), (7, []), (8, []), (9, []), (10, [4, 5, 9, 3, 8, 2, 7, 1, 6, 0])])], []⟩ [.pointer a0, .int .i64 a1] R w = sh133 a0 a1 R w := by kernel_rfl
theorem call133 {a0 : Option Addr} {a1 : Int} {w : World} {K : TK [] → World → Prop} (h : sh133 a0 a1 (fun vs w' => ∃ t, encK [] t = vs ∧ K t w') w) : cl Pg 133 [.pointer a0, .int .i64 a1] [] w K := cl_of Tryz.func133 (tie133 ..) h
def sh205 (a0 : Option Addr) (R : List Value → World → Prop) (w : World) : Prop :=
 al w 3 [.int .i64 2] fun b1 w2 =>
 cl Pg 207 [.pointer a0, vS ⟨some ⟨b1, 0, none⟩, 1, 1⟩] [kB] w2 fun (r3 : Bool × Unit) w4 =>
 cs (!r3.1) (
 R [.int .i64 (-41)] w4) (
 nn a0 fun b5 o6 =>
 st1 w4 b5 (o6 + 3) (.int .i64 4) fun w7 =>
 nn a0 fun b8 o9 =>
 st1 w7 b8 (o9 + 4) (.bool false) fun w10 =>
 R [.int .i64 0] w10)
theorem tie205 (a0 : Option Addr) (R : List Value → World → Prop) (w : World) : compF Pg Tryz.f205 ⟨[], [], [], []⟩ [.pointer a0] R w = sh205 a0 R w := by kernel_rfl
theorem call205 {a0 : Option Addr} {w : World} {K : TK [kI] → World → Prop} (h : sh205 a0 (fun vs w' => ∃ t, encK [kI] t = vs ∧ K t w') w) : cl Pg 205 [.pointer a0] [kI] w K := cl_of Tryz.func205 (tie205 ..) h
def sh253 (a0 : Option Addr) (a1 : Int) (a2 : Int) (R : List Value → World → Prop) (w : World) : Prop :=
 nn a0 fun b1 o2 =>
 ldS w b1 o2 fun s3 =>
 cs (decide (((s3.len : Int) : Int) ≥ (256 : Int))) (
 R [.int .i64 0, .int .i64 (-33)] w) (
 nn a0 fun b4 o5 =>
 ldI w .i64 b4 (o5 + 1) fun n6 =>
 nn a0 fun b7 o8 =>
 st1 w b7 (o8 + 1) (.int .i64 (w64 (n6 + 1))) fun w9 =>
 dr w9 fun w10 =>
 nn a0 fun b11 o12 =>
 ldS w10 b11 o12 fun s13 =>
 nn a0 fun b14 o15 =>
 ldI w10 .i64 b14 (o15 + 1) fun n16 =>
 al w10 331 [.int .u64 a1, .int .i64 n16, .int .i64 a2] fun b17 w18 =>
(w18.cell? ⟨b11, o12, none⟩ = some (vS s13)) ∧ (
 ef Pg (Builtin.append_ #[327, 327] 327 #[vS s13, vS ⟨some ⟨b17, 0, none⟩, 1, 1⟩]) [kS] w18 fun (r19 : Sl × Unit) w20 =>
 nn a0 fun b21 o22 =>
 st1 w20 b21 o22 (vS r19.1) fun w23 =>
 dr w23 fun w24 =>
 nn a0 fun b25 o26 =>
 ldS w24 b25 o26 fun s27 =>
 nn a0 fun b28 o29 =>
 ldS w24 b28 o29 fun s30 =>
 cl Pg 248 [vS s27, .int .i64 (w64 ((s30.len : Int) - 1))] [] w24 fun (r31 : Unit) w32 =>
 nn a0 fun b33 o34 =>
 ldI w32 .i64 b33 (o34 + 1) fun n35 =>
 R [.int .i64 n35, .int .i64 0] w32))
theorem tie253 (a0 : Option Addr) (a1 : Int) (a2 : Int) (R : List Value → World → Prop) (w : World) : compF Pg Tryz.f253 ⟨[], [], [(4, .l [(0, []), (1, []), (2, []), (3, []), (4, []), (5, []), (6, []), (7, []), (8, []), (9, []), (10, []), (11, []), (12, [11, 5, 9, 10, 8, 7, 6]), (13, [4, 12, 3, 11, 2, 5, 9, 10, 1, 8, 7, 6]), (14, []), (15, []), (16, [15, 13, 0, 1, 2, 3, 4, 5, 6, 7, 8, 9, 10, 11, 12, 14])]), (5, .l [(0, []), (1, []), (2, []), (3, []), (4, []), (5, []), (6, []), (7, []), (8, []), (9, []), (10, [3, 9, 2, 8, 1, 7, 0, 6, 5, 4])])], []⟩ [.pointer a0, .int .u64 a1, .int .i64 a2] R w = sh253 a0 a1 a2 R w := by kernel_rfl
theorem call253 {a0 : Option Addr} {a1 : Int} {a2 : Int} {w : World} {K : TK [kI, kI] → World → Prop} (h : sh253 a0 a1 a2 (fun vs w' => ∃ t, encK [kI, kI] t = vs ∧ K t w') w) : cl Pg 253 [.pointer a0, .int .u64 a1, .int .i64 a2] [kI, kI] w K := cl_of Tryz.func253 (tie253 ..) h
def sh242 (a0 : Option Addr) (a1 : Int) (a2 : Int) (R : List Value → World → Prop) (w : World) : Prop :=
 cl Pg 137 [.int .i64 a1] [.l (.i .u64), kI] w fun (r1 : Int × Int × Unit) w2 =>
 cs ((r1.2.1 : Int) != (0 : Int)) (
 R [.int .i64 0, .int .i64 r1.2.1] w2) (
 dr w2 fun w3 =>
 nn a0 fun b4 o5 =>
 ldP w3 b4 o5 fun p6 =>
 nn a0 fun b7 o8 =>
 ldI w3 .u64 b7 (o8 + 2) fun n9 =>
 nn a0 fun b10 o11 =>
 ldI w3 .u64 b10 (o11 + 1) fun n12 =>
 cl Pg 253 [.pointer p6, .int .u64 (IntKind.u64.wrap ((IntKind.u64.wrap (n9 + r1.1)) + n12)), .int .i64 a2] [kI, kI] w3 fun (r13 : Int × Int × Unit) w14 =>
 R [.int .i64 r13.1, .int .i64 r13.2.1] w14)
theorem tie242 (a0 : Option Addr) (a1 : Int) (a2 : Int) (R : List Value → World → Prop) (w : World) : compF Pg Tryz.f242 ⟨[], [], [(4, .l [(0, []), (1, []), (2, []), (3, []), (4, []), (5, []), (6, []), (7, []), (8, []), (9, []), (10, []), (11, []), (12, []), (13, []), (14, []), (15, []), (16, [3, 14, 15, 2, 9, 13, 1, 7, 8, 12, 0, 6, 11, 5, 10, 4]), (17, []), (18, []), (19, []), (20, [])])], []⟩ [.pointer a0, .int .i64 a1, .int .i64 a2] R w = sh242 a0 a1 a2 R w := by kernel_rfl
theorem call242 {a0 : Option Addr} {a1 : Int} {a2 : Int} {w : World} {K : TK [kI, kI] → World → Prop} (h : sh242 a0 a1 a2 (fun vs w' => ∃ t, encK [kI, kI] t = vs ∧ K t w') w) : cl Pg 242 [.pointer a0, .int .i64 a1, .int .i64 a2] [kI, kI] w K := cl_of Tryz.func242 (tie242 ..) h
def sh206 (a0 : Option Addr) (a1 : Int) (a2 : Int) (R : List Value → World → Prop) (w : World) : Prop :=
 jn [kB] w (fun (t2 : Bool × Unit) w3 =>
 cs t2.1 (
 R [.int .i64 0, .int .i64 (-17)] w3) (
 nn a0 fun b5 o6 =>
 ldP w3 b5 o6 fun p7 =>
 cl Pg 242 [.pointer p7, .int .i64 a1, .int .i64 a2] [kI, kI] w3 fun (r8 : Int × Int × Unit) w9 =>
 R [.int .i64 r8.1, .int .i64 r8.2.1] w9)) fun J1 w4 =>
 cs (decide ((a2 : Int) < (0 : Int))) (
 J1 (true, ()) w4) (
 J1 (decide ((a2 : Int) > (1000 : Int)), ()) w4)
theorem tie206 (a0 : Option Addr) (a1 : Int) (a2 : Int) (R : List Value → World → Prop) (w : World) : compF Pg Tryz.f206 ⟨[], [], [], [(1, [(3, 3, ⟨[(13, kB)], [11, 12]⟩)])]⟩ [.pointer a0, .int .i64 a1, .int .i64 a2] R w = sh206 a0 a1 a2 R w := by kernel_rfl
theorem call206 {a0 : Option Addr} {a1 : Int} {a2 : Int} {w : World} {K : TK [kI, kI] → World → Prop} (h : sh206 a0 a1 a2 (fun vs w' => ∃ t, encK [kI, kI] t = vs ∧ K t w') w) : cl Pg 206 [.pointer a0, .int .i64 a1, .int .i64 a2] [kI, kI] w K := cl_of Tryz.func206 (tie206 ..) h
def sh138 (a0 : Option Addr) (a1 : Int) (a2 : Int) (a3 : Int) (R : List Value → World → Prop) (w : World) : Prop :=
 al w 57 [.int .i64 0, .int .i64 0] fun b1 w2 =>
 dr w2 fun w3 =>
 nn a0 fun b4 o5 =>
 ldS w3 b4 (o5 + 9) fun s6 =>
 nn a0 fun b7 o8 =>
 ldI w3 .i64 b7 (o8 + 12) fun n9 =>
 ix s6 n9 1 fun b10 o11 =>
 ldP w3 b10 o11 fun p12 =>
 jn [] w3 (fun (t14 : Unit) w15 =>
 dr w15 fun w17 =>
 nn a0 fun b18 o19 =>
 ldP w17 b18 (o19 + 8) fun p20 =>
 nn a0 fun b21 o22 =>
 ldI w17 .i64 b21 (o22 + 12) fun n23 =>
 cl Pg 197 [.pointer p20, .int .i64 n23] [kB] w17 fun (r24 : Bool × Unit) w25 =>
 nn p12 fun b26 o27 =>
 st1 w25 b26 (o27 + 3) (.int .i64 a1) fun w28 =>
 nn p12 fun b29 o30 =>
 st1 w28 b29 (o30 + 4) (.int .i64 a2) fun w31 =>
 jn [] w31 (fun (t33 : Unit) w34 =>
 cl Pg 56 [.pointer a0] [] w34 fun (r36 : Unit) w37 =>
 st1 w37 b1 0 (.int .i64 1) fun w38 =>
 st1 w38 b1 (0 + 1) (.int .i64 0) fun w39 =>
 ldI w39 .i64 b1 0 fun n40 =>
 ldI w39 .i64 b1 (0 + 1) fun n41 =>
 R [.agg #[.int .i64 n40, .int .i64 n41]] w39) fun J32 w35 =>
 cs (decide ((a3 : Int) ≥ (0 : Int))) (
 dr w35 fun w42 =>
 nn a0 fun b43 o44 =>
 ldP w42 b43 (o44 + 7) fun p45 =>
 nn a0 fun b46 o47 =>
 ldI w42 .i64 b46 (o47 + 12) fun n48 =>
 cl Pg 206 [.pointer p45, .int .i64 a3, .int .i64 n48] [kI, kI] w42 fun (r49 : Int × Int × Unit) w50 =>
 nn p12 fun b51 o52 =>
 st1 w50 b51 (o52 + 5) (.int .i64 r49.1) fun w53 =>
 J32 () w53) (
 J32 () w35)) fun J13 w16 =>
 cs ((a1 : Int) != (1 : Int)) (
 nn p12 fun b54 o55 =>
 ldP w16 b54 o55 fun p56 =>
 cl Pg 205 [.pointer p56] [kI] w16 fun (r57 : Int × Unit) w58 =>
 J13 () w58) (
 J13 () w16)
theorem tie138 (a0 : Option Addr) (a1 : Int) (a2 : Int) (a3 : Int) (R : List Value → World → Prop) (w : World) : compF Pg Tryz.f138 ⟨[(0, ⟨[], [22, 23, 24, 25, 26]⟩), (1, ⟨[], [46, 47, 48, 49, 50, 51, 52, 53, 54, 55, 56, 57, 58, 59, 60, 61]⟩)], [], [(1, .l [(0, []), (1, []), (2, []), (3, []), (4, []), (5, []), (6, []), (7, []), (8, []), (9, []), (10, [])]), (4, .l [(0, []), (1, []), (2, []), (3, []), (4, []), (5, []), (6, []), (7, []), (8, [3, 7, 2, 6, 1, 5, 0, 4])]), (7, .l [(0, []), (1, []), (2, []), (3, []), (4, []), (5, []), (6, []), (7, []), (8, []), (9, []), (10, [4, 5, 9, 3, 8, 2, 7, 1, 6]), (11, []), (12, []), (13, []), (14, []), (15, []), (16, [15, 12, 10, 0, 1, 2, 3, 4, 5, 6, 7, 8, 9, 11, 14])])], []⟩ [.pointer a0, .int .i64 a1, .int .i64 a2, .int .i64 a3] R w = sh138 a0 a1 a2 a3 R w := by kernel_rfl
theorem call138 {a0 : Option Addr} {a1 : Int} {a2 : Int} {a3 : Int} {w : World} {K : TK [.a [(.i .i64), (.i .i64)]] → World → Prop} (h : sh138 a0 a1 a2 a3 (fun vs w' => ∃ t, encK [.a [(.i .i64), (.i .i64)]] t = vs ∧ K t w') w) : cl Pg 138 [.pointer a0, .int .i64 a1, .int .i64 a2, .int .i64 a3] [.a [(.i .i64), (.i .i64)]] w K := cl_of Tryz.func138 (tie138 ..) h
def sh204 (a0 : Option Addr) (R : List Value → World → Prop) (w : World) : Prop :=
 al w 3 [.int .i64 2] fun b1 w2 =>
 cl Pg 207 [.pointer a0, vS ⟨some ⟨b1, 0, none⟩, 1, 1⟩] [kB] w2 fun (r3 : Bool × Unit) w4 =>
 cs (!r3.1) (
 R [.bool false, .int .i64 (-41)] w4) (
 nn a0 fun b5 o6 =>
 ldI w4 .i64 b5 (o6 + 1) fun n7 =>
 cs (decide ((n7 : Int) > (0 : Int))) (
 nn a0 fun b8 o9 =>
 ldI w4 .i64 b8 (o9 + 1) fun n10 =>
 nn a0 fun b11 o12 =>
 st1 w4 b11 (o12 + 1) (.int .i64 (w64 (n10 - 1))) fun w13 =>
 R [.bool false, .int .i64 0] w13) (
 nn a0 fun b14 o15 =>
 st1 w4 b14 (o15 + 3) (.int .i64 4) fun w16 =>
 nn a0 fun b17 o18 =>
 st1 w16 b17 (o18 + 4) (.bool true) fun w19 =>
 R [.bool true, .int .i64 0] w19))
theorem tie204 (a0 : Option Addr) (R : List Value → World → Prop) (w : World) : compF Pg Tryz.f204 ⟨[], [], [], []⟩ [.pointer a0] R w = sh204 a0 R w := by kernel_rfl
theorem call204 {a0 : Option Addr} {w : World} {K : TK [kB, kI] → World → Prop} (h : sh204 a0 (fun vs w' => ∃ t, encK [kB, kI] t = vs ∧ K t w') w) : cl Pg 204 [.pointer a0] [kB, kI] w K := cl_of Tryz.func204 (tie204 ..) h
def sh135 (a0 : Option Addr) (a1 : Int) (R : List Value → World → Prop) (w : World) : Prop :=
 al w 57 [.int .i64 0, .int .i64 0] fun b1 w2 =>
 dr w2 fun w3 =>
 nn a0 fun b4 o5 =>
 ldS w3 b4 (o5 + 9) fun s6 =>
 nn a0 fun b7 o8 =>
 ldI w3 .i64 b7 (o8 + 12) fun n9 =>
 ix s6 n9 1 fun b10 o11 =>
 ldP w3 b10 o11 fun p12 =>
 nn p12 fun b13 o14 =>
 ldP w3 b13 o14 fun p15 =>
 nn p15 fun b16 o17 =>
 ldI w3 .i64 b16 (o17 + 1) fun n18 =>
 jn [kB] w3 (fun (t20 : Bool × Unit) w21 =>
 cs t20.1 (
 cl Pg 77 [.int .i64 (-50), .slice none 0 0] [.a [(.i .i64), (.i .i64)]] w21 fun (r23 : (Int × Int × Unit) × Unit) w24 =>
 st1 w24 b1 0 (.int .i64 r23.1.1) fun w25 =>
 st1 w25 b1 (0 + 1) (.int .i64 r23.1.2.1) fun w26 =>
 ldI w26 .i64 b1 0 fun n27 =>
 ldI w26 .i64 b1 (0 + 1) fun n28 =>
 R [.agg #[.int .i64 n27, .int .i64 n28]] w26) (
 nn p12 fun b29 o30 =>
 ldP w21 b29 o30 fun p31 =>
 cl Pg 204 [.pointer p31] [kB, kI] w21 fun (r32 : Bool × Int × Unit) w33 =>
 cs (!r32.1) (
 cl Pg 77 [.int .i64 r32.2.1, .slice none 0 0] [.a [(.i .i64), (.i .i64)]] w33 fun (r34 : (Int × Int × Unit) × Unit) w35 =>
 st1 w35 b1 0 (.int .i64 r34.1.1) fun w36 =>
 st1 w36 b1 (0 + 1) (.int .i64 r34.1.2.1) fun w37 =>
 ldI w37 .i64 b1 0 fun n38 =>
 ldI w37 .i64 b1 (0 + 1) fun n39 =>
 R [.agg #[.int .i64 n38, .int .i64 n39]] w37) (
 cl Pg 138 [.pointer a0, .int .i64 1, .int .i64 0, .int .i64 a1] [.a [(.i .i64), (.i .i64)]] w33 fun (r40 : (Int × Int × Unit) × Unit) w41 =>
 st1 w41 b1 0 (.int .i64 r40.1.1) fun w42 =>
 st1 w42 b1 (0 + 1) (.int .i64 r40.1.2.1) fun w43 =>
 ldI w43 .i64 b1 0 fun n44 =>
 ldI w43 .i64 b1 (0 + 1) fun n45 =>
 R [.agg #[.int .i64 n44, .int .i64 n45]] w43))) fun J19 w22 =>
 cs ((n18 : Int) == (0 : Int)) (
 J19 ((a1 : Int) == (0 : Int), ()) w22) (
 J19 (false, ()) w22)
theorem tie135 (a0 : Option Addr) (a1 : Int) (R : List Value → World → Prop) (w : World) : compF Pg Tryz.f135 ⟨[], [], [(1, .l [(0, []), (1, []), (2, []), (3, []), (4, []), (5, []), (6, []), (7, []), (8, []), (9, []), (10, [])])], [(2, [(10, 3, ⟨[(30, kB)], [28, 29]⟩)])]⟩ [.pointer a0, .int .i64 a1] R w = sh135 a0 a1 R w := by kernel_rfl
theorem call135 {a0 : Option Addr} {a1 : Int} {w : World} {K : TK [.a [(.i .i64), (.i .i64)]] → World → Prop} (h : sh135 a0 a1 (fun vs w' => ∃ t, encK [.a [(.i .i64), (.i .i64)]] t = vs ∧ K t w') w) : cl Pg 135 [.pointer a0, .int .i64 a1] [.a [(.i .i64), (.i .i64)]] w K := cl_of Tryz.func135 (tie135 ..) h
def sh136 (a0 : Int) (R : List Value → World → Prop) (w : World) : Prop :=
 jn [kB] w (fun (t2 : Bool × Unit) w3 =>
 R [.bool t2.1] w3) fun J1 w4 =>
 cs (decide ((a0 : Int) ≥ ((-1) : Int))) (
 J1 (decide ((a0 : Int) ≤ (2147483647 : Int)), ()) w4) (
 J1 (false, ()) w4)
theorem tie136 (a0 : Int) (R : List Value → World → Prop) (w : World) : compF Pg Tryz.f136 ⟨[], [], [], [(1, [(3, 3, ⟨[(8, kB)], [6, 7]⟩)])]⟩ [.int .i64 a0] R w = sh136 a0 R w := by kernel_rfl
theorem call136 {a0 : Int} {w : World} {K : TK [kB] → World → Prop} (h : sh136 a0 (fun vs w' => ∃ t, encK [kB] t = vs ∧ K t w') w) : cl Pg 136 [.int .i64 a0] [kB] w K := cl_of Tryz.func136 (tie136 ..) h
def sh139 (a0 : Option Addr) (a1 : Int) (a2 : Int) (R : List Value → World → Prop) (w : World) : Prop :=
 jn [kB] w (fun (t2 : Bool × Unit) w3 =>
 cs t2.1 (
 R [.int .i64 (-17)] w3) (
 nn a0 fun b5 o6 =>
 ldS w3 b5 (o6 + 9) fun s7 =>
 ix s7 a1 1 fun b8 o9 =>
 ldP w3 b8 o9 fun p10 =>
 nn p10 fun b11 o12 =>
 ldP w3 b11 o12 fun p13 =>
 al w3 3 [.int .i64 16] fun b14 w15 =>
 cl Pg 207 [.pointer p13, vS ⟨some ⟨b14, 0, none⟩, 1, 1⟩] [kB] w15 fun (r16 : Bool × Unit) w17 =>
 cs r16.1 (
 R [.int .i64 (-41)] w17) (
 jn [kI] w17 (fun (t19 : Int × Unit) w20 =>
 nn a0 fun b22 o23 =>
 ldP w20 b22 (o23 + 5) fun p24 =>
 cl Pg 31 [.pointer p24, .int .i64 a1, .int .i64 t19.1] [kI] w20 fun (r25 : Int × Unit) w26 =>
 cs ((r25.1 : Int) != (0 : Int)) (
 R [.int .i64 r25.1] w26) (
 cl Pg 56 [.pointer a0] [] w26 fun (r27 : Unit) w28 =>
 dr w28 fun w29 =>
 nn a0 fun b30 o31 =>
 ldP w29 b30 (o31 + 8) fun p32 =>
 nn a0 fun b33 o34 =>
 ldP w29 b33 (o34 + 5) fun p35 =>
 cl Pg 35 [.pointer p35, .int .i64 a1] [kI] w29 fun (r36 : Int × Unit) w37 =>
(w37.cell? ⟨b30, o31 + 8, none⟩ = some (.pointer p32)) ∧ (
 cl Pg 117 [.pointer p32, .int .i64 a1, .int .i64 r36.1] [kB] w37 fun (r38 : Bool × Unit) w39 =>
 R [.int .i64 0] w39))) fun J18 w21 =>
 cs ((a2 : Int) == (0 : Int)) (
 nn a0 fun b40 o41 =>
 ldS w21 b40 (o41 + 9) fun s42 =>
 ix s42 a1 1 fun b43 o44 =>
 ldP w21 b43 o44 fun p45 =>
 nn p45 fun b46 o47 =>
 ldI w21 .i64 b46 (o47 + 1) fun n48 =>
 J18 (n48, ()) w21) (
 J18 (a2, ()) w21)))) fun J1 w4 =>
 cs (decide ((a2 : Int) < (0 : Int))) (
 J1 (true, ()) w4) (
 J1 (decide ((a2 : Int) > (16 : Int)), ()) w4)
theorem tie139 (a0 : Option Addr) (a1 : Int) (a2 : Int) (R : List Value → World → Prop) (w : World) : compF Pg Tryz.f139 ⟨[(3, ⟨[(2, kI)], [31, 32, 33, 34, 35, 36, 37, 38, 39, 40]⟩)], [], [(11, .l [(0, []), (1, []), (2, []), (3, []), (4, []), (5, []), (6, []), (7, []), (8, []), (9, []), (10, []), (11, [9, 10, 8, 7, 6, 5]), (12, [3, 4, 11, 2, 9, 10, 1, 8, 0, 7, 6, 5])])], [(1, [(3, 3, ⟨[(14, kB)], [12, 13]⟩)])]⟩ [.pointer a0, .int .i64 a1, .int .i64 a2] R w = sh139 a0 a1 a2 R w := by kernel_rfl
theorem call139 {a0 : Option Addr} {a1 : Int} {a2 : Int} {w : World} {K : TK [kI] → World → Prop} (h : sh139 a0 a1 a2 (fun vs w' => ∃ t, encK [kI] t = vs ∧ K t w') w) : cl Pg 139 [.pointer a0, .int .i64 a1, .int .i64 a2] [kI] w K := cl_of Tryz.func139 (tie139 ..) h
def sh166 (a0 : Option Addr) (R : List Value → World → Prop) (w : World) : Prop :=
 nn a0 fun b1 o2 =>
 ldB w b1 (o2 + 2) fun b3 =>
 R [.bool b3] w
theorem tie166 (a0 : Option Addr) (R : List Value → World → Prop) (w : World) : compF Pg Tryz.f166 ⟨[], [], [], []⟩ [.pointer a0] R w = sh166 a0 R w := by kernel_rfl
theorem call166 {a0 : Option Addr} {w : World} {K : TK [kB] → World → Prop} (h : sh166 a0 (fun vs w' => ∃ t, encK [kB] t = vs ∧ K t w') w) : cl Pg 166 [.pointer a0] [kB] w K := cl_of Tryz.func166 (tie166 ..) h
def sh209 (a0 : Option Addr) (R : List Value → World → Prop) (w : World) : Prop :=
 al w 3 [.int .i64 16] fun b1 w2 =>
 cl Pg 207 [.pointer a0, vS ⟨some ⟨b1, 0, none⟩, 1, 1⟩] [kB] w2 fun (r3 : Bool × Unit) w4 =>
 cs r3.1 (
 R [.bool false, .int .i64 (-41)] w4) (
 nn a0 fun b5 o6 =>
 ldB w4 b5 (o6 + 4) fun b7 =>
 cs b7 (
 cl Pg 115 [.pointer a0] [kB] w4 fun (r8 : Bool × Unit) w9 =>
 R [.bool true, .int .i64 0] w9) (
 nn a0 fun b10 o11 =>
 ldI w4 .i64 b10 (o11 + 1) fun n12 =>
 cs (decide ((n12 : Int) ≥ (7 : Int))) (
 R [.bool false, .int .i64 (-43)] w4) (
 nn a0 fun b13 o14 =>
 ldI w4 .i64 b13 (o14 + 1) fun n15 =>
 nn a0 fun b16 o17 =>
 st1 w4 b16 (o17 + 1) (.int .i64 (w64 (n15 + 1))) fun w18 =>
 R [.bool false, .int .i64 0] w18)))
theorem tie209 (a0 : Option Addr) (R : List Value → World → Prop) (w : World) : compF Pg Tryz.f209 ⟨[], [], [], []⟩ [.pointer a0] R w = sh209 a0 R w := by kernel_rfl
theorem call209 {a0 : Option Addr} {w : World} {K : TK [kB, kI] → World → Prop} (h : sh209 a0 (fun vs w' => ∃ t, encK [kB, kI] t = vs ∧ K t w') w) : cl Pg 209 [.pointer a0] [kB, kI] w K := cl_of Tryz.func209 (tie209 ..) h
def sh211 (a0 : Option Addr) (R : List Value → World → Prop) (w : World) : Prop :=
 al w 3 [.int .i64 16] fun b1 w2 =>
 cl Pg 207 [.pointer a0, vS ⟨some ⟨b1, 0, none⟩, 1, 1⟩] [kB] w2 fun (r3 : Bool × Unit) w4 =>
 cs r3.1 (
 R [.int .i64 (-41)] w4) (
 nn a0 fun b5 o6 =>
 ldI w4 .i64 b5 (o6 + 2) fun n7 =>
 cs (decide ((n7 : Int) ≥ (7 : Int))) (
 R [.int .i64 (-43)] w4) (
 nn a0 fun b8 o9 =>
 ldI w4 .i64 b8 (o9 + 2) fun n10 =>
 nn a0 fun b11 o12 =>
 st1 w4 b11 (o12 + 2) (.int .i64 (w64 (n10 + 1))) fun w13 =>
 nn a0 fun b14 o15 =>
 ldI w13 .i64 b14 (o15 + 3) fun n16 =>
 cs ((n16 : Int) == (2 : Int)) (
 nn a0 fun b17 o18 =>
 st1 w13 b17 (o18 + 3) (.int .i64 8) fun w19 =>
 R [.int .i64 0] w19) (
 cs ((n16 : Int) == (4 : Int)) (
 nn a0 fun b20 o21 =>
 st1 w13 b20 (o21 + 3) (.int .i64 12) fun w22 =>
 R [.int .i64 0] w22) (
 R [.int .i64 0] w13))))
theorem tie211 (a0 : Option Addr) (R : List Value → World → Prop) (w : World) : compF Pg Tryz.f211 ⟨[], [], [], []⟩ [.pointer a0] R w = sh211 a0 R w := by kernel_rfl
theorem call211 {a0 : Option Addr} {w : World} {K : TK [kI] → World → Prop} (h : sh211 a0 (fun vs w' => ∃ t, encK [kI] t = vs ∧ K t w') w) : cl Pg 211 [.pointer a0] [kI] w K := cl_of Tryz.func211 (tie211 ..) h
end Go.Proofs.YtenonfkfoedfmaaGreatDoor.B

