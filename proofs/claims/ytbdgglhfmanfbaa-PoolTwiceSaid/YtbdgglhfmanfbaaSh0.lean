/- Printed by sh.py: each Go function as a typed shallow program, and its tie to the code. -/
import Derived.Test.YtbdgglhfmanfbaaSound4
import Derived.Test.YtbdgglhfmanfbaaProg
namespace Go.Proofs.Ytbdgglhfmanfbaa.B
open Go Go.Proofs
set_option linter.unusedVariables false
set_option maxRecDepth 100000
noncomputable abbrev Pg : Program := Try.prog
/-- detent/nums.Align -/
def sh30 (a0 : Int) (a1 : Int) (R : List Value → World → Prop) (w : World) : Prop :=
 jn [kB] w (fun (t2 : Bool × Unit) w3 =>
 jn [kB] w3 (fun (t6 : Bool × Unit) w7 =>
 jn [kB] w7 (fun (t10 : Bool × Unit) w11 =>
 cs t10.1 (
 R [.int .i64 a0] w11) (
 ob (a1 ≠ 0) (
 R [.int .i64 (w64 ((w64 (Int.tdiv (w64 ((w64 (a0 + a1)) - 1)) a1)) * a1))] w11))) fun J9 w12 =>
 cs t6.1 (
 J9 (true, ()) w12) (
 J9 (decide ((a1 : Int) > (4096 : Int)), ()) w12)) fun J5 w8 =>
 cs t2.1 (
 J5 (true, ()) w8) (
 J5 (decide ((a1 : Int) < (1 : Int)), ()) w8)) fun J1 w4 =>
 cs (decide ((a0 : Int) < (0 : Int))) (
 J1 (true, ()) w4) (
 J1 (decide ((a0 : Int) > (1073741824 : Int)), ()) w4)
theorem tie30 (a0 : Int) (a1 : Int) (R : List Value → World → Prop) (w : World) : compF Pg Try.f30 ⟨[], [], [], [(1, [(3, 3, ⟨[(10, kB)], [8, 9]⟩), (7, 3, ⟨[(14, kB)], [12, 13]⟩), (11, 3, ⟨[(18, kB)], [16, 17]⟩)])]⟩ [.int .i64 a0, .int .i64 a1] R w = sh30 a0 a1 R w := by kernel_rfl
theorem call30 {a0 : Int} {a1 : Int} {w : World} {K : TK [kI] → World → Prop} (h : sh30 a0 a1 (fun vs w' => ∃ t, encK [kI] t = vs ∧ K t w') w) : cl Pg 30 [.int .i64 a0, .int .i64 a1] [kI] w K := cl_of Try.func30 (tie30 ..) h
/-- detent/order.New -/
def sh31 (a0 : Bool) (R : List Value → World → Prop) (w : World) : Prop :=
 al w 47 [.slice none 0 0, .bool a0] fun b1 w2 =>
 R [.pointer (some ⟨b1, 0, none⟩)] w2
theorem tie31 (a0 : Bool) (R : List Value → World → Prop) (w : World) : compF Pg Try.f31 ⟨[], [], [], []⟩ [.bool a0] R w = sh31 a0 R w := by kernel_rfl
theorem call31 {a0 : Bool} {w : World} {K : TK [kP] → World → Prop} (h : sh31 a0 (fun vs w' => ∃ t, encK [kP] t = vs ∧ K t w') w) : cl Pg 31 [.bool a0] [kP] w K := cl_of Try.func31 (tie31 ..) h
/-- detent/mpf.NewPool -/
def sh9 (a0 : Bool) (a1 : Int) (a2 : Int) (a3 : Int) (R : List Value → World → Prop) (w : World) : Prop :=
 jn [kB] w (fun (t2 : Bool × Unit) w3 =>
 jn [kB] w3 (fun (t6 : Bool × Unit) w7 =>
 jn [kB] w7 (fun (t10 : Bool × Unit) w11 =>
 jn [kB] w11 (fun (t14 : Bool × Unit) w15 =>
 jn [kB] w15 (fun (t18 : Bool × Unit) w19 =>
 jn [kB] w19 (fun (t22 : Bool × Unit) w23 =>
 jn [kB] w23 (fun (t26 : Bool × Unit) w27 =>
 cs t26.1 (
 R [.pointer none, .int .i64 (-17)] w27) (
 cl Pg 31 [.bool a0] [kP] w27 fun (r29 : Option Addr × Unit) w30 =>
 al w30 42 [.pointer r29.1, .int .i64 a1, .int .i64 a2, .int .i64 a3, .int .i64 0, .slice none 0 0, .slice none 0 0] fun b31 w32 =>
 R [.pointer (some ⟨b31, 0, none⟩), .int .i64 0] w32)) fun J25 w28 =>
 cs t22.1 (
 J25 (true, ()) w28) (
 cl Pg 30 [.int .i64 a3, .int .i64 4] [kI] w28 fun (r33 : Int × Unit) w34 =>
 J25 (decide ((w64 (a2 * r33.1) : Int) > (w64 (65536 - a1) : Int)), ()) w34)) fun J21 w24 =>
 cs t18.1 (
 J21 (true, ()) w24) (
 J21 ((Int.tmod a1 4 : Int) != (0 : Int), ()) w24)) fun J17 w20 =>
 cs t14.1 (
 J17 (true, ()) w20) (
 J17 (decide ((a1 : Int) > (65536 : Int)), ()) w20)) fun J13 w16 =>
 cs t10.1 (
 J13 (true, ()) w16) (
 J13 (decide ((a1 : Int) < (0 : Int)), ()) w16)) fun J9 w12 =>
 cs t6.1 (
 J9 (true, ()) w12) (
 J9 (decide ((a3 : Int) > (4096 : Int)), ()) w12)) fun J5 w8 =>
 cs t2.1 (
 J5 (true, ()) w8) (
 J5 (decide ((a3 : Int) < (1 : Int)), ()) w8)) fun J1 w4 =>
 cs (decide ((a2 : Int) < (1 : Int))) (
 J1 (true, ()) w4) (
 J1 (decide ((a2 : Int) > (256 : Int)), ()) w4)
theorem tie9 (a0 : Bool) (a1 : Int) (a2 : Int) (a3 : Int) (R : List Value → World → Prop) (w : World) : compF Pg Try.f9 ⟨[], [], [], [(1, [(3, 3, ⟨[(15, kB)], [13, 14]⟩), (7, 3, ⟨[(19, kB)], [17, 18]⟩), (11, 3, ⟨[(23, kB)], [21, 22]⟩), (15, 3, ⟨[(27, kB)], [25, 26]⟩), (19, 3, ⟨[(31, kB)], [29, 30]⟩), (23, 4, ⟨[(36, kB)], [33, 34, 35]⟩), (28, 8, ⟨[(45, kB)], [38, 39, 40, 41, 42, 43, 44]⟩)])]⟩ [.bool a0, .int .i64 a1, .int .i64 a2, .int .i64 a3] R w = sh9 a0 a1 a2 a3 R w := by kernel_rfl
theorem call9 {a0 : Bool} {a1 : Int} {a2 : Int} {a3 : Int} {w : World} {K : TK [kP, kI] → World → Prop} (h : sh9 a0 a1 a2 a3 (fun vs w' => ∃ t, encK [kP, kI] t = vs ∧ K t w') w) : cl Pg 9 [.bool a0, .int .i64 a1, .int .i64 a2, .int .i64 a3] [kP, kI] w K := cl_of Try.func9 (tie9 ..) h
/-- cmp.isNaN[int] -/
def sh69 (a0 : Int) (R : List Value → World → Prop) (w : World) : Prop :=
 R [.bool ((a0 : Int) != (a0 : Int))] w
theorem tie69 (a0 : Int) (R : List Value → World → Prop) (w : World) : compF Pg Try.f69 ⟨[], [], [], []⟩ [.int .i64 a0] R w = sh69 a0 R w := by kernel_rfl
theorem call69 {a0 : Int} {w : World} {K : TK [kB] → World → Prop} (h : sh69 a0 (fun vs w' => ∃ t, encK [kB] t = vs ∧ K t w') w) : cl Pg 69 [.int .i64 a0] [kB] w K := cl_of Try.func69 (tie69 ..) h
/-- cmp.Less[int] -/
def sh58 (a0 : Int) (a1 : Int) (R : List Value → World → Prop) (w : World) : Prop :=
 cl Pg 69 [.int .i64 a0] [kB] w fun (r1 : Bool × Unit) w2 =>
 jn [kB] w2 (fun (t4 : Bool × Unit) w5 =>
 jn [kB] w5 (fun (t8 : Bool × Unit) w9 =>
 R [.bool t8.1] w9) fun J7 w10 =>
 cs t4.1 (
 J7 (true, ()) w10) (
 J7 (decide ((a0 : Int) < (a1 : Int)), ()) w10)) fun J3 w6 =>
 cs r1.1 (
 cl Pg 69 [.int .i64 a1] [kB] w6 fun (r11 : Bool × Unit) w12 =>
 J3 (!r11.1, ()) w12) (
 J3 (false, ()) w6)
theorem tie58 (a0 : Int) (a1 : Int) (R : List Value → World → Prop) (w : World) : compF Pg Try.f58 ⟨[], [], [], [(1, [(3, 4, ⟨[(11, kB)], [8, 9, 10]⟩), (8, 4, ⟨[(16, kB)], [13, 14, 15]⟩)])]⟩ [.int .i64 a0, .int .i64 a1] R w = sh58 a0 a1 R w := by kernel_rfl
theorem call58 {a0 : Int} {a1 : Int} {w : World} {K : TK [kB] → World → Prop} (h : sh58 a0 a1 (fun vs w' => ∃ t, encK [kB] t = vs ∧ K t w') w) : cl Pg 58 [.int .i64 a0, .int .i64 a1] [kB] w K := cl_of Try.func58 (tie58 ..) h
/-- slices.isNaN[int] -/
def sh59 (a0 : Int) (R : List Value → World → Prop) (w : World) : Prop :=
 R [.bool ((a0 : Int) != (a0 : Int))] w
theorem tie59 (a0 : Int) (R : List Value → World → Prop) (w : World) : compF Pg Try.f59 ⟨[], [], [], []⟩ [.int .i64 a0] R w = sh59 a0 R w := by kernel_rfl
theorem call59 {a0 : Int} {w : World} {K : TK [kB] → World → Prop} (h : sh59 a0 (fun vs w' => ∃ t, encK [kB] t = vs ∧ K t w') w) : cl Pg 59 [.int .i64 a0] [kB] w K := cl_of Try.func59 (tie59 ..) h
/-- slices.BinarySearch[[]int,int] -/
def sh32 (a0 : Sl) (a1 : Int) (R : List Value → World → Prop) (w : World) : Prop :=
 lp [kI, kI] w ((0 : Int), (a0.len : Int), ()) fun (t1 : Int × Int × Unit) J2 w3 =>
 cs (decide ((t1.1 : Int) < (t1.2.1 : Int))) (
 ix a0 (w64 (Int.fdiv (IntKind.u64.wrap (w64 (t1.1 + t1.2.1))) (2 ^ 1))) 1 fun b4 o5 =>
 ldI w3 .i64 b4 o5 fun n6 =>
 cl Pg 58 [.int .i64 n6, .int .i64 a1] [kB] w3 fun (r7 : Bool × Unit) w8 =>
 cs r7.1 (
 J2 (w64 ((w64 (Int.fdiv (IntKind.u64.wrap (w64 (t1.1 + t1.2.1))) (2 ^ 1))) + 1), t1.2.1, ()) w8) (
 J2 (t1.1, w64 (Int.fdiv (IntKind.u64.wrap (w64 (t1.1 + t1.2.1))) (2 ^ 1)), ()) w8)) (
 jn [kB] w3 (fun (t10 : Bool × Unit) w11 =>
 R [.int .i64 t1.1, .bool t10.1] w11) fun J9 w12 =>
 cs (decide ((t1.1 : Int) < ((a0.len : Int) : Int))) (
 ix a0 t1.1 1 fun b13 o14 =>
 ldI w12 .i64 b13 o14 fun n15 =>
 jn [kB] w12 (fun (t17 : Bool × Unit) w18 =>
 J9 (t17.1, ()) w18) fun J16 w19 =>
 cs ((n15 : Int) == (a1 : Int)) (
 J16 (true, ()) w19) (
 ix a0 t1.1 1 fun b20 o21 =>
 ldI w19 .i64 b20 o21 fun n22 =>
 cl Pg 59 [.int .i64 n22] [kB] w19 fun (r23 : Bool × Unit) w24 =>
 jn [kB] w24 (fun (t26 : Bool × Unit) w27 =>
 J16 (t26.1, ()) w27) fun J25 w28 =>
 cs r23.1 (
 cl Pg 59 [.int .i64 a1] [kB] w28 fun (r29 : Bool × Unit) w30 =>
 J25 (r29.1, ()) w30) (
 J25 (false, ()) w28))) (
 J9 (false, ()) w12))
theorem tie32 (a0 : Sl) (a1 : Int) (R : List Value → World → Prop) (w : World) : compF Pg Try.f32 ⟨[(1, ⟨[(7, kI), (8, kI)], [9, 13, 14, 15, 16, 17, 18, 19, 20, 21, 22, 23, 24, 25, 26, 27, 28, 29, 30]⟩)], [], [], [(8, [(5, 18, ⟨[(53, kB)], [36, 37, 38, 39, 40, 41, 42, 43, 44, 45, 46, 47, 48, 49, 50, 51, 52]⟩), (12, 10, ⟨[(52, kB)], [43, 44, 45, 46, 47, 48, 49, 50, 51]⟩), (18, 3, ⟨[(51, kB)], [49, 50]⟩)])]⟩ [vS a0, .int .i64 a1] R w = sh32 a0 a1 R w := by kernel_rfl
theorem call32 {a0 : Sl} {a1 : Int} {w : World} {K : TK [kI, kB] → World → Prop} (h : sh32 a0 a1 (fun vs w' => ∃ t, encK [kI, kB] t = vs ∧ K t w') w) : cl Pg 32 [vS a0, .int .i64 a1] [kI, kB] w K := cl_of Try.func32 (tie32 ..) h
/-- slices.Reverse[[]int,int] -/
def sh73 (a0 : Sl) (R : List Value → World → Prop) (w : World) : Prop :=
 lp [kI, kI] w ((0 : Int), w64 ((a0.len : Int) - 1), ()) fun (t1 : Int × Int × Unit) J2 w3 =>
 cs (decide ((t1.1 : Int) < (t1.2.1 : Int))) (
 dr w3 fun w4 =>
 ix a0 t1.2.1 1 fun b5 o6 =>
 ldI w4 .i64 b5 o6 fun n7 =>
 ix a0 t1.1 1 fun b8 o9 =>
 ldI w4 .i64 b8 o9 fun n10 =>
 ix a0 t1.1 1 fun b11 o12 =>
 st1 w4 b11 o12 (.int .i64 n7) fun w13 =>
 ix a0 t1.2.1 1 fun b14 o15 =>
 st1 w13 b14 o15 (.int .i64 n10) fun w16 =>
 J2 (w64 (t1.1 + 1), w64 (t1.2.1 - 1), ()) w16) (
 R [] w3)
theorem tie73 (a0 : Sl) (R : List Value → World → Prop) (w : World) : compF Pg Try.f73 ⟨[(1, ⟨[(2, kI), (3, kI)], [7, 8, 9, 10, 11, 12, 13, 14, 15, 16, 17, 18, 19, 20, 21, 22, 23, 24, 25, 26, 27]⟩)], [], [(3, .l [(0, []), (1, []), (2, []), (3, []), (4, []), (5, []), (6, []), (7, []), (8, []), (9, []), (10, []), (11, []), (12, []), (13, [12, 7, 0, 1, 4, 5, 6, 11, 10, 8, 9]), (14, []), (15, [14, 11, 13, 0, 1, 2, 3, 4, 5, 6, 7, 8, 9, 10, 12])])], []⟩ [vS a0] R w = sh73 a0 R w := by kernel_rfl
theorem call73 {a0 : Sl} {w : World} {K : TK [] → World → Prop} (h : sh73 a0 (fun vs w' => ∃ t, encK [] t = vs ∧ K t w') w) : cl Pg 73 [vS a0] [] w K := cl_of Try.func73 (tie73 ..) h
/-- slices.rotateLeft[int] -/
def sh70 (a0 : Sl) (a1 : Int) (R : List Value → World → Prop) (w : World) : Prop :=
 sb a0 0 a1 a0.cap 1 fun s1 =>
 cl Pg 73 [vS s1] [] w fun (r2 : Unit) w3 =>
 sb a0 a1 a0.len a0.cap 1 fun s4 =>
 cl Pg 73 [vS s4] [] w3 fun (r5 : Unit) w6 =>
 cl Pg 73 [vS a0] [] w6 fun (r7 : Unit) w8 =>
 R [] w8
theorem tie70 (a0 : Sl) (a1 : Int) (R : List Value → World → Prop) (w : World) : compF Pg Try.f70 ⟨[], [], [], []⟩ [vS a0, .int .i64 a1] R w = sh70 a0 a1 R w := by kernel_rfl
theorem call70 {a0 : Sl} {a1 : Int} {w : World} {K : TK [] → World → Prop} (h : sh70 a0 a1 (fun vs w' => ∃ t, encK [] t = vs ∧ K t w') w) : cl Pg 70 [vS a0, .int .i64 a1] [] w K := cl_of Try.func70 (tie70 ..) h
/-- slices.rotateRight[int] -/
def sh61 (a0 : Sl) (a1 : Int) (R : List Value → World → Prop) (w : World) : Prop :=
 cl Pg 70 [vS a0, .int .i64 (w64 ((a0.len : Int) - a1))] [] w fun (r1 : Unit) w2 =>
 R [] w2
theorem tie61 (a0 : Sl) (a1 : Int) (R : List Value → World → Prop) (w : World) : compF Pg Try.f61 ⟨[], [], [], []⟩ [vS a0, .int .i64 a1] R w = sh61 a0 a1 R w := by kernel_rfl
theorem call61 {a0 : Sl} {a1 : Int} {w : World} {K : TK [] → World → Prop} (h : sh61 a0 a1 (fun vs w' => ∃ t, encK [] t = vs ∧ K t w') w) : cl Pg 61 [vS a0, .int .i64 a1] [] w K := cl_of Try.func61 (tie61 ..) h
/-- slices.Insert[[]int,int] -/
def sh33 (a0 : Sl) (a1 : Int) (a2 : Sl) (R : List Value → World → Prop) (w : World) : Prop :=
 sb a0 a1 a0.len a0.cap 1 fun s1 =>
 cs (((a2.len : Int) : Int) == (0 : Int)) (
 R [vS a0] w) (
 cs ((a1 : Int) == ((a0.len : Int) : Int)) (
 ef Pg (Builtin.append_ #[27, 27] 27 #[vS a0, vS a2]) [kS] w fun (r2 : Sl × Unit) w3 =>
 R [vS r2.1] w3) (
 cs (decide ((w64 ((a0.len : Int) + (a2.len : Int)) : Int) > ((a0.cap : Int) : Int))) (
 sb a0 0 a1 a0.cap 1 fun s4 =>
 ef Pg (Builtin.append_ #[27, 3] 27 #[vS s4, .int .i64 (w64 ((w64 ((a0.len : Int) + (a2.len : Int))) - a1))]) [kS] w fun (r5 : Sl × Unit) w6 =>
 sb r5.1 a1 r5.1.len r5.1.cap 1 fun s7 =>
 ef Pg (Builtin.copy_ #[27, 27] 3 #[vS s7, vS a2]) [kI] w6 fun (r8 : Int × Unit) w9 =>
 dr w9 fun w10 =>
 sb r5.1 (w64 (a1 + (a2.len : Int))) r5.1.len r5.1.cap 1 fun s11 =>
 sb a0 a1 a0.len a0.cap 1 fun s12 =>
 ef Pg (Builtin.copy_ #[27, 27] 3 #[vS s11, vS s12]) [kI] w10 fun (r13 : Int × Unit) w14 =>
 R [vS r5.1] w14) (
 sb a0 0 (w64 ((a0.len : Int) + (a2.len : Int))) a0.cap 1 fun s15 =>
 sb s15 (w64 (a1 + (a2.len : Int))) s15.len s15.cap 1 fun s16 =>
 xt Pg 60 [vS a2, vS s16] [kB] w fun (r17 : Bool × Unit) w18 =>
 cs (!r17.1) (
 dr w18 fun w19 =>
 sb s15 (w64 (a1 + (a2.len : Int))) s15.len s15.cap 1 fun s20 =>
 sb s15 a1 s15.len s15.cap 1 fun s21 =>
 ef Pg (Builtin.copy_ #[27, 27] 3 #[vS s20, vS s21]) [kI] w19 fun (r22 : Int × Unit) w23 =>
 sb s15 a1 s15.len s15.cap 1 fun s24 =>
 ef Pg (Builtin.copy_ #[27, 27] 3 #[vS s24, vS a2]) [kI] w23 fun (r25 : Int × Unit) w26 =>
 R [vS s15] w26) (
 sb s15 (a0.len : Int) s15.len s15.cap 1 fun s27 =>
 ef Pg (Builtin.copy_ #[27, 27] 3 #[vS s27, vS a2]) [kI] w18 fun (r28 : Int × Unit) w29 =>
 sb s15 a1 s15.len s15.cap 1 fun s30 =>
 cl Pg 61 [vS s30, .int .i64 (a2.len : Int)] [] w29 fun (r31 : Unit) w32 =>
 R [vS s15] w32))))
theorem tie33 (a0 : Sl) (a1 : Int) (a2 : Sl) (R : List Value → World → Prop) (w : World) : compF Pg Try.f33 ⟨[], [], [(11, .l [(0, []), (1, []), (2, []), (3, []), (4, []), (5, []), (6, []), (7, []), (8, [4, 7, 0, 3, 5, 6, 1, 2])]), (15, .l [(0, []), (1, []), (2, []), (3, []), (4, []), (5, []), (6, []), (7, []), (8, [4, 7, 0, 3, 5, 6, 1, 2])])], []⟩ [vS a0, .int .i64 a1, vS a2] R w = sh33 a0 a1 a2 R w := by kernel_rfl
theorem call33 {a0 : Sl} {a1 : Int} {a2 : Sl} {w : World} {K : TK [kS] → World → Prop} (h : sh33 a0 a1 a2 (fun vs w' => ∃ t, encK [kS] t = vs ∧ K t w') w) : cl Pg 33 [vS a0, .int .i64 a1, vS a2] [kS] w K := cl_of Try.func33 (tie33 ..) h
/-- (*detent/mpf.Pool).Poll -/
def sh10 (a0 : Option Addr) (R : List Value → World → Prop) (w : World) : Prop :=
 nn a0 fun b1 o2 =>
 ldS w b1 (o2 + 5) fun s3 =>
 jn [kI] w (fun (t5 : Int × Unit) w6 =>
 nn a0 fun b8 o9 =>
 ldS w6 b8 (o9 + 6) fun s10 =>
 cl Pg 32 [vS s10, .int .i64 t5.1] [kI, kB] w6 fun (r11 : Int × Bool × Unit) w12 =>
 nn a0 fun b13 o14 =>
 ldS w12 b13 (o14 + 6) fun s15 =>
 al w12 3 [.int .i64 t5.1] fun b16 w17 =>
 cl Pg 33 [vS s15, .int .i64 r11.1, vS ⟨some ⟨b16, 0, none⟩, 1, 1⟩] [kS] w17 fun (r18 : Sl × Unit) w19 =>
 nn a0 fun b20 o21 =>
 st1 w19 b20 (o21 + 6) (vS r18.1) fun w22 =>
 R [.int .i64 t5.1, .bool true] w22) fun J4 w7 =>
 cs (decide (((s3.len : Int) : Int) > (0 : Int))) (
 nn a0 fun b23 o24 =>
 ldS w7 b23 (o24 + 5) fun s25 =>
 ix s25 (w64 ((s3.len : Int) - 1)) 1 fun b26 o27 =>
 ldI w7 .i64 b26 o27 fun n28 =>
 nn a0 fun b29 o30 =>
 ldS w7 b29 (o30 + 5) fun s31 =>
 sb s31 0 (w64 ((s3.len : Int) - 1)) s31.cap 1 fun s32 =>
 nn a0 fun b33 o34 =>
 st1 w7 b33 (o34 + 5) (vS s32) fun w35 =>
 J4 (n28, ()) w35) (
 dr w7 fun w36 =>
 nn a0 fun b37 o38 =>
 ldI w36 .i64 b37 (o38 + 4) fun n39 =>
 nn a0 fun b40 o41 =>
 ldI w36 .i64 b40 (o41 + 2) fun n42 =>
 cs (decide ((n39 : Int) < (n42 : Int))) (
 dr w36 fun w43 =>
 nn a0 fun b44 o45 =>
 ldI w43 .i64 b44 (o45 + 1) fun n46 =>
 nn a0 fun b47 o48 =>
 ldI w43 .i64 b47 (o48 + 4) fun n49 =>
 nn a0 fun b50 o51 =>
 ldI w43 .i64 b50 (o51 + 3) fun n52 =>
 cl Pg 30 [.int .i64 n52, .int .i64 4] [kI] w43 fun (r53 : Int × Unit) w54 =>
(w54.cell? ⟨b47, o48 + 4, none⟩ = some (.int .i64 n49)) ∧ (
(w54.cell? ⟨b44, o45 + 1, none⟩ = some (.int .i64 n46)) ∧ (
 nn a0 fun b55 o56 =>
 ldI w54 .i64 b55 (o56 + 4) fun n57 =>
 nn a0 fun b58 o59 =>
 st1 w54 b58 (o59 + 4) (.int .i64 (w64 (n57 + 1))) fun w60 =>
 J4 (w64 (n46 + (w64 (n49 * r53.1))), ()) w60))) (
 R [.int .i64 0, .bool false] w36))
theorem tie10 (a0 : Option Addr) (R : List Value → World → Prop) (w : World) : compF Pg Try.f10 ⟨[(1, ⟨[(4, kI)], [2, 3, 16, 17, 18, 19, 20, 21, 22, 23, 24, 25, 26, 27, 28, 29, 30, 31, 32, 33, 34, 35, 36, 37, 38, 39, 40, 41, 42, 43, 44, 45, 46, 47, 48, 49, 50, 51, 52, 53, 54, 55, 56, 57, 58, 59, 60, 61, 62, 63, 64, 65]⟩)], [], [(7, .l [(0, []), (1, []), (2, []), (3, []), (4, []), (5, []), (6, []), (7, []), (8, []), (9, [])]), (8, .l [(0, []), (1, []), (2, []), (3, []), (4, []), (5, []), (6, []), (7, []), (8, []), (9, []), (10, []), (11, []), (12, [11, 10, 9, 8]), (13, []), (14, []), (15, [])])], []⟩ [.pointer a0] R w = sh10 a0 R w := by kernel_rfl
theorem call10 {a0 : Option Addr} {w : World} {K : TK [kI, kB] → World → Prop} (h : sh10 a0 (fun vs w' => ∃ t, encK [kI, kB] t = vs ∧ K t w') w) : cl Pg 10 [.pointer a0] [kI, kB] w K := cl_of Try.func10 (tie10 ..) h
/-- (*detent/mpf.Pool).Free -/
def sh11 (a0 : Option Addr) (R : List Value → World → Prop) (w : World) : Prop :=
 dr w fun w1 =>
 nn a0 fun b2 o3 =>
 ldI w1 .i64 b2 (o3 + 2) fun n4 =>
 nn a0 fun b5 o6 =>
 ldS w1 b5 (o6 + 6) fun s7 =>
 R [.int .i64 (w64 (n4 - (s7.len : Int)))] w1
theorem tie11 (a0 : Option Addr) (R : List Value → World → Prop) (w : World) : compF Pg Try.f11 ⟨[], [], [(1, .l [(0, []), (1, []), (2, []), (3, []), (4, []), (5, []), (6, []), (7, []), (8, []), (9, []), (10, [])])], []⟩ [.pointer a0] R w = sh11 a0 R w := by kernel_rfl
theorem call11 {a0 : Option Addr} {w : World} {K : TK [kI] → World → Prop} (h : sh11 a0 (fun vs w' => ∃ t, encK [kI] t = vs ∧ K t w') w) : cl Pg 11 [.pointer a0] [kI] w K := cl_of Try.func11 (tie11 ..) h
/-- slices.IndexFunc[[]detent/order.Item,detent/order.Item] -/
def sh63 (a0 : Sl) (a1 : Fv) (R : List Value → World → Prop) (w : World) : Prop :=
 lp [kI] w ((0 : Int), ()) fun (t1 : Int × Unit) J2 w3 =>
 cs (decide ((t1.1 : Int) < ((a0.len : Int) : Int))) (
 ix a0 t1.1 2 fun b4 o5 =>
 ldI w3 .i64 b4 o5 fun n6 =>
 ldI w3 .i64 b4 (o5 + 1) fun n7 =>
 ob (enterable Pg a1.fid = true) (
 cl Pg a1.fid (a1.pre ++ ([.agg #[.int .i64 n6, .int .i64 n7]] ++ a1.post)) [kB] w3 fun (r8 : Bool × Unit) w9 =>
 cs r8.1 (
 R [.int .i64 t1.1] w9) (
 J2 (w64 (t1.1 + 1), ()) w9))) (
 R [.int .i64 (-1)] w3)
theorem tie63 (a0 : Sl) (a1 : Fv) (R : List Value → World → Prop) (w : World) : compF Pg Try.f63 ⟨[(1, ⟨[(8, kI)], [4, 5, 9, 10, 11, 12, 13, 14, 15, 16, 17, 18]⟩)], [], [], []⟩ [vS a0, vF a1] R w = sh63 a0 a1 R w := by kernel_rfl
theorem call63 {a0 : Sl} {a1 : Fv} {w : World} {K : TK [kI] → World → Prop} (h : sh63 a0 a1 (fun vs w' => ∃ t, encK [kI] t = vs ∧ K t w') w) : cl Pg 63 [vS a0, vF a1] [kI] w K := cl_of Try.func63 (tie63 ..) h
/-- (*detent/order.Line).at$1 -/
def sh64 (a0 : (Int × Int × Unit)) (c0 : Nat) (R : List Value → World → Prop) (w : World) : Prop :=
 al w 73 [.int .i64 a0.1, .int .i64 a0.2.1] fun b1 w2 =>
 ldI w2 .i64 b1 0 fun n3 =>
 ldI w2 .i64 c0 0 fun n4 =>
 R [.bool ((n3 : Int) == (n4 : Int))] w2
theorem tie64 (a0 : (Int × Int × Unit)) (c0 : Nat) (R : List Value → World → Prop) (w : World) : compF Pg Try.f64 ⟨[], [], [], []⟩ [.agg #[.int .i64 a0.1, .int .i64 a0.2.1], .pointer (some ⟨c0, 0, none⟩)] R w = sh64 a0 c0 R w := by kernel_rfl
theorem call64 {a0 : (Int × Int × Unit)} {c0 : Nat} {w : World} {K : TK [kB] → World → Prop} (h : sh64 a0 c0 (fun vs w' => ∃ t, encK [kB] t = vs ∧ K t w') w) : cl Pg 64 [.agg #[.int .i64 a0.1, .int .i64 a0.2.1], .pointer (some ⟨c0, 0, none⟩)] [kB] w K := cl_of Try.func64 (tie64 ..) h
/-- (*detent/order.Line).at -/
def sh44 (a0 : Option Addr) (a1 : Int) (R : List Value → World → Prop) (w : World) : Prop :=
 al w 3 [.int .i64 a1] fun b1 w2 =>
 nn a0 fun b3 o4 =>
 ldS w2 b3 o4 fun s5 =>
 cl Pg 63 [vS s5, .func (.func 64) #[] #[.pointer (some ⟨b1, 0, none⟩)]] [kI] w2 fun (r6 : Int × Unit) w7 =>
 R [.int .i64 r6.1] w7
theorem tie44 (a0 : Option Addr) (a1 : Int) (R : List Value → World → Prop) (w : World) : compF Pg Try.f44 ⟨[], [], [], []⟩ [.pointer a0, .int .i64 a1] R w = sh44 a0 a1 R w := by kernel_rfl
theorem call44 {a0 : Option Addr} {a1 : Int} {w : World} {K : TK [kI] → World → Prop} (h : sh44 a0 a1 (fun vs w' => ∃ t, encK [kI] t = vs ∧ K t w') w) : cl Pg 44 [.pointer a0, .int .i64 a1] [kI] w K := cl_of Try.func44 (tie44 ..) h
/-- slices.Delete[[]detent/order.Item,detent/order.Item] -/
def sh45 (a0 : Sl) (a1 : Int) (a2 : Int) (R : List Value → World → Prop) (w : World) : Prop :=
 sb a0 a1 a2 (a0.len : Int) 2 fun s1 =>
 cs ((a1 : Int) == (a2 : Int)) (
 R [vS a0] w) (
 dr w fun w2 =>
 sb a0 0 a1 a0.cap 2 fun s3 =>
 sb a0 a2 a0.len a0.cap 2 fun s4 =>
 ef Pg (Builtin.append_ #[43, 43] 43 #[vS s3, vS s4]) [kS] w2 fun (r5 : Sl × Unit) w6 =>
 sb r5.1 (r5.1.len : Int) (a0.len : Int) r5.1.cap 2 fun s7 =>
 ef Pg (Builtin.clear_ #[43] 0 #[vS s7]) [] w6 fun (r8 : Unit) w9 =>
 R [vS r5.1] w9)
theorem tie45 (a0 : Sl) (a1 : Int) (a2 : Int) (R : List Value → World → Prop) (w : World) : compF Pg Try.f45 ⟨[], [], [(5, .l [(0, []), (1, []), (2, []), (3, []), (4, []), (5, []), (6, [2, 5, 0, 1, 3, 4]), (7, [])])], []⟩ [vS a0, .int .i64 a1, .int .i64 a2] R w = sh45 a0 a1 a2 R w := by kernel_rfl
theorem call45 {a0 : Sl} {a1 : Int} {a2 : Int} {w : World} {K : TK [kS] → World → Prop} (h : sh45 a0 a1 a2 (fun vs w' => ∃ t, encK [kS] t = vs ∧ K t w') w) : cl Pg 45 [vS a0, .int .i64 a1, .int .i64 a2] [kS] w K := cl_of Try.func45 (tie45 ..) h
/-- (*detent/order.Line).Remove -/
def sh20 (a0 : Option Addr) (a1 : Int) (R : List Value → World → Prop) (w : World) : Prop :=
 cl Pg 44 [.pointer a0, .int .i64 a1] [kI] w fun (r1 : Int × Unit) w2 =>
 cs (decide ((r1.1 : Int) < (0 : Int))) (
 R [.bool false] w2) (
 nn a0 fun b3 o4 =>
 ldS w2 b3 o4 fun s5 =>
 cl Pg 45 [vS s5, .int .i64 r1.1, .int .i64 (w64 (r1.1 + 1))] [kS] w2 fun (r6 : Sl × Unit) w7 =>
 nn a0 fun b8 o9 =>
 st1 w7 b8 o9 (vS r6.1) fun w10 =>
 R [.bool true] w10)
theorem tie20 (a0 : Option Addr) (a1 : Int) (R : List Value → World → Prop) (w : World) : compF Pg Try.f20 ⟨[], [], [], []⟩ [.pointer a0, .int .i64 a1] R w = sh20 a0 a1 R w := by kernel_rfl
theorem call20 {a0 : Option Addr} {a1 : Int} {w : World} {K : TK [kB] → World → Prop} (h : sh20 a0 a1 (fun vs w' => ∃ t, encK [kB] t = vs ∧ K t w') w) : cl Pg 20 [.pointer a0, .int .i64 a1] [kB] w K := cl_of Try.func20 (tie20 ..) h
/-- (*detent/order.Line).First -/
def sh53 (a0 : Option Addr) (R : List Value → World → Prop) (w : World) : Prop :=
 al w 73 [.int .i64 0, .int .i64 0] fun b1 w2 =>
 nn a0 fun b3 o4 =>
 ldS w2 b3 o4 fun s5 =>
 cs (((s5.len : Int) : Int) == (0 : Int)) (
 st1 w2 b1 0 (.int .i64 0) fun w6 =>
 st1 w6 b1 (0 + 1) (.int .i64 0) fun w7 =>
 ldI w7 .i64 b1 0 fun n8 =>
 ldI w7 .i64 b1 (0 + 1) fun n9 =>
 R [.agg #[.int .i64 n8, .int .i64 n9], .bool false] w7) (
 nn a0 fun b10 o11 =>
 ldS w2 b10 o11 fun s12 =>
 ix s12 0 2 fun b13 o14 =>
 ldI w2 .i64 b13 o14 fun n15 =>
 ldI w2 .i64 b13 (o14 + 1) fun n16 =>
 st1 w2 b1 0 (.int .i64 n15) fun w17 =>
 st1 w17 b1 (0 + 1) (.int .i64 n16) fun w18 =>
 ldI w18 .i64 b1 0 fun n19 =>
 ldI w18 .i64 b1 (0 + 1) fun n20 =>
 R [.agg #[.int .i64 n19, .int .i64 n20], .bool true] w18)
theorem tie53 (a0 : Option Addr) (R : List Value → World → Prop) (w : World) : compF Pg Try.f53 ⟨[], [], [], []⟩ [.pointer a0] R w = sh53 a0 R w := by kernel_rfl
theorem call53 {a0 : Option Addr} {w : World} {K : TK [.a [(.i .i64), (.i .i64)], kB] → World → Prop} (h : sh53 a0 (fun vs w' => ∃ t, encK [.a [(.i .i64), (.i .i64)], kB] t = vs ∧ K t w') w) : cl Pg 53 [.pointer a0] [.a [(.i .i64), (.i .i64)], kB] w K := cl_of Try.func53 (tie53 ..) h
/-- (*detent/order.Queue).Take -/
def sh34 (a0 : Option Addr) (R : List Value → World → Prop) (w : World) : Prop :=
 al w 73 [.int .i64 0, .int .i64 0] fun b1 w2 =>
 nn a0 fun b3 o4 =>
 cl Pg 53 [.pointer (some ⟨b3, o4, none⟩)] [.a [(.i .i64), (.i .i64)], kB] w2 fun (r5 : (Int × Int × Unit) × Bool × Unit) w6 =>
 al w6 73 [.int .i64 0, .int .i64 0] fun b7 w8 =>
 st1 w8 b7 0 (.int .i64 r5.1.1) fun w9 =>
 st1 w9 b7 (0 + 1) (.int .i64 r5.1.2.1) fun w10 =>
 jn [] w10 (fun (t12 : Unit) w13 =>
 ldI w13 .i64 b7 0 fun n15 =>
 ldI w13 .i64 b7 (0 + 1) fun n16 =>
 st1 w13 b1 0 (.int .i64 n15) fun w17 =>
 st1 w17 b1 (0 + 1) (.int .i64 n16) fun w18 =>
 ldI w18 .i64 b1 0 fun n19 =>
 ldI w18 .i64 b1 (0 + 1) fun n20 =>
 R [.agg #[.int .i64 n19, .int .i64 n20], .bool r5.2.1] w18) fun J11 w14 =>
 cs r5.2.1 (
 dr w14 fun w21 =>
 nn a0 fun b22 o23 =>
 ldI w21 .i64 b7 0 fun n24 =>
 cl Pg 20 [.pointer (some ⟨b22, o23, none⟩), .int .i64 n24] [kB] w21 fun (r25 : Bool × Unit) w26 =>
 J11 () w26) (
 J11 () w14)
theorem tie34 (a0 : Option Addr) (R : List Value → World → Prop) (w : World) : compF Pg Try.f34 ⟨[(0, ⟨[], [14, 15, 16, 17, 18, 19]⟩)], [], [(3, .l [(0, []), (1, []), (2, []), (3, []), (4, []), (5, [2, 4, 1, 3, 0])])], []⟩ [.pointer a0] R w = sh34 a0 R w := by kernel_rfl
theorem call34 {a0 : Option Addr} {w : World} {K : TK [.a [(.i .i64), (.i .i64)], kB] → World → Prop} (h : sh34 a0 (fun vs w' => ∃ t, encK [.a [(.i .i64), (.i .i64)], kB] t = vs ∧ K t w') w) : cl Pg 34 [.pointer a0] [.a [(.i .i64), (.i .i64)], kB] w K := cl_of Try.func34 (tie34 ..) h
/-- slices.Delete[[]int,int] -/
def sh35 (a0 : Sl) (a1 : Int) (a2 : Int) (R : List Value → World → Prop) (w : World) : Prop :=
 sb a0 a1 a2 (a0.len : Int) 1 fun s1 =>
 cs ((a1 : Int) == (a2 : Int)) (
 R [vS a0] w) (
 dr w fun w2 =>
 sb a0 0 a1 a0.cap 1 fun s3 =>
 sb a0 a2 a0.len a0.cap 1 fun s4 =>
 ef Pg (Builtin.append_ #[27, 27] 27 #[vS s3, vS s4]) [kS] w2 fun (r5 : Sl × Unit) w6 =>
 sb r5.1 (r5.1.len : Int) (a0.len : Int) r5.1.cap 1 fun s7 =>
 ef Pg (Builtin.clear_ #[27] 0 #[vS s7]) [] w6 fun (r8 : Unit) w9 =>
 R [vS r5.1] w9)
theorem tie35 (a0 : Sl) (a1 : Int) (a2 : Int) (R : List Value → World → Prop) (w : World) : compF Pg Try.f35 ⟨[], [], [(5, .l [(0, []), (1, []), (2, []), (3, []), (4, []), (5, []), (6, [2, 5, 0, 1, 3, 4]), (7, [])])], []⟩ [vS a0, .int .i64 a1, .int .i64 a2] R w = sh35 a0 a1 a2 R w := by kernel_rfl
theorem call35 {a0 : Sl} {a1 : Int} {a2 : Int} {w : World} {K : TK [kS] → World → Prop} (h : sh35 a0 a1 a2 (fun vs w' => ∃ t, encK [kS] t = vs ∧ K t w') w) : cl Pg 35 [vS a0, .int .i64 a1, .int .i64 a2] [kS] w K := cl_of Try.func35 (tie35 ..) h
/-- (*detent/mpf.Pool).Put -/
def sh12 (a0 : Option Addr) (a1 : Int) (R : List Value → World → Prop) (w : World) : Prop :=
 nn a0 fun b1 o2 =>
 ldS w b1 (o2 + 6) fun s3 =>
 cl Pg 32 [vS s3, .int .i64 a1] [kI, kB] w fun (r4 : Int × Bool × Unit) w5 =>
 cs (!r4.2.1) (
 R [.int .i64 0, .int .i64 (-17)] w5) (
 nn a0 fun b6 o7 =>
 ldP w5 b6 o7 fun p8 =>
 cl Pg 34 [.pointer p8] [.a [(.i .i64), (.i .i64)], kB] w5 fun (r9 : (Int × Int × Unit) × Bool × Unit) w10 =>
 al w10 73 [.int .i64 0, .int .i64 0] fun b11 w12 =>
 st1 w12 b11 0 (.int .i64 r9.1.1) fun w13 =>
 st1 w13 b11 (0 + 1) (.int .i64 r9.1.2.1) fun w14 =>
 cs r9.2.1 (
 ldI w14 .i64 b11 0 fun n15 =>
 R [.int .i64 n15, .int .i64 0] w14) (
 nn a0 fun b16 o17 =>
 ldS w14 b16 (o17 + 6) fun s18 =>
 cl Pg 35 [vS s18, .int .i64 r4.1, .int .i64 (w64 (r4.1 + 1))] [kS] w14 fun (r19 : Sl × Unit) w20 =>
 nn a0 fun b21 o22 =>
 st1 w20 b21 (o22 + 6) (vS r19.1) fun w23 =>
 nn a0 fun b24 o25 =>
 ldS w23 b24 (o25 + 5) fun s26 =>
 al w23 3 [.int .i64 a1] fun b27 w28 =>
 ef Pg (Builtin.append_ #[27, 27] 27 #[vS s26, vS ⟨some ⟨b27, 0, none⟩, 1, 1⟩]) [kS] w28 fun (r29 : Sl × Unit) w30 =>
 nn a0 fun b31 o32 =>
 st1 w30 b31 (o32 + 5) (vS r29.1) fun w33 =>
 R [.int .i64 0, .int .i64 0] w33))
theorem tie12 (a0 : Option Addr) (a1 : Int) (R : List Value → World → Prop) (w : World) : compF Pg Try.f12 ⟨[], [], [], []⟩ [.pointer a0, .int .i64 a1] R w = sh12 a0 a1 R w := by kernel_rfl
theorem call12 {a0 : Option Addr} {a1 : Int} {w : World} {K : TK [kI, kI] → World → Prop} (h : sh12 a0 a1 (fun vs w' => ∃ t, encK [kI, kI] t = vs ∧ K t w') w) : cl Pg 12 [.pointer a0, .int .i64 a1] [kI, kI] w K := cl_of Try.func12 (tie12 ..) h
/-- slices.Clip[[]int,int] -/
def sh36 (a0 : Sl) (R : List Value → World → Prop) (w : World) : Prop :=
 sb a0 0 (a0.len : Int) (a0.len : Int) 1 fun s1 =>
 R [vS s1] w
theorem tie36 (a0 : Sl) (R : List Value → World → Prop) (w : World) : compF Pg Try.f36 ⟨[], [], [], []⟩ [vS a0] R w = sh36 a0 R w := by kernel_rfl
theorem call36 {a0 : Sl} {w : World} {K : TK [kS] → World → Prop} (h : sh36 a0 (fun vs w' => ∃ t, encK [kS] t = vs ∧ K t w') w) : cl Pg 36 [vS a0] [kS] w K := cl_of Try.func36 (tie36 ..) h
/-- slices.Clone[[]int,int] -/
def sh37 (a0 : Sl) (R : List Value → World → Prop) (w : World) : Prop :=
 cs a0.a.isNone (
 R [.slice none 0 0] w) (
 al w 3 [] fun b1 w2 =>
 ef Pg (Builtin.append_ #[27, 27] 27 #[vS ⟨some ⟨b1, 0, none⟩, 0, 0⟩, vS a0]) [kS] w2 fun (r3 : Sl × Unit) w4 =>
 R [vS r3.1] w4)
theorem tie37 (a0 : Sl) (R : List Value → World → Prop) (w : World) : compF Pg Try.f37 ⟨[], [], [], []⟩ [vS a0] R w = sh37 a0 R w := by kernel_rfl
theorem call37 {a0 : Sl} {w : World} {K : TK [kS] → World → Prop} (h : sh37 a0 (fun vs w' => ∃ t, encK [kS] t = vs ∧ K t w') w) : cl Pg 37 [vS a0] [kS] w K := cl_of Try.func37 (tie37 ..) h
/-- (*detent/mpf.Pool).Held -/
def sh13 (a0 : Option Addr) (R : List Value → World → Prop) (w : World) : Prop :=
 nn a0 fun b1 o2 =>
 ldS w b1 (o2 + 6) fun s3 =>
 cl Pg 37 [vS s3] [kS] w fun (r4 : Sl × Unit) w5 =>
 cl Pg 36 [vS r4.1] [kS] w5 fun (r6 : Sl × Unit) w7 =>
 R [vS r6.1] w7
theorem tie13 (a0 : Option Addr) (R : List Value → World → Prop) (w : World) : compF Pg Try.f13 ⟨[], [], [], []⟩ [.pointer a0] R w = sh13 a0 R w := by kernel_rfl
theorem call13 {a0 : Option Addr} {w : World} {K : TK [kS] → World → Prop} (h : sh13 a0 (fun vs w' => ∃ t, encK [kS] t = vs ∧ K t w') w) : cl Pg 13 [.pointer a0] [kS] w K := cl_of Try.func13 (tie13 ..) h
/-- detent/order.may -/
def sh47 (a0 : Int) (R : List Value → World → Prop) (w : World) : Prop :=
 jn [kB] w (fun (t2 : Bool × Unit) w3 =>
 R [.bool t2.1] w3) fun J1 w4 =>
 cs (decide ((a0 : Int) ≥ (1 : Int))) (
 J1 (decide ((a0 : Int) ≤ (16 : Int)), ()) w4) (
 J1 (false, ()) w4)
theorem tie47 (a0 : Int) (R : List Value → World → Prop) (w : World) : compF Pg Try.f47 ⟨[], [], [], [(1, [(3, 3, ⟨[(8, kB)], [6, 7]⟩)])]⟩ [.int .i64 a0] R w = sh47 a0 R w := by kernel_rfl
theorem call47 {a0 : Int} {w : World} {K : TK [kB] → World → Prop} (h : sh47 a0 (fun vs w' => ∃ t, encK [kB] t = vs ∧ K t w') w) : cl Pg 47 [.int .i64 a0] [kB] w K := cl_of Try.func47 (tie47 ..) h
/-- slices.Reverse[[]detent/order.Item,detent/order.Item] -/
def sh75 (a0 : Sl) (R : List Value → World → Prop) (w : World) : Prop :=
 lp [kI, kI] w ((0 : Int), w64 ((a0.len : Int) - 1), ()) fun (t1 : Int × Int × Unit) J2 w3 =>
 cs (decide ((t1.1 : Int) < (t1.2.1 : Int))) (
 dr w3 fun w4 =>
 ix a0 t1.2.1 2 fun b5 o6 =>
 ldI w4 .i64 b5 o6 fun n7 =>
 ldI w4 .i64 b5 (o6 + 1) fun n8 =>
 ix a0 t1.1 2 fun b9 o10 =>
 ldI w4 .i64 b9 o10 fun n11 =>
 ldI w4 .i64 b9 (o10 + 1) fun n12 =>
 ix a0 t1.1 2 fun b13 o14 =>
 st1 w4 b13 o14 (.int .i64 n7) fun w15 =>
 st1 w15 b13 (o14 + 1) (.int .i64 n8) fun w16 =>
 ix a0 t1.2.1 2 fun b17 o18 =>
 st1 w16 b17 o18 (.int .i64 n11) fun w19 =>
 st1 w19 b17 (o18 + 1) (.int .i64 n12) fun w20 =>
 J2 (w64 (t1.1 + 1), w64 (t1.2.1 - 1), ()) w20) (
 R [] w3)
theorem tie75 (a0 : Sl) (R : List Value → World → Prop) (w : World) : compF Pg Try.f75 ⟨[(1, ⟨[(2, kI), (3, kI)], [7, 8, 9, 10, 11, 12, 13, 14, 15, 16, 17, 18, 19, 20, 21, 22, 23, 24, 25, 26, 27]⟩)], [], [(3, .l [(0, []), (1, []), (2, []), (3, []), (4, []), (5, []), (6, []), (7, []), (8, []), (9, []), (10, []), (11, []), (12, []), (13, [12, 7, 0, 1, 4, 5, 6, 11, 10, 8, 9]), (14, []), (15, [14, 11, 13, 0, 1, 2, 3, 4, 5, 6, 7, 8, 9, 10, 12])])], []⟩ [vS a0] R w = sh75 a0 R w := by kernel_rfl
theorem call75 {a0 : Sl} {w : World} {K : TK [] → World → Prop} (h : sh75 a0 (fun vs w' => ∃ t, encK [] t = vs ∧ K t w') w) : cl Pg 75 [vS a0] [] w K := cl_of Try.func75 (tie75 ..) h
/-- slices.rotateLeft[detent/order.Item] -/
def sh74 (a0 : Sl) (a1 : Int) (R : List Value → World → Prop) (w : World) : Prop :=
 sb a0 0 a1 a0.cap 2 fun s1 =>
 cl Pg 75 [vS s1] [] w fun (r2 : Unit) w3 =>
 sb a0 a1 a0.len a0.cap 2 fun s4 =>
 cl Pg 75 [vS s4] [] w3 fun (r5 : Unit) w6 =>
 cl Pg 75 [vS a0] [] w6 fun (r7 : Unit) w8 =>
 R [] w8
theorem tie74 (a0 : Sl) (a1 : Int) (R : List Value → World → Prop) (w : World) : compF Pg Try.f74 ⟨[], [], [], []⟩ [vS a0, .int .i64 a1] R w = sh74 a0 a1 R w := by kernel_rfl
theorem call74 {a0 : Sl} {a1 : Int} {w : World} {K : TK [] → World → Prop} (h : sh74 a0 a1 (fun vs w' => ∃ t, encK [] t = vs ∧ K t w') w) : cl Pg 74 [vS a0, .int .i64 a1] [] w K := cl_of Try.func74 (tie74 ..) h
/-- slices.rotateRight[detent/order.Item] -/
def sh72 (a0 : Sl) (a1 : Int) (R : List Value → World → Prop) (w : World) : Prop :=
 cl Pg 74 [vS a0, .int .i64 (w64 ((a0.len : Int) - a1))] [] w fun (r1 : Unit) w2 =>
 R [] w2
theorem tie72 (a0 : Sl) (a1 : Int) (R : List Value → World → Prop) (w : World) : compF Pg Try.f72 ⟨[], [], [], []⟩ [vS a0, .int .i64 a1] R w = sh72 a0 a1 R w := by kernel_rfl
theorem call72 {a0 : Sl} {a1 : Int} {w : World} {K : TK [] → World → Prop} (h : sh72 a0 a1 (fun vs w' => ∃ t, encK [] t = vs ∧ K t w') w) : cl Pg 72 [vS a0, .int .i64 a1] [] w K := cl_of Try.func72 (tie72 ..) h
/-- slices.Insert[[]detent/order.Item,detent/order.Item] -/
def sh65 (a0 : Sl) (a1 : Int) (a2 : Sl) (R : List Value → World → Prop) (w : World) : Prop :=
 sb a0 a1 a0.len a0.cap 2 fun s1 =>
 cs (((a2.len : Int) : Int) == (0 : Int)) (
 R [vS a0] w) (
 cs ((a1 : Int) == ((a0.len : Int) : Int)) (
 ef Pg (Builtin.append_ #[43, 43] 43 #[vS a0, vS a2]) [kS] w fun (r2 : Sl × Unit) w3 =>
 R [vS r2.1] w3) (
 cs (decide ((w64 ((a0.len : Int) + (a2.len : Int)) : Int) > ((a0.cap : Int) : Int))) (
 sb a0 0 a1 a0.cap 2 fun s4 =>
 ef Pg (Builtin.append_ #[43, 3] 43 #[vS s4, .int .i64 (w64 ((w64 ((a0.len : Int) + (a2.len : Int))) - a1))]) [kS] w fun (r5 : Sl × Unit) w6 =>
 sb r5.1 a1 r5.1.len r5.1.cap 2 fun s7 =>
 ef Pg (Builtin.copy_ #[43, 43] 3 #[vS s7, vS a2]) [kI] w6 fun (r8 : Int × Unit) w9 =>
 dr w9 fun w10 =>
 sb r5.1 (w64 (a1 + (a2.len : Int))) r5.1.len r5.1.cap 2 fun s11 =>
 sb a0 a1 a0.len a0.cap 2 fun s12 =>
 ef Pg (Builtin.copy_ #[43, 43] 3 #[vS s11, vS s12]) [kI] w10 fun (r13 : Int × Unit) w14 =>
 R [vS r5.1] w14) (
 sb a0 0 (w64 ((a0.len : Int) + (a2.len : Int))) a0.cap 2 fun s15 =>
 sb s15 (w64 (a1 + (a2.len : Int))) s15.len s15.cap 2 fun s16 =>
 xt Pg 71 [vS a2, vS s16] [kB] w fun (r17 : Bool × Unit) w18 =>
 cs (!r17.1) (
 dr w18 fun w19 =>
 sb s15 (w64 (a1 + (a2.len : Int))) s15.len s15.cap 2 fun s20 =>
 sb s15 a1 s15.len s15.cap 2 fun s21 =>
 ef Pg (Builtin.copy_ #[43, 43] 3 #[vS s20, vS s21]) [kI] w19 fun (r22 : Int × Unit) w23 =>
 sb s15 a1 s15.len s15.cap 2 fun s24 =>
 ef Pg (Builtin.copy_ #[43, 43] 3 #[vS s24, vS a2]) [kI] w23 fun (r25 : Int × Unit) w26 =>
 R [vS s15] w26) (
 sb s15 (a0.len : Int) s15.len s15.cap 2 fun s27 =>
 ef Pg (Builtin.copy_ #[43, 43] 3 #[vS s27, vS a2]) [kI] w18 fun (r28 : Int × Unit) w29 =>
 sb s15 a1 s15.len s15.cap 2 fun s30 =>
 cl Pg 72 [vS s30, .int .i64 (a2.len : Int)] [] w29 fun (r31 : Unit) w32 =>
 R [vS s15] w32))))
theorem tie65 (a0 : Sl) (a1 : Int) (a2 : Sl) (R : List Value → World → Prop) (w : World) : compF Pg Try.f65 ⟨[], [], [(11, .l [(0, []), (1, []), (2, []), (3, []), (4, []), (5, []), (6, []), (7, []), (8, [4, 7, 0, 3, 5, 6, 1, 2])]), (15, .l [(0, []), (1, []), (2, []), (3, []), (4, []), (5, []), (6, []), (7, []), (8, [4, 7, 0, 3, 5, 6, 1, 2])])], []⟩ [vS a0, .int .i64 a1, vS a2] R w = sh65 a0 a1 a2 R w := by kernel_rfl
theorem call65 {a0 : Sl} {a1 : Int} {a2 : Sl} {w : World} {K : TK [kS] → World → Prop} (h : sh65 a0 a1 a2 (fun vs w' => ∃ t, encK [kS] t = vs ∧ K t w') w) : cl Pg 65 [vS a0, .int .i64 a1, vS a2] [kS] w K := cl_of Try.func65 (tie65 ..) h
/-- (*detent/order.Queue).put -/
def sh48 (a0 : Option Addr) (a1 : (Int × Int × Unit)) (R : List Value → World → Prop) (w : World) : Prop :=
 al w 73 [.int .i64 a1.1, .int .i64 a1.2.1] fun b1 w2 =>
 nn a0 fun b3 o4 =>
 ldS w2 b3 o4 fun s5 =>
 lp [kI] w2 ((s5.len : Int), ()) fun (t6 : Int × Unit) J7 w8 =>
 dr w8 fun w9 =>
 jn [kB] w9 (fun (t11 : Bool × Unit) w12 =>
 cs t11.1 (
 J7 (w64 (t6.1 - 1), ()) w12) (
 dr w12 fun w14 =>
 nn a0 fun b15 o16 =>
 ldS w14 b15 o16 fun s17 =>
 ldI w14 .i64 b1 0 fun n18 =>
 ldI w14 .i64 b1 (0 + 1) fun n19 =>
 al w14 73 [.int .i64 n18, .int .i64 n19] fun b20 w21 =>
(w21.cell? ⟨b15, o16, none⟩ = some (vS s17)) ∧ (
 cl Pg 65 [vS s17, .int .i64 t6.1, vS ⟨some ⟨b20, 0, none⟩, 1, 1⟩] [kS] w21 fun (r22 : Sl × Unit) w23 =>
 nn a0 fun b24 o25 =>
 st1 w23 b24 o25 (vS r22.1) fun w26 =>
 R [] w26))) fun J10 w13 =>
 nn a0 fun b27 o28 =>
 ldB w13 b27 (o28 + 1) fun b29 =>
 cs b29 (
 cs (decide ((t6.1 : Int) > (0 : Int))) (
 nn a0 fun b30 o31 =>
 ldS w13 b30 o31 fun s32 =>
 ix s32 (w64 (t6.1 - 1)) 2 fun b33 o34 =>
 ldI w13 .i64 b33 (o34 + 1) fun n35 =>
 ldI w13 .i64 b1 (0 + 1) fun n36 =>
 J10 (decide ((n35 : Int) > (n36 : Int)), ()) w13) (
 J10 (false, ()) w13)) (
 J10 (false, ()) w13)
theorem tie48 (a0 : Option Addr) (a1 : (Int × Int × Unit)) (R : List Value → World → Prop) (w : World) : compF Pg Try.f48 ⟨[(1, ⟨[(4, kI)], [11, 12, 13, 14, 15, 16, 17, 18, 19, 20, 21, 22, 23, 24, 25, 26, 27, 28, 29, 30, 31, 32, 33, 34, 35]⟩)], [(2, ⟨[(33, kB)], [11, 12, 13, 14, 15, 16, 17, 18, 19, 20, 21, 22, 23, 24, 25, 26, 27, 28, 29, 30, 31, 32]⟩)], [(2, .l [(0, []), (1, []), (2, []), (3, []), (4, []), (5, []), (6, []), (7, []), (8, []), (9, []), (10, []), (11, []), (12, []), (13, []), (14, []), (15, []), (16, []), (17, []), (18, []), (19, []), (20, []), (21, []), (22, [])]), (4, .l [(0, []), (1, []), (2, []), (3, []), (4, []), (5, []), (6, []), (7, []), (8, [7]), (9, [5, 6, 8, 4, 7, 3, 2, 1]), (10, []), (11, []), (12, []), (13, [12, 9, 0, 1, 2, 3, 4, 5, 6, 7, 8, 11, 10])])], []⟩ [.pointer a0, .agg #[.int .i64 a1.1, .int .i64 a1.2.1]] R w = sh48 a0 a1 R w := by kernel_rfl
theorem call48 {a0 : Option Addr} {a1 : (Int × Int × Unit)} {w : World} {K : TK [] → World → Prop} (h : sh48 a0 a1 (fun vs w' => ∃ t, encK [] t = vs ∧ K t w') w) : cl Pg 48 [.pointer a0, .agg #[.int .i64 a1.1, .int .i64 a1.2.1]] [] w K := cl_of Try.func48 (tie48 ..) h
/-- (*detent/order.Line).Has -/
def sh55 (a0 : Option Addr) (a1 : Int) (R : List Value → World → Prop) (w : World) : Prop :=
 cl Pg 44 [.pointer a0, .int .i64 a1] [kI] w fun (r1 : Int × Unit) w2 =>
 R [.bool (decide ((r1.1 : Int) ≥ (0 : Int)))] w2
theorem tie55 (a0 : Option Addr) (a1 : Int) (R : List Value → World → Prop) (w : World) : compF Pg Try.f55 ⟨[], [], [], []⟩ [.pointer a0, .int .i64 a1] R w = sh55 a0 a1 R w := by kernel_rfl
theorem call55 {a0 : Option Addr} {a1 : Int} {w : World} {K : TK [kB] → World → Prop} (h : sh55 a0 a1 (fun vs w' => ∃ t, encK [kB] t = vs ∧ K t w') w) : cl Pg 55 [.pointer a0, .int .i64 a1] [kB] w K := cl_of Try.func55 (tie55 ..) h
/-- (*detent/order.Queue).Add -/
def sh38 (a0 : Option Addr) (a1 : Int) (a2 : Int) (R : List Value → World → Prop) (w : World) : Prop :=
 jn [kB] w (fun (t2 : Bool × Unit) w3 =>
 jn [kB] w3 (fun (t6 : Bool × Unit) w7 =>
 cs t6.1 (
 R [.int .i64 (-17)] w7) (
 nn a0 fun b9 o10 =>
 cl Pg 55 [.pointer (some ⟨b9, o10, none⟩), .int .i64 a1] [kB] w7 fun (r11 : Bool × Unit) w12 =>
 cs r11.1 (
 R [.int .i64 (-41)] w12) (
 cl Pg 48 [.pointer a0, .agg #[.int .i64 a1, .int .i64 a2]] [] w12 fun (r13 : Unit) w14 =>
 R [.int .i64 0] w14))) fun J5 w8 =>
 cs t2.1 (
 J5 (true, ()) w8) (
 cl Pg 47 [.int .i64 a2] [kB] w8 fun (r15 : Bool × Unit) w16 =>
 J5 (!r15.1, ()) w16)) fun J1 w4 =>
 cs (decide ((a1 : Int) < (1 : Int))) (
 J1 (true, ()) w4) (
 J1 (decide ((a1 : Int) > (16 : Int)), ()) w4)
theorem tie38 (a0 : Option Addr) (a1 : Int) (a2 : Int) (R : List Value → World → Prop) (w : World) : compF Pg Try.f38 ⟨[], [], [], [(1, [(3, 3, ⟨[(13, kB)], [11, 12]⟩), (7, 4, ⟨[(18, kB)], [15, 16, 17]⟩)])]⟩ [.pointer a0, .int .i64 a1, .int .i64 a2] R w = sh38 a0 a1 a2 R w := by kernel_rfl
theorem call38 {a0 : Option Addr} {a1 : Int} {a2 : Int} {w : World} {K : TK [kI] → World → Prop} (h : sh38 a0 a1 a2 (fun vs w' => ∃ t, encK [kI] t = vs ∧ K t w') w) : cl Pg 38 [.pointer a0, .int .i64 a1, .int .i64 a2] [kI] w K := cl_of Try.func38 (tie38 ..) h
/-- (*detent/mpf.Pool).Get -/
def sh14 (a0 : Option Addr) (a1 : Int) (a2 : Int) (R : List Value → World → Prop) (w : World) : Prop :=
 cl Pg 10 [.pointer a0] [kI, kB] w fun (r1 : Int × Bool × Unit) w2 =>
 cs r1.2.1 (
 R [.int .i64 r1.1, .bool true, .int .i64 0] w2) (
 nn a0 fun b3 o4 =>
 ldP w2 b3 o4 fun p5 =>
 cl Pg 38 [.pointer p5, .int .i64 a1, .int .i64 a2] [kI] w2 fun (r6 : Int × Unit) w7 =>
 R [.int .i64 0, .bool false, .int .i64 r6.1] w7)
theorem tie14 (a0 : Option Addr) (a1 : Int) (a2 : Int) (R : List Value → World → Prop) (w : World) : compF Pg Try.f14 ⟨[], [], [], []⟩ [.pointer a0, .int .i64 a1, .int .i64 a2] R w = sh14 a0 a1 a2 R w := by kernel_rfl
theorem call14 {a0 : Option Addr} {a1 : Int} {a2 : Int} {w : World} {K : TK [kI, kB, kI] → World → Prop} (h : sh14 a0 a1 a2 (fun vs w' => ∃ t, encK [kI, kB, kI] t = vs ∧ K t w') w) : cl Pg 14 [.pointer a0, .int .i64 a1, .int .i64 a2] [kI, kB, kI] w K := cl_of Try.func14 (tie14 ..) h
/-- slices.IndexFunc[[]int,int] -/
def sh68 (a0 : Sl) (a1 : Fv) (R : List Value → World → Prop) (w : World) : Prop :=
 lp [kI] w ((0 : Int), ()) fun (t1 : Int × Unit) J2 w3 =>
 cs (decide ((t1.1 : Int) < ((a0.len : Int) : Int))) (
 ix a0 t1.1 1 fun b4 o5 =>
 ldI w3 .i64 b4 o5 fun n6 =>
 ob (enterable Pg a1.fid = true) (
 cl Pg a1.fid (a1.pre ++ ([.int .i64 n6] ++ a1.post)) [kB] w3 fun (r7 : Bool × Unit) w8 =>
 cs r7.1 (
 R [.int .i64 t1.1] w8) (
 J2 (w64 (t1.1 + 1), ()) w8))) (
 R [.int .i64 (-1)] w3)
theorem tie68 (a0 : Sl) (a1 : Fv) (R : List Value → World → Prop) (w : World) : compF Pg Try.f68 ⟨[(1, ⟨[(8, kI)], [4, 5, 9, 10, 11, 12, 13, 14, 15, 16, 17, 18]⟩)], [], [], []⟩ [vS a0, vF a1] R w = sh68 a0 a1 R w := by kernel_rfl
theorem call68 {a0 : Sl} {a1 : Fv} {w : World} {K : TK [kI] → World → Prop} (h : sh68 a0 a1 (fun vs w' => ∃ t, encK [kI] t = vs ∧ K t w') w) : cl Pg 68 [vS a0, vF a1] [kI] w K := cl_of Try.func68 (tie68 ..) h
/-- slices.ContainsFunc[[]int,int] -/
def sh56 (a0 : Sl) (a1 : Fv) (R : List Value → World → Prop) (w : World) : Prop :=
 cl Pg 68 [vS a0, vF a1] [kI] w fun (r1 : Int × Unit) w2 =>
 R [.bool (decide ((r1.1 : Int) ≥ (0 : Int)))] w2
theorem tie56 (a0 : Sl) (a1 : Fv) (R : List Value → World → Prop) (w : World) : compF Pg Try.f56 ⟨[], [], [], []⟩ [vS a0, vF a1] R w = sh56 a0 a1 R w := by kernel_rfl
theorem call56 {a0 : Sl} {a1 : Fv} {w : World} {K : TK [kB] → World → Prop} (h : sh56 a0 a1 (fun vs w' => ∃ t, encK [kB] t = vs ∧ K t w') w) : cl Pg 56 [vS a0, vF a1] [kB] w K := cl_of Try.func56 (tie56 ..) h
/-- (*detent/mpf.Pool).Holds$1 -/
def sh57 (a0 : Int) (c0 : Nat) (c1 : Nat) (c2 : Nat) (R : List Value → World → Prop) (w : World) : Prop :=
 dr w fun w1 =>
 jn [kB] w1 (fun (t3 : Bool × Unit) w4 =>
 R [.bool t3.1] w4) fun J2 w5 =>
 ldI w5 .i64 c0 0 fun n6 =>
 cs (decide ((n6 : Int) ≥ (a0 : Int))) (
 ldI w5 .i64 c0 0 fun n7 =>
 ldP w5 c1 0 fun p8 =>
 nn p8 fun b9 o10 =>
 ldI w5 .i64 b9 (o10 + 3) fun n11 =>
 ldI w5 .i64 c2 0 fun n12 =>
 J2 (decide ((n7 : Int) ≤ (w64 ((w64 (a0 + n11)) - n12) : Int)), ()) w5) (
 J2 (false, ()) w5)
theorem tie57 (a0 : Int) (c0 : Nat) (c1 : Nat) (c2 : Nat) (R : List Value → World → Prop) (w : World) : compF Pg Try.f57 ⟨[], [(1, ⟨[(5, kB)], [6, 7, 8, 9, 10, 11, 12, 13, 14, 15, 16, 17, 18, 19, 20]⟩)], [(1, .l [(0, []), (1, []), (2, []), (3, []), (4, []), (5, []), (6, []), (7, []), (8, []), (9, []), (10, []), (11, []), (12, []), (13, []), (14, []), (15, [])])], []⟩ [.int .i64 a0, .pointer (some ⟨c0, 0, none⟩), .pointer (some ⟨c1, 0, none⟩), .pointer (some ⟨c2, 0, none⟩)] R w = sh57 a0 c0 c1 c2 R w := by kernel_rfl
theorem call57 {a0 : Int} {c0 : Nat} {c1 : Nat} {c2 : Nat} {w : World} {K : TK [kB] → World → Prop} (h : sh57 a0 c0 c1 c2 (fun vs w' => ∃ t, encK [kB] t = vs ∧ K t w') w) : cl Pg 57 [.int .i64 a0, .pointer (some ⟨c0, 0, none⟩), .pointer (some ⟨c1, 0, none⟩), .pointer (some ⟨c2, 0, none⟩)] [kB] w K := cl_of Try.func57 (tie57 ..) h
/-- (*detent/mpf.Pool).Holds -/
def sh28 (a0 : Option Addr) (a1 : Int) (a2 : Int) (R : List Value → World → Prop) (w : World) : Prop :=
 al w 23 [.pointer a0] fun b1 w2 =>
 al w2 3 [.int .i64 a1] fun b3 w4 =>
 al w4 3 [.int .i64 a2] fun b5 w6 =>
 dr w6 fun w7 =>
 jn [kB] w7 (fun (t9 : Bool × Unit) w10 =>
 R [.bool t9.1] w10) fun J8 w11 =>
 ldI w11 .i64 b5 0 fun n12 =>
 cs (decide ((n12 : Int) ≥ (1 : Int))) (
 ldI w11 .i64 b5 0 fun n13 =>
 ldP w11 b1 0 fun p14 =>
 nn p14 fun b15 o16 =>
 ldI w11 .i64 b15 (o16 + 3) fun n17 =>
 cs (decide ((n13 : Int) ≤ (n17 : Int))) (
 ldP w11 b1 0 fun p18 =>
 nn p18 fun b19 o20 =>
 ldS w11 b19 (o20 + 6) fun s21 =>
 cl Pg 56 [vS s21, .func (.func 57) #[] #[.pointer (some ⟨b3, 0, none⟩), .pointer (some ⟨b1, 0, none⟩), .pointer (some ⟨b5, 0, none⟩)]] [kB] w11 fun (r22 : Bool × Unit) w23 =>
 J8 (r22.1, ()) w23) (
 J8 (false, ()) w11)) (
 J8 (false, ()) w11)
theorem tie28 (a0 : Option Addr) (a1 : Int) (a2 : Int) (R : List Value → World → Prop) (w : World) : compF Pg Try.f28 ⟨[], [(1, ⟨[(6, kB)], [7, 8, 9, 10, 11, 12, 13, 14, 15, 16, 17, 18, 19, 20, 21, 22, 23, 24]⟩)], [(1, .l [(0, []), (1, []), (2, []), (3, []), (4, []), (5, []), (6, []), (7, []), (8, []), (9, []), (10, []), (11, []), (12, []), (13, []), (14, []), (15, []), (16, [14, 15, 10, 13, 9, 2, 12, 8, 1, 11, 3, 7, 0, 6, 5, 4]), (17, []), (18, [])])], []⟩ [.pointer a0, .int .i64 a1, .int .i64 a2] R w = sh28 a0 a1 a2 R w := by kernel_rfl
theorem call28 {a0 : Option Addr} {a1 : Int} {a2 : Int} {w : World} {K : TK [kB] → World → Prop} (h : sh28 a0 a1 a2 (fun vs w' => ∃ t, encK [kB] t = vs ∧ K t w') w) : cl Pg 28 [.pointer a0, .int .i64 a1, .int .i64 a2] [kB] w K := cl_of Try.func28 (tie28 ..) h
/-- detent/detentlaw18.known -/
def sh8  (R : List Value → World → Prop) (w : World) : Prop :=
 cl Pg 9 [.bool false, .int .i64 8, .int .i64 2, .int .i64 5] [kP, kI] w fun (r1 : Option Addr × Int × Unit) w2 =>
 jn [kB] w2 (fun (t4 : Bool × Unit) w5 =>
 jn [kB] w5 (fun (t8 : Bool × Unit) w9 =>
 cs t8.1 (
 R [.bool false] w9) (
 cl Pg 14 [.pointer r1.1, .int .i64 1, .int .i64 5] [kI, kB, kI] w9 fun (r11 : Int × Bool × Int × Unit) w12 =>
 cl Pg 10 [.pointer r1.1] [kI, kB] w12 fun (r13 : Int × Bool × Unit) w14 =>
 cl Pg 14 [.pointer r1.1, .int .i64 2, .int .i64 5] [kI, kB, kI] w14 fun (r15 : Int × Bool × Int × Unit) w16 =>
 cl Pg 12 [.pointer r1.1, .int .i64 r11.1] [kI, kI] w16 fun (r17 : Int × Int × Unit) w18 =>
 cl Pg 12 [.pointer r1.1, .int .i64 9] [kI, kI] w18 fun (r19 : Int × Int × Unit) w20 =>
 jn [kB] w20 (fun (t22 : Bool × Unit) w23 =>
 jn [kB] w23 (fun (t26 : Bool × Unit) w27 =>
 jn [kB] w27 (fun (t30 : Bool × Unit) w31 =>
 jn [kB] w31 (fun (t34 : Bool × Unit) w35 =>
 jn [kB] w35 (fun (t38 : Bool × Unit) w39 =>
 jn [kB] w39 (fun (t42 : Bool × Unit) w43 =>
 jn [kB] w43 (fun (t46 : Bool × Unit) w47 =>
 jn [kB] w47 (fun (t50 : Bool × Unit) w51 =>
 jn [kB] w51 (fun (t54 : Bool × Unit) w55 =>
 jn [kB] w55 (fun (t58 : Bool × Unit) w59 =>
 R [.bool t58.1] w59) fun J57 w60 =>
 cs t54.1 (
 cl Pg 13 [.pointer r1.1] [kS] w60 fun (r61 : Sl × Unit) w62 =>
 J57 (((r61.1.len : Int) : Int) == (2 : Int), ()) w62) (
 J57 (false, ()) w60)) fun J53 w56 =>
 cs t50.1 (
 cl Pg 28 [.pointer r1.1, .int .i64 9, .int .i64 5] [kB] w56 fun (r63 : Bool × Unit) w65 =>
 J53 (!r63.1, ()) w65) (
 J53 (false, ()) w56)) fun J49 w52 =>
 cs t46.1 (
 cl Pg 28 [.pointer r1.1, .int .i64 9, .int .i64 4] [kB] w52 fun (r66 : Bool × Unit) w67 =>
 J49 (r66.1, ()) w67) (
 J49 (false, ()) w52)) fun J45 w48 =>
 cs t42.1 (
 cl Pg 11 [.pointer r1.1] [kI] w48 fun (r68 : Int × Unit) w69 =>
 J45 ((r68.1 : Int) == (0 : Int), ()) w69) (
 J45 (false, ()) w48)) fun J41 w44 =>
 cs t38.1 (
 J41 ((r19.2.1 : Int) == ((-17) : Int), ()) w44) (
 J41 (false, ()) w44)) fun J37 w40 =>
 cs t34.1 (
 J37 ((r17.1 : Int) == (2 : Int), ()) w40) (
 J37 (false, ()) w40)) fun J33 w36 =>
 cs t30.1 (
 J33 (!r15.2.1, ()) w36) (
 J33 (false, ()) w36)) fun J29 w32 =>
 cs t26.1 (
 J29 (r13.2.1, ()) w32) (
 J29 (false, ()) w32)) fun J25 w28 =>
 cs t22.1 (
 J25 ((r13.1 : Int) == (16 : Int), ()) w28) (
 J25 (false, ()) w28)) fun J21 w24 =>
 cs ((w64 ((w64 (r11.2.2.1 + r15.2.2.1)) + r17.2.1) : Int) == (0 : Int)) (
 J21 ((r11.1 : Int) == (8 : Int), ()) w24) (
 J21 (false, ()) w24))) fun J7 w10 =>
 cs t4.1 (
 J7 (true, ()) w10) (
 nn r1.1 fun b70 o71 =>
 ldP w10 b70 o71 fun p72 =>
 J7 (p72.isNone, ()) w10)) fun J3 w6 =>
 cs ((r1.2.1 : Int) != (0 : Int)) (
 J3 (true, ()) w6) (
 J3 (r1.1.isNone, ()) w6)
theorem tie8  (R : List Value → World → Prop) (w : World) : compF Pg Try.f8 ⟨[], [], [], [(2, [(3, 3, ⟨[(24, kB)], [22, 23]⟩), (7, 6, ⟨[(31, kB)], [26, 27, 28, 29, 30]⟩)]), (9, [(7, 3, ⟨[(69, kB)], [67, 68]⟩), (11, 3, ⟨[(73, kB)], [71, 72]⟩), (15, 2, ⟨[(76, kB)], [75]⟩), (18, 3, ⟨[(80, kB)], [78, 79]⟩), (22, 3, ⟨[(84, kB)], [82, 83]⟩), (26, 3, ⟨[(88, kB)], [86, 87]⟩), (30, 4, ⟨[(93, kB)], [90, 91, 92]⟩), (35, 3, ⟨[(97, kB)], [95, 96]⟩), (39, 4, ⟨[(102, kB)], [99, 100, 101]⟩), (44, 5, ⟨[(108, kB)], [104, 105, 106, 107]⟩)])]⟩ [] R w = sh8  R w := by kernel_rfl
theorem call8  {w : World} {K : TK [kB] → World → Prop} (h : sh8  (fun vs w' => ∃ t, encK [kB] t = vs ∧ K t w') w) : cl Pg 8 [] [kB] w K := cl_of Try.func8 (tie8 ..) h
/-- detent/detentlaw18.PoolApart -/
def sh3 (a0 : Int) (a1 : Int) (a2 : Int) (R : List Value → World → Prop) (w : World) : Prop :=
 cl Pg 8 [] [kB] w fun (r1 : Bool × Unit) w2 =>
 cs (!r1.1) (
 R [.bool false] w2) (
 jn [kB] w2 (fun (t4 : Bool × Unit) w5 =>
 jn [kB] w5 (fun (t8 : Bool × Unit) w9 =>
 jn [kB] w9 (fun (t12 : Bool × Unit) w13 =>
 jn [kB] w13 (fun (t16 : Bool × Unit) w17 =>
 jn [kB] w17 (fun (t20 : Bool × Unit) w21 =>
 jn [kB] w21 (fun (t24 : Bool × Unit) w25 =>
 cs t24.1 (
 R [.bool true] w25) (
 cl Pg 9 [.bool false, .int .i64 a0, .int .i64 a1, .int .i64 a2] [kP, kI] w25 fun (r27 : Option Addr × Int × Unit) w28 =>
 cs ((r27.2.1 : Int) != (0 : Int)) (
 R [.bool false] w28) (
 lp [kI] w28 ((0 : Int), ()) fun (t29 : Int × Unit) J30 w31 =>
 cs (decide ((t29.1 : Int) < (2 : Int))) (
 lp [kS, kI] w31 (⟨none, 0, 0⟩, (0 : Int), ()) fun (t32 : Sl × Int × Unit) J33 w34 =>
 cs (decide ((t32.2.1 : Int) < (a1 : Int))) (
 cl Pg 10 [.pointer r27.1] [kI, kB] w34 fun (r35 : Int × Bool × Unit) w36 =>
 jn [kB] w36 (fun (t38 : Bool × Unit) w39 =>
 jn [kB] w39 (fun (t42 : Bool × Unit) w43 =>
 jn [kB] w43 (fun (t46 : Bool × Unit) w47 =>
 cs t46.1 (
 R [.bool false] w47) (
 lp [kI] w47 ((0 : Int), ()) fun (t49 : Int × Unit) J50 w51 =>
 cs (decide ((t49.1 : Int) < ((t32.1.len : Int) : Int))) (
 ix t32.1 t49.1 1 fun b52 o53 =>
 ldI w51 .i64 b52 o53 fun n54 =>
 jn [kB] w51 (fun (t56 : Bool × Unit) w57 =>
 cs t56.1 (
 R [.bool false] w57) (
 J50 (w64 (t49.1 + 1), ()) w57)) fun J55 w58 =>
 cs (decide ((r35.1 : Int) < (w64 (n54 + a2) : Int))) (
 ix t32.1 t49.1 1 fun b59 o60 =>
 ldI w58 .i64 b59 o60 fun n61 =>
 J55 (decide ((n61 : Int) < (w64 (r35.1 + a2) : Int)), ()) w58) (
 J55 (false, ()) w58)) (
 al w51 3 [.int .i64 r35.1] fun b62 w63 =>
 ef Pg (Builtin.append_ #[27, 27] 27 #[vS t32.1, vS ⟨some ⟨b62, 0, none⟩, 1, 1⟩]) [kS] w63 fun (r64 : Sl × Unit) w65 =>
 J33 (r64.1, w64 (t32.2.1 + 1), ()) w65))) fun J45 w48 =>
 cs t42.1 (
 J45 (true, ()) w48) (
 J45 (decide ((w64 (r35.1 + a2) : Int) > (w64 (a0 + (w64 (a1 * (w64 ((w64 (Int.tdiv (w64 (a2 + 3)) 4)) * 4))))) : Int)), ()) w48)) fun J41 w44 =>
 cs t38.1 (
 J41 (true, ()) w44) (
 J41 (decide ((r35.1 : Int) < (a0 : Int)), ()) w44)) fun J37 w40 =>
 cs (!r35.2.1) (
 J37 (true, ()) w40) (
 J37 ((Int.tmod r35.1 4 : Int) != (0 : Int), ()) w40)) (
 cl Pg 10 [.pointer r27.1] [kI, kB] w34 fun (r66 : Int × Bool × Unit) w67 =>
 jn [kB] w67 (fun (t69 : Bool × Unit) w70 =>
 cs t69.1 (
 R [.bool false] w70) (
 lp [kI] w70 ((0 : Int), ()) fun (t72 : Int × Unit) J73 w74 =>
 cs (decide ((t72.1 : Int) < ((t32.1.len : Int) : Int))) (
 ix t32.1 t72.1 1 fun b75 o76 =>
 ldI w74 .i64 b75 o76 fun n77 =>
 cl Pg 12 [.pointer r27.1, .int .i64 n77] [kI, kI] w74 fun (r78 : Int × Int × Unit) w79 =>
 cs ((r78.2.1 : Int) != (0 : Int)) (
 R [.bool false] w79) (
 J73 (w64 (t72.1 + 1), ()) w79)) (
 cl Pg 11 [.pointer r27.1] [kI] w74 fun (r80 : Int × Unit) w81 =>
 jn [kB] w81 (fun (t83 : Bool × Unit) w84 =>
 cs t83.1 (
 R [.bool false] w84) (
 J30 (w64 (t29.1 + 1), ()) w84)) fun J82 w85 =>
 cs ((r80.1 : Int) != (a1 : Int)) (
 J82 (true, ()) w85) (
 cl Pg 13 [.pointer r27.1] [kS] w85 fun (r86 : Sl × Unit) w87 =>
 J82 (((r86.1.len : Int) : Int) != (0 : Int), ()) w87)))) fun J68 w71 =>
 cs r66.2.1 (
 J68 (true, ()) w71) (
 cl Pg 11 [.pointer r27.1] [kI] w71 fun (r88 : Int × Unit) w89 =>
 J68 ((r88.1 : Int) != (0 : Int), ()) w89))) (
 R [.bool true] w31)))) fun J23 w26 =>
 cs t20.1 (
 J23 (true, ()) w26) (
 J23 (decide ((a2 : Int) > (100 : Int)), ()) w26)) fun J19 w22 =>
 cs t16.1 (
 J19 (true, ()) w22) (
 J19 (decide ((a2 : Int) < (1 : Int)), ()) w22)) fun J15 w18 =>
 cs t12.1 (
 J15 (true, ()) w18) (
 J15 (decide ((a1 : Int) > (100 : Int)), ()) w18)) fun J11 w14 =>
 cs t8.1 (
 J11 (true, ()) w14) (
 J11 (decide ((a1 : Int) < (1 : Int)), ()) w14)) fun J7 w10 =>
 cs t4.1 (
 J7 (true, ()) w10) (
 J7 ((Int.tmod a0 4 : Int) != (0 : Int), ()) w10)) fun J3 w6 =>
 cs (decide ((a0 : Int) < (0 : Int))) (
 J3 (true, ()) w6) (
 J3 (decide ((a0 : Int) > (1000 : Int)), ()) w6))
theorem tie3 (a0 : Int) (a1 : Int) (a2 : Int) (R : List Value → World → Prop) (w : World) : compF Pg Try.f3 ⟨[(4, ⟨[(9, kI)], [6, 10, 11, 12, 13, 14, 15, 16, 17, 18, 19, 58, 59, 60, 61, 62, 63, 64, 65, 66, 67, 68, 69, 70, 71, 72, 73, 74, 75, 76, 77, 78, 79, 80, 81, 82, 83, 84, 85, 86, 87, 88, 89, 90, 91, 92, 93, 94, 95, 96, 97, 98, 99, 100, 101, 102, 103, 104, 105, 106, 107, 108, 109, 110, 111, 112, 113, 114, 115, 116, 117, 118, 119, 120, 121, 122, 123, 124, 125, 126, 127, 128, 129, 130, 131, 132, 133, 134, 135, 136, 137, 138, 139, 140, 141, 142, 143, 144, 145, 146, 147, 148, 149, 150, 151, 152, 153, 154, 155, 156, 157, 158, 159, 160, 161, 162, 163]⟩), (8, ⟨[(10, kS), (11, kI)], [6, 12, 13, 14, 62, 63, 64, 65, 66, 67, 68, 69, 70, 71, 72, 73, 74, 75, 76, 77, 78, 79, 80, 81, 82, 83, 84, 85, 86, 87, 88, 89, 90, 91, 92, 93, 94, 95, 96, 97, 98, 99, 100, 101, 102, 103, 104, 105, 106, 107, 108, 109, 110, 111, 112, 113, 114, 115, 116, 117, 118, 119, 120, 121, 122, 123, 124, 125]⟩), (13, ⟨[(14, kI)], [6, 98, 99, 100, 101, 102, 103, 104, 105, 106, 107, 108, 109, 110, 111, 112, 113, 114, 115, 116, 117, 118, 119, 120, 121]⟩), (19, ⟨[(17, kI)], [6, 18, 19, 137, 138, 139, 140, 141, 142, 143, 144, 145, 146, 147, 148, 149, 150, 151, 152, 153]⟩)], [], [], [(3, [(3, 3, ⟨[(27, kB)], [25, 26]⟩), (7, 4, ⟨[(32, kB)], [29, 30, 31]⟩), (12, 3, ⟨[(36, kB)], [34, 35]⟩), (16, 3, ⟨[(40, kB)], [38, 39]⟩), (20, 3, ⟨[(44, kB)], [42, 43]⟩), (24, 3, ⟨[(48, kB)], [46, 47]⟩)]), (16, [(3, 4, ⟨[(78, kB)], [75, 76, 77]⟩), (8, 4, ⟨[(83, kB)], [80, 81, 82]⟩), (13, 13, ⟨[(97, kB)], [85, 86, 87, 88, 89, 90, 91, 92, 93, 94, 95, 96]⟩)]), (21, [(9, 9, ⟨[(121, kB)], [113, 114, 115, 116, 117, 118, 119, 120]⟩)]), (25, [(2, 4, ⟨[(136, kB)], [133, 134, 135]⟩)]), (33, [(5, 5, ⟨[(163, kB)], [159, 160, 161, 162]⟩)])]⟩ [.int .i64 a0, .int .i64 a1, .int .i64 a2] R w = sh3 a0 a1 a2 R w := by kernel_rfl
theorem call3 {a0 : Int} {a1 : Int} {a2 : Int} {w : World} {K : TK [kB] → World → Prop} (h : sh3 a0 a1 a2 (fun vs w' => ∃ t, encK [kB] t = vs ∧ K t w') w) : cl Pg 3 [.int .i64 a0, .int .i64 a1, .int .i64 a2] [kB] w K := cl_of Try.func3 (tie3 ..) h
/-- detent/detentlaw18.PoolTwice -/
def sh4 (a0 : Int) (a1 : Int) (R : List Value → World → Prop) (w : World) : Prop :=
 cl Pg 8 [] [kB] w fun (r1 : Bool × Unit) w2 =>
 cs (!r1.1) (
 R [.bool false] w2) (
 cl Pg 9 [.bool false, .int .i64 16, .int .i64 (w64 (1 + (w64 (Int.tmod a0 8)))), .int .i64 8] [kP, kI] w2 fun (r3 : Option Addr × Int × Unit) w4 =>
 lp [kI] w4 ((0 : Int), ()) fun (t5 : Int × Unit) J6 w7 =>
 cs (decide ((t5.1 : Int) < (w64 (1 + (w64 (Int.tmod a0 8))) : Int))) (
 cl Pg 10 [.pointer r3.1] [kI, kB] w7 fun (r8 : Int × Bool × Unit) w9 =>
 J6 (w64 (t5.1 + 1), ()) w9) (
 jn [kB] w7 (fun (t11 : Bool × Unit) w12 =>
 jn [kB] w12 (fun (t15 : Bool × Unit) w16 =>
 cl Pg 12 [.pointer r3.1, .int .i64 a1] [kI, kI] w16 fun (r18 : Int × Int × Unit) w19 =>
 cl Pg 12 [.pointer r3.1, .int .i64 a1] [kI, kI] w19 fun (r20 : Int × Int × Unit) w21 =>
 cs ((r20.2.1 : Int) != ((-17) : Int)) (
 R [.bool false] w21) (
 jn [kB] w21 (fun (t23 : Bool × Unit) w24 =>
 jn [kB] w24 (fun (t27 : Bool × Unit) w28 =>
 R [.bool t27.1] w28) fun J26 w29 =>
 cs t23.1 (
 cl Pg 11 [.pointer r3.1] [kI] w29 fun (r30 : Int × Unit) w31 =>
 J26 (((r30.1 : Int) == (1 : Int)) == t15.1, ()) w31) (
 J26 (false, ()) w29)) fun J22 w25 =>
 cs (((r18.2.1 : Int) == (0 : Int)) == t15.1) (
 jn [kB] w25 (fun (t33 : Bool × Unit) w34 =>
 J22 (t33.1, ()) w34) fun J32 w35 =>
 cs t15.1 (
 J32 (true, ()) w35) (
 J32 ((r18.2.1 : Int) == ((-17) : Int), ()) w35)) (
 J22 (false, ()) w25))) fun J14 w17 =>
 cs t11.1 (
 J14 ((Int.tmod a1 8 : Int) == (0 : Int), ()) w17) (
 J14 (false, ()) w17)) fun J10 w13 =>
 cs (decide ((a1 : Int) ≥ (16 : Int))) (
 J10 (decide ((a1 : Int) < (w64 (16 + (w64 (8 * (w64 (1 + (w64 (Int.tmod a0 8))))))) : Int)), ()) w13) (
 J10 (false, ()) w13)))
theorem tie4 (a0 : Int) (a1 : Int) (R : List Value → World → Prop) (w : World) : compF Pg Try.f4 ⟨[(2, ⟨[(8, kI)], [25, 26, 27, 28, 29, 30, 31]⟩)], [], [], [(9, [(3, 6, ⟨[(40, kB)], [35, 36, 37, 38, 39]⟩), (10, 4, ⟨[(45, kB)], [42, 43, 44]⟩)]), (14, [(5, 6, ⟨[(70, kB)], [65, 66, 67, 68, 69]⟩), (7, 3, ⟨[(69, kB)], [67, 68]⟩), (12, 6, ⟨[(77, kB)], [72, 73, 74, 75, 76]⟩)])]⟩ [.int .u8 a0, .int .i64 a1] R w = sh4 a0 a1 R w := by kernel_rfl
theorem call4 {a0 : Int} {a1 : Int} {w : World} {K : TK [kB] → World → Prop} (h : sh4 a0 a1 (fun vs w' => ∃ t, encK [kB] t = vs ∧ K t w') w) : cl Pg 4 [.int .u8 a0, .int .i64 a1] [kB] w K := cl_of Try.func4 (tie4 ..) h
/-- detent/detentlaw18.PoolLast -/
def sh5 (a0 : Sl) (R : List Value → World → Prop) (w : World) : Prop :=
 cl Pg 8 [] [kB] w fun (r1 : Bool × Unit) w2 =>
 cs (!r1.1) (
 R [.bool false] w2) (
 cs (decide (((a0.len : Int) : Int) > (8 : Int))) (
 R [.bool true] w2) (
 cl Pg 9 [.bool false, .int .i64 0, .int .i64 10, .int .i64 4] [kP, kI] w2 fun (r3 : Option Addr × Int × Unit) w4 =>
 lp [kS, kI] w4 (⟨none, 0, 0⟩, (0 : Int), ()) fun (t5 : Sl × Int × Unit) J6 w7 =>
 cs (decide ((t5.2.1 : Int) < (8 : Int))) (
 cl Pg 10 [.pointer r3.1] [kI, kB] w7 fun (r8 : Int × Bool × Unit) w9 =>
 al w9 3 [.int .i64 r8.1] fun b10 w11 =>
 ef Pg (Builtin.append_ #[27, 27] 27 #[vS t5.1, vS ⟨some ⟨b10, 0, none⟩, 1, 1⟩]) [kS] w11 fun (r12 : Sl × Unit) w13 =>
 J6 (r12.1, w64 (t5.2.1 + 1), ()) w13) (
 lp [kS, kS, kI] w7 (t5.1, ⟨none, 0, 0⟩, (0 : Int), ()) fun (t14 : Sl × Sl × Int × Unit) J15 w16 =>
 cs (decide ((t14.2.2.1 : Int) < ((a0.len : Int) : Int))) (
 cs (((t14.1.len : Int) : Int) == (0 : Int)) (
 R [.bool false] w16) (
 ix a0 t14.2.2.1 1 fun b17 o18 =>
 ldI w16 .u8 b17 o18 fun n19 =>
 ob ((t14.1.len : Int) ≠ 0) (
 ix t14.1 (Int.tmod (w64 (n19)) (t14.1.len : Int)) 1 fun b20 o21 =>
 ldI w16 .i64 b20 o21 fun n22 =>
 cl Pg 12 [.pointer r3.1, .int .i64 n22] [kI, kI] w16 fun (r23 : Int × Int × Unit) w24 =>
 cs ((r23.2.1 : Int) != (0 : Int)) (
 R [.bool false] w24) (
 ix t14.1 (Int.tmod (w64 (n19)) (t14.1.len : Int)) 1 fun b25 o26 =>
 ldI w24 .i64 b25 o26 fun n27 =>
 al w24 3 [.int .i64 n27] fun b28 w29 =>
 ef Pg (Builtin.append_ #[27, 27] 27 #[vS t14.2.1, vS ⟨some ⟨b28, 0, none⟩, 1, 1⟩]) [kS] w29 fun (r30 : Sl × Unit) w31 =>
 dr w31 fun w32 =>
 sb t14.1 0 (Int.tmod (w64 (n19)) (t14.1.len : Int)) t14.1.cap 1 fun s33 =>
 sb t14.1 (w64 ((Int.tmod (w64 (n19)) (t14.1.len : Int)) + 1)) t14.1.len t14.1.cap 1 fun s34 =>
 al w32 3 [] fun b35 w36 =>
 ef Pg (Builtin.append_ #[27, 27] 27 #[vS ⟨some ⟨b35, 0, none⟩, 0, 0⟩, vS s33]) [kS] w36 fun (r37 : Sl × Unit) w38 =>
 ef Pg (Builtin.append_ #[27, 27] 27 #[vS r37.1, vS s34]) [kS] w38 fun (r39 : Sl × Unit) w40 =>
 J15 (r39.1, r30.1, w64 (t14.2.2.1 + 1), ()) w40)))) (
 lp [kI] w16 (w64 ((t14.2.1.len : Int) - 1), ()) fun (t41 : Int × Unit) J42 w43 =>
 cs (decide ((t41.1 : Int) ≥ (0 : Int))) (
 cl Pg 10 [.pointer r3.1] [kI, kB] w43 fun (r44 : Int × Bool × Unit) w45 =>
 jn [kB] w45 (fun (t47 : Bool × Unit) w48 =>
 cs t47.1 (
 R [.bool false] w48) (
 J42 (w64 (t41.1 - 1), ()) w48)) fun J46 w49 =>
 cs (!r44.2.1) (
 J46 (true, ()) w49) (
 ix t14.2.1 t41.1 1 fun b50 o51 =>
 ldI w49 .i64 b50 o51 fun n52 =>
 J46 ((r44.1 : Int) != (n52 : Int), ()) w49)) (
 cl Pg 10 [.pointer r3.1] [kI, kB] w43 fun (r53 : Int × Bool × Unit) w54 =>
 cl Pg 10 [.pointer r3.1] [kI, kB] w54 fun (r55 : Int × Bool × Unit) w56 =>
 cl Pg 10 [.pointer r3.1] [kI, kB] w56 fun (r57 : Int × Bool × Unit) w58 =>
 jn [kB] w58 (fun (t60 : Bool × Unit) w61 =>
 jn [kB] w61 (fun (t64 : Bool × Unit) w65 =>
 jn [kB] w65 (fun (t68 : Bool × Unit) w69 =>
 jn [kB] w69 (fun (t72 : Bool × Unit) w73 =>
 R [.bool t72.1] w73) fun J71 w74 =>
 cs t68.1 (
 J71 ((r55.1 : Int) == (36 : Int), ()) w74) (
 J71 (false, ()) w74)) fun J67 w70 =>
 cs t64.1 (
 J67 ((r53.1 : Int) == (32 : Int), ()) w70) (
 J67 (false, ()) w70)) fun J63 w66 =>
 cs t60.1 (
 J63 (!r57.2.1, ()) w66) (
 J63 (false, ()) w66)) fun J59 w62 =>
 cs r53.2.1 (
 J59 (r55.2.1, ()) w62) (
 J59 (false, ()) w62))))))
theorem tie5 (a0 : Sl) (R : List Value → World → Prop) (w : World) : compF Pg Try.f5 ⟨[(3, ⟨[(5, kS), (6, kI)], [7, 8, 32, 33, 34, 35, 36, 37, 38, 39, 40, 41, 42, 43, 44]⟩), (7, ⟨[(5, kS), (9, kS), (10, kI)], [2, 11, 12, 13, 45, 46, 47, 48, 49, 50, 51, 52, 53, 54, 55, 56, 57, 58, 59, 60, 61, 62, 63, 64, 65, 66, 67, 68, 69, 70, 71, 72, 73, 74, 75, 76, 77, 78, 79, 80, 81, 82, 83, 84, 85, 86, 87, 88, 89]⟩), (13, ⟨[(14, kI)], [2, 15, 16, 93, 94, 95, 96, 97, 98, 99, 100, 101, 102, 103, 104, 105, 106, 107, 108, 109, 110, 111]⟩)], [], [(23, .l [(1, []), (2, []), (3, []), (5, []), (6, []), (7, []), (8, []), (0, []), (4, [0, 3, 1, 2]), (9, [4, 8, 0, 3, 5, 7, 1, 2, 6]), (10, [])])], [(28, [(3, 7, ⟨[(111, kB)], [105, 106, 107, 108, 109, 110]⟩)]), (33, [(2, 2, ⟨[(130, kB)], [129]⟩), (5, 3, ⟨[(134, kB)], [132, 133]⟩), (9, 3, ⟨[(138, kB)], [136, 137]⟩), (13, 3, ⟨[(142, kB)], [140, 141]⟩)])]⟩ [vS a0] R w = sh5 a0 R w := by kernel_rfl
theorem call5 {a0 : Sl} {w : World} {K : TK [kB] → World → Prop} (h : sh5 a0 (fun vs w' => ∃ t, encK [kB] t = vs ∧ K t w') w) : cl Pg 5 [vS a0] [kB] w K := cl_of Try.func5 (tie5 ..) h
/-- (*detent/order.Line).Len -/
def sh15 (a0 : Option Addr) (R : List Value → World → Prop) (w : World) : Prop :=
 nn a0 fun b1 o2 =>
 ldS w b1 o2 fun s3 =>
 R [.int .i64 (s3.len : Int)] w
theorem tie15 (a0 : Option Addr) (R : List Value → World → Prop) (w : World) : compF Pg Try.f15 ⟨[], [], [], []⟩ [.pointer a0] R w = sh15 a0 R w := by kernel_rfl
theorem call15 {a0 : Option Addr} {w : World} {K : TK [kI] → World → Prop} (h : sh15 a0 (fun vs w' => ∃ t, encK [kI] t = vs ∧ K t w') w) : cl Pg 15 [.pointer a0] [kI] w K := cl_of Try.func15 (tie15 ..) h
/-- detent/detentlaw18.PoolHands -/
def sh6 (a0 : Int) (a1 : Int) (R : List Value → World → Prop) (w : World) : Prop :=
 cl Pg 8 [] [kB] w fun (r1 : Bool × Unit) w2 =>
 cs (!r1.1) (
 R [.bool false] w2) (
 cl Pg 9 [.bool false, .int .i64 0, .int .i64 (w64 (1 + (w64 (Int.tmod a0 8)))), .int .i64 4] [kP, kI] w2 fun (r3 : Option Addr × Int × Unit) w4 =>
 lp [kI] w4 ((0 : Int), ()) fun (t5 : Int × Unit) J6 w7 =>
 cs (decide ((t5.1 : Int) < (w64 (1 + (w64 (Int.tmod a0 8))) : Int))) (
 cl Pg 10 [.pointer r3.1] [kI, kB] w7 fun (r8 : Int × Bool × Unit) w9 =>
 J6 (w64 (t5.1 + 1), ()) w9) (
 lp [kI] w7 ((1 : Int), ()) fun (t10 : Int × Unit) J11 w12 =>
 cs (decide ((t10.1 : Int) ≤ (w64 (Int.tmod a1 9) : Int))) (
 cl Pg 14 [.pointer r3.1, .int .i64 t10.1, .int .i64 1] [kI, kB, kI] w12 fun (r13 : Int × Bool × Int × Unit) w14 =>
 jn [kB] w14 (fun (t16 : Bool × Unit) w17 =>
 cs t16.1 (
 R [.bool false] w17) (
 J11 (w64 (t10.1 + 1), ()) w17)) fun J15 w18 =>
 cs r13.2.1 (
 J15 (true, ()) w18) (
 J15 ((r13.2.2.1 : Int) != (0 : Int), ()) w18)) (
 lp [kI] w12 ((0 : Int), ()) fun (t19 : Int × Unit) J20 w21 =>
 cs (decide ((t19.1 : Int) < (w64 ((w64 (1 + (w64 (Int.tmod a0 8)))) + (w64 (Int.tmod a1 9))) : Int))) (
 cl Pg 13 [.pointer r3.1] [kS] w21 fun (r22 : Sl × Unit) w23 =>
 cs (((r22.1.len : Int) : Int) == (0 : Int)) (
 R [.bool false] w23) (
 ix r22.1 0 1 fun b24 o25 =>
 ldI w23 .i64 b24 o25 fun n26 =>
 cl Pg 12 [.pointer r3.1, .int .i64 n26] [kI, kI] w23 fun (r27 : Int × Int × Unit) w28 =>
 jn [kI] w28 (fun (t30 : Int × Unit) w31 =>
 jn [kB] w31 (fun (t34 : Bool × Unit) w35 =>
 jn [kB] w35 (fun (t38 : Bool × Unit) w39 =>
 jn [kB] w39 (fun (t42 : Bool × Unit) w43 =>
 cs t42.1 (
 R [.bool false] w43) (
 J20 (w64 (t19.1 + 1), ()) w43)) fun J41 w44 =>
 cs t38.1 (
 J41 (true, ()) w44) (
 jn [kB] w44 (fun (t46 : Bool × Unit) w47 =>
 J41 (t46.1, ()) w47) fun J45 w48 =>
 cs (decide ((t19.1 : Int) < (w64 (Int.tmod a1 9) : Int))) (
 cl Pg 11 [.pointer r3.1] [kI] w48 fun (r49 : Int × Unit) w50 =>
 J45 ((r49.1 : Int) != (0 : Int), ()) w50) (
 J45 (false, ()) w48))) fun J37 w40 =>
 cs t34.1 (
 J37 (true, ()) w40) (
 cl Pg 11 [.pointer r3.1] [kI] w40 fun (r51 : Int × Unit) w52 =>
 jn [kB] w52 (fun (t54 : Bool × Unit) w55 =>
 J37 (t54.1, ()) w55) fun J53 w56 =>
 cs ((r51.1 : Int) != (w64 ((w64 (t19.1 + 1)) - (w64 (Int.tmod a1 9))) : Int)) (
 J53 (decide ((t19.1 : Int) ≥ (w64 (Int.tmod a1 9) : Int)), ()) w56) (
 J53 (false, ()) w56))) fun J33 w36 =>
 cs ((r27.1 : Int) != (t30.1 : Int)) (
 J33 (true, ()) w36) (
 J33 ((r27.2.1 : Int) != (0 : Int), ()) w36)) fun J29 w32 =>
 cs (decide ((t19.1 : Int) < (w64 (Int.tmod a1 9) : Int))) (
 J29 (w64 (t19.1 + 1), ()) w32) (
 J29 ((0 : Int), ()) w32))) (
 cl Pg 13 [.pointer r3.1] [kS] w21 fun (r57 : Sl × Unit) w58 =>
 jn [kB] w58 (fun (t60 : Bool × Unit) w61 =>
 R [.bool t60.1] w61) fun J59 w62 =>
 cs (((r57.1.len : Int) : Int) == (0 : Int)) (
 nn r3.1 fun b63 o64 =>
 ldP w62 b63 o64 fun p65 =>
 nn p65 fun b66 o67 =>
 cl Pg 15 [.pointer (some ⟨b66, o67, none⟩)] [kI] w62 fun (r68 : Int × Unit) w69 =>
 J59 ((r68.1 : Int) == (0 : Int), ()) w69) (
 J59 (false, ()) w62)))))
theorem tie6 (a0 : Int) (a1 : Int) (R : List Value → World → Prop) (w : World) : compF Pg Try.f6 ⟨[(2, ⟨[(9, kI)], [33, 34, 35, 36, 37, 38, 39]⟩), (6, ⟨[(10, kI)], [4, 11, 12, 13, 40, 41, 42, 43, 44, 45, 46, 47, 48, 49, 50, 51, 52, 53, 54, 55, 56]⟩), (11, ⟨[(14, kI)], [4, 15, 16, 17, 18, 57, 58, 59, 60, 61, 62, 63, 64, 65, 66, 67, 68, 69, 70, 71, 72, 73, 74, 75, 76, 77, 78, 79, 80, 81, 82, 83, 84, 85, 86, 87, 88, 89, 90, 91, 92, 93, 94, 95, 96, 97, 98, 99, 100, 101, 102, 103, 104, 105, 106, 107, 108, 109, 110, 111, 112]⟩), (15, ⟨[(18, kI)], [80, 81]⟩)], [], [], [(14, [(2, 3, ⟨[(56, kB)], [54, 55]⟩)]), (26, [(4, 3, ⟨[(88, kB)], [86, 87]⟩), (8, 13, ⟨[(102, kB)], [90, 91, 92, 93, 94, 95, 96, 97, 98, 99, 100, 101]⟩), (16, 4, ⟨[(101, kB)], [98, 99, 100]⟩), (22, 9, ⟨[(112, kB)], [104, 105, 106, 107, 108, 109, 110, 111]⟩), (26, 4, ⟨[(111, kB)], [108, 109, 110]⟩)]), (28, [(5, 9, ⟨[(126, kB)], [118, 119, 120, 121, 122, 123, 124, 125]⟩)])]⟩ [.int .u8 a0, .int .u8 a1] R w = sh6 a0 a1 R w := by kernel_rfl
theorem call6 {a0 : Int} {a1 : Int} {w : World} {K : TK [kB] → World → Prop} (h : sh6 a0 a1 (fun vs w' => ∃ t, encK [kB] t = vs ∧ K t w') w) : cl Pg 6 [.int .u8 a0, .int .u8 a1] [kB] w K := cl_of Try.func6 (tie6 ..) h
/-- detent/detentref1.Align -/
def sh39 (a0 : Int) (a1 : Int) (R : List Value → World → Prop) (w : World) : Prop :=
 jn [kB] w (fun (t2 : Bool × Unit) w3 =>
 jn [kB] w3 (fun (t6 : Bool × Unit) w7 =>
 jn [kB] w7 (fun (t10 : Bool × Unit) w11 =>
 jn [kB] w11 (fun (t14 : Bool × Unit) w15 =>
 cs t14.1 (
 R [.int .i64 a0] w15) (
 ob (a1 ≠ 0) (
 R [.int .i64 (w64 ((w64 (a0 + a1)) - (Int.tmod a0 a1)))] w15))) fun J13 w16 =>
 cs t10.1 (
 J13 (true, ()) w16) (
 ob (a1 ≠ 0) (
 J13 ((Int.tmod a0 a1 : Int) == (0 : Int), ()) w16))) fun J9 w12 =>
 cs t6.1 (
 J9 (true, ()) w12) (
 J9 (decide ((a1 : Int) > (4096 : Int)), ()) w12)) fun J5 w8 =>
 cs t2.1 (
 J5 (true, ()) w8) (
 J5 (decide ((a1 : Int) < (1 : Int)), ()) w8)) fun J1 w4 =>
 cs (decide ((a0 : Int) < (0 : Int))) (
 J1 (true, ()) w4) (
 J1 (decide ((a0 : Int) > (1073741824 : Int)), ()) w4)
theorem tie39 (a0 : Int) (a1 : Int) (R : List Value → World → Prop) (w : World) : compF Pg Try.f39 ⟨[], [], [], [(1, [(3, 3, ⟨[(10, kB)], [8, 9]⟩), (7, 3, ⟨[(14, kB)], [12, 13]⟩), (11, 3, ⟨[(18, kB)], [16, 17]⟩), (15, 5, ⟨[(24, kB)], [20, 21, 22, 23]⟩)])]⟩ [.int .i64 a0, .int .i64 a1] R w = sh39 a0 a1 R w := by kernel_rfl
theorem call39 {a0 : Int} {a1 : Int} {w : World} {K : TK [kI] → World → Prop} (h : sh39 a0 a1 (fun vs w' => ∃ t, encK [kI] t = vs ∧ K t w') w) : cl Pg 39 [.int .i64 a0, .int .i64 a1] [kI] w K := cl_of Try.func39 (tie39 ..) h
/-- detent/detentref18.New -/
def sh16 (a0 : Bool) (a1 : Int) (a2 : Int) (a3 : Int) (R : List Value → World → Prop) (w : World) : Prop :=
 jn [kB] w (fun (t2 : Bool × Unit) w3 =>
 jn [kB] w3 (fun (t6 : Bool × Unit) w7 =>
 jn [kB] w7 (fun (t10 : Bool × Unit) w11 =>
 jn [kB] w11 (fun (t14 : Bool × Unit) w15 =>
 jn [kB] w15 (fun (t18 : Bool × Unit) w19 =>
 jn [kB] w19 (fun (t22 : Bool × Unit) w23 =>
 jn [kB] w23 (fun (t26 : Bool × Unit) w27 =>
 cs t26.1 (
 R [.pointer none, .int .i64 (-17)] w27) (
 al w27 82 [.bool a0, .slice none 0 0] fun b29 w30 =>
 al w30 59 [.pointer (some ⟨b29, 0, none⟩), .int .i64 a1, .int .i64 a2, .int .i64 a3, .slice none 0 0, .int .i64 0, .slice none 0 0] fun b31 w32 =>
 R [.pointer (some ⟨b31, 0, none⟩), .int .i64 0] w32)) fun J25 w28 =>
 cs t22.1 (
 J25 (true, ()) w28) (
 cl Pg 39 [.int .i64 a3, .int .i64 4] [kI] w28 fun (r33 : Int × Unit) w34 =>
 J25 (decide ((w64 (a1 + (w64 (a2 * r33.1))) : Int) > (65536 : Int)), ()) w34)) fun J21 w24 =>
 cs t18.1 (
 J21 (true, ()) w24) (
 J21 ((Int.tmod a1 4 : Int) != (0 : Int), ()) w24)) fun J17 w20 =>
 cs t14.1 (
 J17 (true, ()) w20) (
 J17 (decide ((a1 : Int) > (65536 : Int)), ()) w20)) fun J13 w16 =>
 cs t10.1 (
 J13 (true, ()) w16) (
 J13 (decide ((a1 : Int) < (0 : Int)), ()) w16)) fun J9 w12 =>
 cs t6.1 (
 J9 (true, ()) w12) (
 J9 (decide ((a3 : Int) > (4096 : Int)), ()) w12)) fun J5 w8 =>
 cs t2.1 (
 J5 (true, ()) w8) (
 J5 (decide ((a3 : Int) < (1 : Int)), ()) w8)) fun J1 w4 =>
 cs (decide ((a2 : Int) < (1 : Int))) (
 J1 (true, ()) w4) (
 J1 (decide ((a2 : Int) > (256 : Int)), ()) w4)
theorem tie16 (a0 : Bool) (a1 : Int) (a2 : Int) (a3 : Int) (R : List Value → World → Prop) (w : World) : compF Pg Try.f16 ⟨[], [], [], [(1, [(3, 3, ⟨[(15, kB)], [13, 14]⟩), (7, 3, ⟨[(19, kB)], [17, 18]⟩), (11, 3, ⟨[(23, kB)], [21, 22]⟩), (15, 3, ⟨[(27, kB)], [25, 26]⟩), (19, 3, ⟨[(31, kB)], [29, 30]⟩), (23, 4, ⟨[(36, kB)], [33, 34, 35]⟩), (28, 8, ⟨[(45, kB)], [38, 39, 40, 41, 42, 43, 44]⟩)])]⟩ [.bool a0, .int .i64 a1, .int .i64 a2, .int .i64 a3] R w = sh16 a0 a1 a2 a3 R w := by kernel_rfl
theorem call16 {a0 : Bool} {a1 : Int} {a2 : Int} {a3 : Int} {w : World} {K : TK [kP, kI] → World → Prop} (h : sh16 a0 a1 a2 a3 (fun vs w' => ∃ t, encK [kP, kI] t = vs ∧ K t w') w) : cl Pg 16 [.bool a0, .int .i64 a1, .int .i64 a2, .int .i64 a3] [kP, kI] w K := cl_of Try.func16 (tie16 ..) h
/-- (*detent/detentref18.Pool).have -/
def sh41 (a0 : Option Addr) (a1 : Int) (R : List Value → World → Prop) (w : World) : Prop :=
 nn a0 fun b1 o2 =>
 ldS w b1 (o2 + 6) fun s3 =>
 lp [kI] w ((s3.len : Int), ()) fun (t4 : Int × Unit) J5 w6 =>
 jn [kB] w6 (fun (t8 : Bool × Unit) w9 =>
 cs t8.1 (
 J5 (w64 (t4.1 - 1), ()) w9) (
 al w9 3 [] fun b11 w12 =>
 nn a0 fun b13 o14 =>
 ldS w12 b13 (o14 + 6) fun s15 =>
 sb s15 0 t4.1 s15.cap 1 fun s16 =>
 ef Pg (Builtin.append_ #[27, 27] 27 #[vS ⟨some ⟨b11, 0, none⟩, 0, 0⟩, vS s16]) [kS] w12 fun (r17 : Sl × Unit) w18 =>
 al w18 3 [.int .i64 a1] fun b19 w20 =>
 ef Pg (Builtin.append_ #[27, 27] 27 #[vS r17.1, vS ⟨some ⟨b19, 0, none⟩, 1, 1⟩]) [kS] w20 fun (r21 : Sl × Unit) w22 =>
 nn a0 fun b23 o24 =>
 ldS w22 b23 (o24 + 6) fun s25 =>
 sb s25 t4.1 s25.len s25.cap 1 fun s26 =>
 ef Pg (Builtin.append_ #[27, 27] 27 #[vS r21.1, vS s26]) [kS] w22 fun (r27 : Sl × Unit) w28 =>
 nn a0 fun b29 o30 =>
 st1 w28 b29 (o30 + 6) (vS r27.1) fun w31 =>
 R [.int .i64 a1] w31)) fun J7 w10 =>
 cs (decide ((t4.1 : Int) > (0 : Int))) (
 nn a0 fun b32 o33 =>
 ldS w10 b32 (o33 + 6) fun s34 =>
 ix s34 (w64 (t4.1 - 1)) 1 fun b35 o36 =>
 ldI w10 .i64 b35 o36 fun n37 =>
 J7 (decide ((n37 : Int) > (a1 : Int)), ()) w10) (
 J7 (false, ()) w10)
theorem tie41 (a0 : Option Addr) (a1 : Int) (R : List Value → World → Prop) (w : World) : compF Pg Try.f41 ⟨[(1, ⟨[(5, kI)], [12, 13, 14, 15, 16, 17, 18, 19, 20, 21, 22, 23, 24, 25, 26, 27]⟩)], [], [], [(2, [(3, 11, ⟨[(25, kB)], [15, 16, 17, 18, 19, 20, 21, 22, 23, 24]⟩)])]⟩ [.pointer a0, .int .i64 a1] R w = sh41 a0 a1 R w := by kernel_rfl
theorem call41 {a0 : Option Addr} {a1 : Int} {w : World} {K : TK [kI] → World → Prop} (h : sh41 a0 a1 (fun vs w' => ∃ t, encK [kI] t = vs ∧ K t w') w) : cl Pg 41 [.pointer a0, .int .i64 a1] [kI] w K := cl_of Try.func41 (tie41 ..) h
/-- (*detent/detentref18.Pool).Step -/
def sh42 (a0 : Option Addr) (R : List Value → World → Prop) (w : World) : Prop :=
 nn a0 fun b1 o2 =>
 ldI w .i64 b1 (o2 + 3) fun n3 =>
 cl Pg 39 [.int .i64 n3, .int .i64 4] [kI] w fun (r4 : Int × Unit) w5 =>
 R [.int .i64 r4.1] w5
theorem tie42 (a0 : Option Addr) (R : List Value → World → Prop) (w : World) : compF Pg Try.f42 ⟨[], [], [], []⟩ [.pointer a0] R w = sh42 a0 R w := by kernel_rfl
theorem call42 {a0 : Option Addr} {w : World} {K : TK [kI] → World → Prop} (h : sh42 a0 (fun vs w' => ∃ t, encK [kI] t = vs ∧ K t w') w) : cl Pg 42 [.pointer a0] [kI] w K := cl_of Try.func42 (tie42 ..) h
/-- (*detent/detentref18.Pool).Poll -/
def sh18 (a0 : Option Addr) (R : List Value → World → Prop) (w : World) : Prop :=
 nn a0 fun b1 o2 =>
 ldS w b1 (o2 + 4) fun s3 =>
 cs (decide (((s3.len : Int) : Int) > (0 : Int))) (
 dr w fun w4 =>
 nn a0 fun b5 o6 =>
 ldS w4 b5 (o6 + 4) fun s7 =>
 nn a0 fun b8 o9 =>
 ldS w4 b8 (o9 + 4) fun s10 =>
 ix s7 (w64 ((s10.len : Int) - 1)) 1 fun b11 o12 =>
 ldI w4 .i64 b11 o12 fun n13 =>
 dr w4 fun w14 =>
 nn a0 fun b15 o16 =>
 ldS w14 b15 (o16 + 4) fun s17 =>
 nn a0 fun b18 o19 =>
 ldS w14 b18 (o19 + 4) fun s20 =>
 sb s17 0 (w64 ((s20.len : Int) - 1)) s17.cap 1 fun s21 =>
 al w14 3 [] fun b22 w23 =>
(w23.cell? ⟨b18, o19 + 4, none⟩ = some (vS s20)) ∧ (
(w23.cell? ⟨b15, o16 + 4, none⟩ = some (vS s17)) ∧ (
 ef Pg (Builtin.append_ #[27, 27] 27 #[vS ⟨some ⟨b22, 0, none⟩, 0, 0⟩, vS s21]) [kS] w23 fun (r24 : Sl × Unit) w25 =>
 nn a0 fun b26 o27 =>
 st1 w25 b26 (o27 + 4) (vS r24.1) fun w28 =>
 cl Pg 41 [.pointer a0, .int .i64 n13] [kI] w28 fun (r29 : Int × Unit) w30 =>
 R [.int .i64 r29.1, .bool true] w30))) (
 dr w fun w31 =>
 nn a0 fun b32 o33 =>
 ldI w31 .i64 b32 (o33 + 5) fun n34 =>
 nn a0 fun b35 o36 =>
 ldI w31 .i64 b35 (o36 + 2) fun n37 =>
 cs (decide ((n34 : Int) < (n37 : Int))) (
 nn a0 fun b38 o39 =>
 ldI w31 .i64 b38 (o39 + 5) fun n40 =>
 nn a0 fun b41 o42 =>
 st1 w31 b41 (o42 + 5) (.int .i64 (w64 (n40 + 1))) fun w43 =>
 dr w43 fun w44 =>
 nn a0 fun b45 o46 =>
 ldI w44 .i64 b45 (o46 + 1) fun n47 =>
 nn a0 fun b48 o49 =>
 ldI w44 .i64 b48 (o49 + 5) fun n50 =>
 cl Pg 42 [.pointer a0] [kI] w44 fun (r51 : Int × Unit) w52 =>
(w52.cell? ⟨b48, o49 + 5, none⟩ = some (.int .i64 n50)) ∧ (
(w52.cell? ⟨b45, o46 + 1, none⟩ = some (.int .i64 n47)) ∧ (
 cl Pg 41 [.pointer a0, .int .i64 (w64 (n47 + (w64 ((w64 (n50 - 1)) * r51.1))))] [kI] w52 fun (r53 : Int × Unit) w54 =>
 R [.int .i64 r53.1, .bool true] w54))) (
 R [.int .i64 0, .bool false] w31))
theorem tie18 (a0 : Option Addr) (R : List Value → World → Prop) (w : World) : compF Pg Try.f18 ⟨[], [], [(2, .l [(0, []), (1, []), (2, []), (3, []), (4, []), (5, []), (6, []), (7, []), (8, []), (9, []), (10, []), (11, []), (12, [])]), (3, .l [(0, []), (2, []), (3, []), (4, []), (5, []), (6, []), (7, []), (8, []), (9, []), (10, []), (11, []), (12, []), (1, []), (13, [1, 12, 5, 11, 4, 10, 3, 9, 2, 8, 7, 6]), (14, []), (15, []), (16, [15, 13, 0, 1, 2, 3, 4, 5, 6, 7, 8, 9, 10, 11, 12, 14])]), (5, .l [(0, []), (1, []), (2, []), (3, []), (4, []), (5, []), (6, []), (7, []), (8, [])]), (7, .l [(0, []), (1, []), (2, []), (3, []), (4, []), (5, []), (6, []), (7, []), (8, []), (9, []), (10, []), (11, [10]), (12, []), (13, []), (14, [0, 13, 11, 4, 12, 10, 3, 9, 2, 8, 1, 7, 6, 5]), (15, []), (16, [])])], []⟩ [.pointer a0] R w = sh18 a0 R w := by kernel_rfl
theorem call18 {a0 : Option Addr} {w : World} {K : TK [kI, kB] → World → Prop} (h : sh18 a0 (fun vs w' => ∃ t, encK [kI, kB] t = vs ∧ K t w') w) : cl Pg 18 [.pointer a0] [kI, kB] w K := cl_of Try.func18 (tie18 ..) h
/-- (*detent/detentref4.Queue).At -/
def sh46 (a0 : Option Addr) (a1 : Int) (R : List Value → World → Prop) (w : World) : Prop :=
 lp [kI] w ((0 : Int), ()) fun (t1 : Int × Unit) J2 w3 =>
 nn a0 fun b4 o5 =>
 ldS w3 b4 (o5 + 1) fun s6 =>
 cs (decide ((t1.1 : Int) < ((s6.len : Int) : Int))) (
 nn a0 fun b7 o8 =>
 ldS w3 b7 (o8 + 1) fun s9 =>
 ix s9 t1.1 2 fun b10 o11 =>
 ldI w3 .i64 b10 o11 fun n12 =>
 cs ((n12 : Int) == (a1 : Int)) (
 R [.int .i64 t1.1] w3) (
 J2 (w64 (t1.1 + 1), ()) w3)) (
 R [.int .i64 (-1)] w3)
theorem tie46 (a0 : Option Addr) (a1 : Int) (R : List Value → World → Prop) (w : World) : compF Pg Try.f46 ⟨[(1, ⟨[(5, kI)], [4, 6, 7, 8, 9, 10, 11, 12, 13, 14, 15, 16, 17, 18, 19, 20, 21, 22, 23, 24, 25]⟩)], [], [], []⟩ [.pointer a0, .int .i64 a1] R w = sh46 a0 a1 R w := by kernel_rfl
theorem call46 {a0 : Option Addr} {a1 : Int} {w : World} {K : TK [kI] → World → Prop} (h : sh46 a0 a1 (fun vs w' => ∃ t, encK [kI] t = vs ∧ K t w') w) : cl Pg 46 [.pointer a0, .int .i64 a1] [kI] w K := cl_of Try.func46 (tie46 ..) h
/-- (*detent/detentref4.Queue).put -/
def sh49 (a0 : Option Addr) (a1 : (Int × Int × Unit)) (R : List Value → World → Prop) (w : World) : Prop :=
 al w 84 [.int .i64 a1.1, .int .i64 a1.2.1] fun b1 w2 =>
 nn a0 fun b3 o4 =>
 ldS w2 b3 (o4 + 1) fun s5 =>
 nn a0 fun b6 o7 =>
 ldB w2 b6 o7 fun b8 =>
 jn [kI] w2 (fun (t10 : Int × Unit) w11 =>
 dr w11 fun w13 =>
 nn a0 fun b14 o15 =>
 ldS w13 b14 (o15 + 1) fun s16 =>
 sb s16 0 t10.1 s16.cap 2 fun s17 =>
 ldI w13 .i64 b1 0 fun n18 =>
 ldI w13 .i64 b1 (0 + 1) fun n19 =>
(
 al w13 84 [] fun b20 w21 =>
(w21.cell? ⟨b1, 0, none⟩ = some (.int .i64 n18) ∧ w21.cell? ⟨b1, 0 + 1, none⟩ = some (.int .i64 n19)) ∧ (
(w21.cell? ⟨b14, o15 + 1, none⟩ = some (vS s16)) ∧ (
(
 ef Pg (Builtin.append_ #[80, 80] 80 #[vS ⟨some ⟨b20, 0, none⟩, 0, 0⟩, vS s17]) [kS] w21 fun (r22 : Sl × Unit) w23 =>
(w23.cell? ⟨b1, 0, none⟩ = some (.int .i64 n18) ∧ w23.cell? ⟨b1, 0 + 1, none⟩ = some (.int .i64 n19)) ∧ (
 al w23 84 [.int .i64 n18, .int .i64 n19] fun b24 w25 =>
(w25.cell? ⟨b14, o15 + 1, none⟩ = some (vS s16)) ∧ (
 ef Pg (Builtin.append_ #[80, 80] 80 #[vS r22.1, vS ⟨some ⟨b24, 0, none⟩, 1, 1⟩]) [kS] w25 fun (r26 : Sl × Unit) w27 =>
 nn a0 fun b28 o29 =>
 ldS w27 b28 (o29 + 1) fun s30 =>
 sb s30 t10.1 s30.len s30.cap 2 fun s31 =>
 ef Pg (Builtin.append_ #[80, 80] 80 #[vS r26.1, vS s31]) [kS] w27 fun (r32 : Sl × Unit) w33 =>
 nn a0 fun b34 o35 =>
 st1 w33 b34 (o35 + 1) (vS r32.1) fun w36 =>
 R [] w36))) ∧ (
 al w21 84 [.int .i64 n18, .int .i64 n19] fun b37 w38 =>
(w38.cell? ⟨b14, o15 + 1, none⟩ = some (vS s16)) ∧ (
 ef Pg (Builtin.append_ #[80, 80] 80 #[vS ⟨some ⟨b20, 0, none⟩, 0, 0⟩, vS s17]) [kS] w38 fun (r39 : Sl × Unit) w40 =>
(w40.cell? ⟨b1, 0, none⟩ = some (.int .i64 n18) ∧ w40.cell? ⟨b1, 0 + 1, none⟩ = some (.int .i64 n19)) ∧ (
 ef Pg (Builtin.append_ #[80, 80] 80 #[vS r39.1, vS ⟨some ⟨b37, 0, none⟩, 1, 1⟩]) [kS] w40 fun (r41 : Sl × Unit) w42 =>
 nn a0 fun b43 o44 =>
 ldS w42 b43 (o44 + 1) fun s45 =>
 sb s45 t10.1 s45.len s45.cap 2 fun s46 =>
 ef Pg (Builtin.append_ #[80, 80] 80 #[vS r41.1, vS s46]) [kS] w42 fun (r47 : Sl × Unit) w48 =>
 nn a0 fun b49 o50 =>
 st1 w48 b49 (o50 + 1) (vS r47.1) fun w51 =>
 R [] w51)))))) ∧ (
 al w13 84 [.int .i64 n18, .int .i64 n19] fun b52 w53 =>
(w53.cell? ⟨b14, o15 + 1, none⟩ = some (vS s16)) ∧ (
 al w53 84 [] fun b54 w55 =>
(w55.cell? ⟨b1, 0, none⟩ = some (.int .i64 n18) ∧ w55.cell? ⟨b1, 0 + 1, none⟩ = some (.int .i64 n19)) ∧ (
(w55.cell? ⟨b14, o15 + 1, none⟩ = some (vS s16)) ∧ (
 ef Pg (Builtin.append_ #[80, 80] 80 #[vS ⟨some ⟨b54, 0, none⟩, 0, 0⟩, vS s17]) [kS] w55 fun (r56 : Sl × Unit) w57 =>
(w57.cell? ⟨b1, 0, none⟩ = some (.int .i64 n18) ∧ w57.cell? ⟨b1, 0 + 1, none⟩ = some (.int .i64 n19)) ∧ (
 ef Pg (Builtin.append_ #[80, 80] 80 #[vS r56.1, vS ⟨some ⟨b52, 0, none⟩, 1, 1⟩]) [kS] w57 fun (r58 : Sl × Unit) w59 =>
 nn a0 fun b60 o61 =>
 ldS w59 b60 (o61 + 1) fun s62 =>
 sb s62 t10.1 s62.len s62.cap 2 fun s63 =>
 ef Pg (Builtin.append_ #[80, 80] 80 #[vS r58.1, vS s63]) [kS] w59 fun (r64 : Sl × Unit) w65 =>
 nn a0 fun b66 o67 =>
 st1 w65 b66 (o67 + 1) (vS r64.1) fun w68 =>
 R [] w68)))))) fun J9 w12 =>
 cs b8 (
 lp [kI] w12 ((s5.len : Int), ()) fun (t69 : Int × Unit) J70 w71 =>
 dr w71 fun w72 =>
 jn [kB] w72 (fun (t74 : Bool × Unit) w75 =>
 cs t74.1 (
 J70 (w64 (t69.1 - 1), ()) w75) (
 J9 (t69.1, ()) w75)) fun J73 w76 =>
 cs (decide ((t69.1 : Int) > (0 : Int))) (
 nn a0 fun b77 o78 =>
 ldS w76 b77 (o78 + 1) fun s79 =>
 ix s79 (w64 (t69.1 - 1)) 2 fun b80 o81 =>
 ldI w76 .i64 b80 (o81 + 1) fun n82 =>
 ldI w76 .i64 b1 (0 + 1) fun n83 =>
 J73 (decide ((n82 : Int) > (n83 : Int)), ()) w76) (
 J73 (false, ()) w76)) (
 J9 ((s5.len : Int), ()) w12)
theorem tie49 (a0 : Option Addr) (a1 : (Int × Int × Unit)) (R : List Value → World → Prop) (w : World) : compF Pg Try.f49 ⟨[(0, ⟨[(4, kI)], [15, 16, 17, 18, 19, 20, 21, 22, 23, 24, 25, 26, 27, 28, 29, 30, 31, 32]⟩), (2, ⟨[(4, kI)], [15, 16, 17, 18, 19, 20, 21, 22, 23, 24, 25, 26, 27, 28, 29, 30, 31, 32]⟩)], [(3, ⟨[(30, kB)], [15, 16, 17, 18, 19, 20, 21, 22, 23, 24, 25, 26, 27, 28, 29]⟩)], [(5, .t [(1, []), (2, []), (3, []), (4, []), (5, []), (6, []), (8, [])] 0 [] (.t [] 7 [0, 6, 4, 5, 3, 2, 1] (.l [(9, [8]), (10, [7, 9, 0, 6, 8, 4, 5, 3, 2, 1]), (11, [])]) 9 [8] (.l [(7, [0, 6, 4, 5, 3, 2, 1]), (10, [7, 9, 0, 6, 8, 4, 5, 3, 2, 1]), (11, [])])) 9 [8] (.l [(0, []), (7, [0, 6, 4, 5, 3, 2, 1]), (10, [7, 9, 0, 6, 8, 4, 5, 3, 2, 1]), (11, [])])), (3, .l [(0, []), (1, []), (2, []), (3, []), (4, []), (5, []), (6, []), (7, []), (8, []), (9, []), (10, []), (11, []), (12, []), (13, []), (14, []), (15, [])])], []⟩ [.pointer a0, .agg #[.int .i64 a1.1, .int .i64 a1.2.1]] R w = sh49 a0 a1 R w := by kernel_rfl
theorem call49 {a0 : Option Addr} {a1 : (Int × Int × Unit)} {w : World} {K : TK [] → World → Prop} (h : sh49 a0 a1 (fun vs w' => ∃ t, encK [] t = vs ∧ K t w') w) : cl Pg 49 [.pointer a0, .agg #[.int .i64 a1.1, .int .i64 a1.2.1]] [] w K := cl_of Try.func49 (tie49 ..) h
/-- detent/detentref4.Good -/
def sh62 (a0 : Int) (a1 : Int) (R : List Value → World → Prop) (w : World) : Prop :=
 jn [kB] w (fun (t2 : Bool × Unit) w3 =>
 jn [kB] w3 (fun (t6 : Bool × Unit) w7 =>
 jn [kB] w7 (fun (t10 : Bool × Unit) w11 =>
 R [.bool t10.1] w11) fun J9 w12 =>
 cs t6.1 (
 J9 (decide ((a1 : Int) ≤ (16 : Int)), ()) w12) (
 J9 (false, ()) w12)) fun J5 w8 =>
 cs t2.1 (
 J5 (decide ((a1 : Int) ≥ (1 : Int)), ()) w8) (
 J5 (false, ()) w8)) fun J1 w4 =>
 cs (decide ((a0 : Int) ≥ (1 : Int))) (
 J1 (decide ((a0 : Int) ≤ (16 : Int)), ()) w4) (
 J1 (false, ()) w4)
theorem tie62 (a0 : Int) (a1 : Int) (R : List Value → World → Prop) (w : World) : compF Pg Try.f62 ⟨[], [], [], [(1, [(3, 3, ⟨[(10, kB)], [8, 9]⟩), (7, 3, ⟨[(14, kB)], [12, 13]⟩), (11, 3, ⟨[(18, kB)], [16, 17]⟩)])]⟩ [.int .i64 a0, .int .i64 a1] R w = sh62 a0 a1 R w := by kernel_rfl
theorem call62 {a0 : Int} {a1 : Int} {w : World} {K : TK [kB] → World → Prop} (h : sh62 a0 a1 (fun vs w' => ∃ t, encK [kB] t = vs ∧ K t w') w) : cl Pg 62 [.int .i64 a0, .int .i64 a1] [kB] w K := cl_of Try.func62 (tie62 ..) h
/-- (*detent/detentref4.Queue).Add -/
def sh40 (a0 : Option Addr) (a1 : Int) (a2 : Int) (R : List Value → World → Prop) (w : World) : Prop :=
 cl Pg 62 [.int .i64 a1, .int .i64 a2] [kB] w fun (r1 : Bool × Unit) w2 =>
 cs (!r1.1) (
 R [.int .i64 (-17)] w2) (
 cl Pg 46 [.pointer a0, .int .i64 a1] [kI] w2 fun (r3 : Int × Unit) w4 =>
 cs (decide ((r3.1 : Int) ≥ (0 : Int))) (
 R [.int .i64 (-41)] w4) (
 cl Pg 49 [.pointer a0, .agg #[.int .i64 a1, .int .i64 a2]] [] w4 fun (r5 : Unit) w6 =>
 R [.int .i64 0] w6))
theorem tie40 (a0 : Option Addr) (a1 : Int) (a2 : Int) (R : List Value → World → Prop) (w : World) : compF Pg Try.f40 ⟨[], [], [], []⟩ [.pointer a0, .int .i64 a1, .int .i64 a2] R w = sh40 a0 a1 a2 R w := by kernel_rfl
theorem call40 {a0 : Option Addr} {a1 : Int} {a2 : Int} {w : World} {K : TK [kI] → World → Prop} (h : sh40 a0 a1 a2 (fun vs w' => ∃ t, encK [kI] t = vs ∧ K t w') w) : cl Pg 40 [.pointer a0, .int .i64 a1, .int .i64 a2] [kI] w K := cl_of Try.func40 (tie40 ..) h
/-- (*detent/detentref18.Pool).Get -/
def sh17 (a0 : Option Addr) (a1 : Int) (a2 : Int) (R : List Value → World → Prop) (w : World) : Prop :=
 cl Pg 18 [.pointer a0] [kI, kB] w fun (r1 : Int × Bool × Unit) w2 =>
 cs r1.2.1 (
 R [.int .i64 r1.1, .bool true, .int .i64 0] w2) (
 nn a0 fun b3 o4 =>
 ldP w2 b3 o4 fun p5 =>
 cl Pg 40 [.pointer p5, .int .i64 a1, .int .i64 a2] [kI] w2 fun (r6 : Int × Unit) w7 =>
 R [.int .i64 0, .bool false, .int .i64 r6.1] w7)
theorem tie17 (a0 : Option Addr) (a1 : Int) (a2 : Int) (R : List Value → World → Prop) (w : World) : compF Pg Try.f17 ⟨[], [], [], []⟩ [.pointer a0, .int .i64 a1, .int .i64 a2] R w = sh17 a0 a1 a2 R w := by kernel_rfl
theorem call17 {a0 : Option Addr} {a1 : Int} {a2 : Int} {w : World} {K : TK [kI, kB, kI] → World → Prop} (h : sh17 a0 a1 a2 (fun vs w' => ∃ t, encK [kI, kB, kI] t = vs ∧ K t w') w) : cl Pg 17 [.pointer a0, .int .i64 a1, .int .i64 a2] [kI, kB, kI] w K := cl_of Try.func17 (tie17 ..) h
/-- (*detent/detentref4.Queue).Take -/
def sh43 (a0 : Option Addr) (R : List Value → World → Prop) (w : World) : Prop :=
 al w 84 [.int .i64 0, .int .i64 0] fun b1 w2 =>
 nn a0 fun b3 o4 =>
 ldS w2 b3 (o4 + 1) fun s5 =>
 cs (((s5.len : Int) : Int) == (0 : Int)) (
 st1 w2 b1 0 (.int .i64 0) fun w6 =>
 st1 w6 b1 (0 + 1) (.int .i64 0) fun w7 =>
 ldI w7 .i64 b1 0 fun n8 =>
 ldI w7 .i64 b1 (0 + 1) fun n9 =>
 R [.agg #[.int .i64 n8, .int .i64 n9], .bool false] w7) (
 nn a0 fun b10 o11 =>
 ldS w2 b10 (o11 + 1) fun s12 =>
 ix s12 0 2 fun b13 o14 =>
 ldI w2 .i64 b13 o14 fun n15 =>
 ldI w2 .i64 b13 (o14 + 1) fun n16 =>
 al w2 84 [.int .i64 0, .int .i64 0] fun b17 w18 =>
 st1 w18 b17 0 (.int .i64 n15) fun w19 =>
 st1 w19 b17 (0 + 1) (.int .i64 n16) fun w20 =>
 al w20 84 [] fun b21 w22 =>
 nn a0 fun b23 o24 =>
 ldS w22 b23 (o24 + 1) fun s25 =>
 sb s25 1 s25.len s25.cap 2 fun s26 =>
 ef Pg (Builtin.append_ #[80, 80] 80 #[vS ⟨some ⟨b21, 0, none⟩, 0, 0⟩, vS s26]) [kS] w22 fun (r27 : Sl × Unit) w28 =>
 nn a0 fun b29 o30 =>
 st1 w28 b29 (o30 + 1) (vS r27.1) fun w31 =>
 ldI w31 .i64 b17 0 fun n32 =>
 ldI w31 .i64 b17 (0 + 1) fun n33 =>
 st1 w31 b1 0 (.int .i64 n32) fun w34 =>
 st1 w34 b1 (0 + 1) (.int .i64 n33) fun w35 =>
 ldI w35 .i64 b1 0 fun n36 =>
 ldI w35 .i64 b1 (0 + 1) fun n37 =>
 R [.agg #[.int .i64 n36, .int .i64 n37], .bool true] w35)
theorem tie43 (a0 : Option Addr) (R : List Value → World → Prop) (w : World) : compF Pg Try.f43 ⟨[], [], [], []⟩ [.pointer a0] R w = sh43 a0 R w := by kernel_rfl
theorem call43 {a0 : Option Addr} {w : World} {K : TK [.a [(.i .i64), (.i .i64)], kB] → World → Prop} (h : sh43 a0 (fun vs w' => ∃ t, encK [.a [(.i .i64), (.i .i64)], kB] t = vs ∧ K t w') w) : cl Pg 43 [.pointer a0] [.a [(.i .i64), (.i .i64)], kB] w K := cl_of Try.func43 (tie43 ..) h
/-- (*detent/detentref18.Pool).Put -/
def sh19 (a0 : Option Addr) (a1 : Int) (R : List Value → World → Prop) (w : World) : Prop :=
 lp [kI, kI] w (((-1) : Int), (0 : Int), ()) fun (t1 : Int × Int × Unit) J2 w3 =>
 nn a0 fun b4 o5 =>
 ldS w3 b4 (o5 + 6) fun s6 =>
 cs (decide ((t1.2.1 : Int) < ((s6.len : Int) : Int))) (
 nn a0 fun b7 o8 =>
 ldS w3 b7 (o8 + 6) fun s9 =>
 ix s9 t1.2.1 1 fun b10 o11 =>
 ldI w3 .i64 b10 o11 fun n12 =>
 cs ((n12 : Int) == (a1 : Int)) (
 J2 (t1.2.1, w64 (t1.2.1 + 1), ()) w3) (
 J2 (t1.1, w64 (t1.2.1 + 1), ()) w3)) (
 cs (decide ((t1.1 : Int) < (0 : Int))) (
 R [.int .i64 0, .int .i64 (-17)] w3) (
 nn a0 fun b13 o14 =>
 ldP w3 b13 o14 fun p15 =>
 cl Pg 43 [.pointer p15] [.a [(.i .i64), (.i .i64)], kB] w3 fun (r16 : (Int × Int × Unit) × Bool × Unit) w17 =>
 al w17 84 [.int .i64 0, .int .i64 0] fun b18 w19 =>
 st1 w19 b18 0 (.int .i64 r16.1.1) fun w20 =>
 st1 w20 b18 (0 + 1) (.int .i64 r16.1.2.1) fun w21 =>
 cs r16.2.1 (
 ldI w21 .i64 b18 0 fun n22 =>
 R [.int .i64 n22, .int .i64 0] w21) (
 al w21 3 [] fun b23 w24 =>
 nn a0 fun b25 o26 =>
 ldS w24 b25 (o26 + 6) fun s27 =>
 sb s27 0 t1.1 s27.cap 1 fun s28 =>
 ef Pg (Builtin.append_ #[27, 27] 27 #[vS ⟨some ⟨b23, 0, none⟩, 0, 0⟩, vS s28]) [kS] w24 fun (r29 : Sl × Unit) w30 =>
 nn a0 fun b31 o32 =>
 ldS w30 b31 (o32 + 6) fun s33 =>
 sb s33 (w64 (t1.1 + 1)) s33.len s33.cap 1 fun s34 =>
 ef Pg (Builtin.append_ #[27, 27] 27 #[vS r29.1, vS s34]) [kS] w30 fun (r35 : Sl × Unit) w36 =>
 nn a0 fun b37 o38 =>
 st1 w36 b37 (o38 + 6) (vS r35.1) fun w39 =>
 al w39 3 [] fun b40 w41 =>
 nn a0 fun b42 o43 =>
 ldS w41 b42 (o43 + 4) fun s44 =>
 ef Pg (Builtin.append_ #[27, 27] 27 #[vS ⟨some ⟨b40, 0, none⟩, 0, 0⟩, vS s44]) [kS] w41 fun (r45 : Sl × Unit) w46 =>
 al w46 3 [.int .i64 a1] fun b47 w48 =>
 ef Pg (Builtin.append_ #[27, 27] 27 #[vS r45.1, vS ⟨some ⟨b47, 0, none⟩, 1, 1⟩]) [kS] w48 fun (r49 : Sl × Unit) w50 =>
 nn a0 fun b51 o52 =>
 st1 w50 b51 (o52 + 4) (vS r49.1) fun w53 =>
 R [.int .i64 0, .int .i64 0] w53)))
theorem tie19 (a0 : Option Addr) (a1 : Int) (R : List Value → World → Prop) (w : World) : compF Pg Try.f19 ⟨[(1, ⟨[(6, kI), (7, kI)], [11, 12, 13, 14, 15, 16, 17, 18, 19, 20, 21, 22, 23, 24, 25, 26, 27, 28, 29]⟩)], [], [], []⟩ [.pointer a0, .int .i64 a1] R w = sh19 a0 a1 R w := by kernel_rfl
theorem call19 {a0 : Option Addr} {a1 : Int} {w : World} {K : TK [kI, kI] → World → Prop} (h : sh19 a0 a1 (fun vs w' => ∃ t, encK [kI, kI] t = vs ∧ K t w') w) : cl Pg 19 [.pointer a0, .int .i64 a1] [kI, kI] w K := cl_of Try.func19 (tie19 ..) h
/-- (*detent/detentref4.Queue).Remove -/
def sh21 (a0 : Option Addr) (a1 : Int) (R : List Value → World → Prop) (w : World) : Prop :=
 cl Pg 46 [.pointer a0, .int .i64 a1] [kI] w fun (r1 : Int × Unit) w2 =>
 cs (decide ((r1.1 : Int) < (0 : Int))) (
 R [.bool false] w2) (
 al w2 84 [] fun b3 w4 =>
 nn a0 fun b5 o6 =>
 ldS w4 b5 (o6 + 1) fun s7 =>
 sb s7 0 r1.1 s7.cap 2 fun s8 =>
 ef Pg (Builtin.append_ #[80, 80] 80 #[vS ⟨some ⟨b3, 0, none⟩, 0, 0⟩, vS s8]) [kS] w4 fun (r9 : Sl × Unit) w10 =>
 nn a0 fun b11 o12 =>
 ldS w10 b11 (o12 + 1) fun s13 =>
 sb s13 (w64 (r1.1 + 1)) s13.len s13.cap 2 fun s14 =>
 ef Pg (Builtin.append_ #[80, 80] 80 #[vS r9.1, vS s14]) [kS] w10 fun (r15 : Sl × Unit) w16 =>
 nn a0 fun b17 o18 =>
 st1 w16 b17 (o18 + 1) (vS r15.1) fun w19 =>
 R [.bool true] w19)
theorem tie21 (a0 : Option Addr) (a1 : Int) (R : List Value → World → Prop) (w : World) : compF Pg Try.f21 ⟨[], [], [], []⟩ [.pointer a0, .int .i64 a1] R w = sh21 a0 a1 R w := by kernel_rfl
theorem call21 {a0 : Option Addr} {a1 : Int} {w : World} {K : TK [kB] → World → Prop} (h : sh21 a0 a1 (fun vs w' => ∃ t, encK [kB] t = vs ∧ K t w') w) : cl Pg 21 [.pointer a0, .int .i64 a1] [kB] w K := cl_of Try.func21 (tie21 ..) h
/-- (*detent/order.Queue).Change -/
def sh22 (a0 : Option Addr) (a1 : Int) (a2 : Int) (R : List Value → World → Prop) (w : World) : Prop :=
 nn a0 fun b1 o2 =>
 cl Pg 44 [.pointer (some ⟨b1, o2, none⟩), .int .i64 a1] [kI] w fun (r3 : Int × Unit) w4 =>
 jn [kB] w4 (fun (t6 : Bool × Unit) w7 =>
 cs t6.1 (
 R [.bool false] w7) (
 nn a0 fun b9 o10 =>
 ldB w7 b9 (o10 + 1) fun b11 =>
 cs (!b11) (
 nn a0 fun b12 o13 =>
 ldS w7 b12 o13 fun s14 =>
 ix s14 r3.1 2 fun b15 o16 =>
 st1 w7 b15 (o16 + 1) (.int .i64 a2) fun w17 =>
 R [.bool true] w17) (
 nn a0 fun b18 o19 =>
 cl Pg 20 [.pointer (some ⟨b18, o19, none⟩), .int .i64 a1] [kB] w7 fun (r20 : Bool × Unit) w21 =>
 cl Pg 48 [.pointer a0, .agg #[.int .i64 a1, .int .i64 a2]] [] w21 fun (r22 : Unit) w23 =>
 R [.bool true] w23))) fun J5 w8 =>
 cs (decide ((r3.1 : Int) < (0 : Int))) (
 J5 (true, ()) w8) (
 cl Pg 47 [.int .i64 a2] [kB] w8 fun (r24 : Bool × Unit) w25 =>
 J5 (!r24.1, ()) w25)
theorem tie22 (a0 : Option Addr) (a1 : Int) (a2 : Int) (R : List Value → World → Prop) (w : World) : compF Pg Try.f22 ⟨[], [], [], [(2, [(3, 4, ⟨[(19, kB)], [16, 17, 18]⟩)])]⟩ [.pointer a0, .int .i64 a1, .int .i64 a2] R w = sh22 a0 a1 a2 R w := by kernel_rfl
theorem call22 {a0 : Option Addr} {a1 : Int} {a2 : Int} {w : World} {K : TK [kB] → World → Prop} (h : sh22 a0 a1 a2 (fun vs w' => ∃ t, encK [kB] t = vs ∧ K t w') w) : cl Pg 22 [.pointer a0, .int .i64 a1, .int .i64 a2] [kB] w K := cl_of Try.func22 (tie22 ..) h
/-- (*detent/detentref4.Queue).Change -/
def sh23 (a0 : Option Addr) (a1 : Int) (a2 : Int) (R : List Value → World → Prop) (w : World) : Prop :=
 cl Pg 46 [.pointer a0, .int .i64 a1] [kI] w fun (r1 : Int × Unit) w2 =>
 jn [kB] w2 (fun (t4 : Bool × Unit) w5 =>
 jn [kB] w5 (fun (t8 : Bool × Unit) w9 =>
 cs t8.1 (
 R [.bool false] w9) (
 nn a0 fun b11 o12 =>
 ldB w9 b11 o12 fun b13 =>
 cs b13 (
 cl Pg 21 [.pointer a0, .int .i64 a1] [kB] w9 fun (r14 : Bool × Unit) w15 =>
 cl Pg 49 [.pointer a0, .agg #[.int .i64 a1, .int .i64 a2]] [] w15 fun (r16 : Unit) w17 =>
 R [.bool true] w17) (
 al w9 84 [] fun b18 w19 =>
 nn a0 fun b20 o21 =>
 ldS w19 b20 (o21 + 1) fun s22 =>
 ef Pg (Builtin.append_ #[80, 80] 80 #[vS ⟨some ⟨b18, 0, none⟩, 0, 0⟩, vS s22]) [kS] w19 fun (r23 : Sl × Unit) w24 =>
 nn a0 fun b25 o26 =>
 st1 w24 b25 (o26 + 1) (vS r23.1) fun w27 =>
 nn a0 fun b28 o29 =>
 ldS w27 b28 (o29 + 1) fun s30 =>
 ix s30 r1.1 2 fun b31 o32 =>
 st1 w27 b31 (o32 + 1) (.int .i64 a2) fun w33 =>
 R [.bool true] w33))) fun J7 w10 =>
 cs t4.1 (
 J7 (true, ()) w10) (
 J7 (decide ((a2 : Int) > (16 : Int)), ()) w10)) fun J3 w6 =>
 cs (decide ((r1.1 : Int) < (0 : Int))) (
 J3 (true, ()) w6) (
 J3 (decide ((a2 : Int) < (1 : Int)), ()) w6)
theorem tie23 (a0 : Option Addr) (a1 : Int) (a2 : Int) (R : List Value → World → Prop) (w : World) : compF Pg Try.f23 ⟨[], [], [], [(2, [(3, 3, ⟨[(16, kB)], [14, 15]⟩), (7, 3, ⟨[(20, kB)], [18, 19]⟩)])]⟩ [.pointer a0, .int .i64 a1, .int .i64 a2] R w = sh23 a0 a1 a2 R w := by kernel_rfl
theorem call23 {a0 : Option Addr} {a1 : Int} {a2 : Int} {w : World} {K : TK [kB] → World → Prop} (h : sh23 a0 a1 a2 (fun vs w' => ∃ t, encK [kB] t = vs ∧ K t w') w) : cl Pg 23 [.pointer a0, .int .i64 a1, .int .i64 a2] [kB] w K := cl_of Try.func23 (tie23 ..) h
/-- slices.Clone[[]detent/order.Item,detent/order.Item] -/
def sh66 (a0 : Sl) (R : List Value → World → Prop) (w : World) : Prop :=
 cs a0.a.isNone (
 R [.slice none 0 0] w) (
 al w 73 [] fun b1 w2 =>
 ef Pg (Builtin.append_ #[43, 43] 43 #[vS ⟨some ⟨b1, 0, none⟩, 0, 0⟩, vS a0]) [kS] w2 fun (r3 : Sl × Unit) w4 =>
 R [vS r3.1] w4)
theorem tie66 (a0 : Sl) (R : List Value → World → Prop) (w : World) : compF Pg Try.f66 ⟨[], [], [], []⟩ [vS a0] R w = sh66 a0 R w := by kernel_rfl
theorem call66 {a0 : Sl} {w : World} {K : TK [kS] → World → Prop} (h : sh66 a0 (fun vs w' => ∃ t, encK [kS] t = vs ∧ K t w') w) : cl Pg 66 [vS a0] [kS] w K := cl_of Try.func66 (tie66 ..) h
/-- (*detent/order.Queue).Twin -/
def sh50 (a0 : Option Addr) (R : List Value → World → Prop) (w : World) : Prop :=
 dr w fun w1 =>
 nn a0 fun b2 o3 =>
 ldS w1 b2 o3 fun s4 =>
 nn a0 fun b5 o6 =>
 ldB w1 b5 (o6 + 1) fun b7 =>
 cl Pg 66 [vS s4] [kS] w1 fun (r8 : Sl × Unit) w9 =>
(w9.cell? ⟨b5, o6 + 1, none⟩ = some (.bool b7)) ∧ (
 al w9 47 [vS r8.1, .bool b7] fun b10 w11 =>
 R [.pointer (some ⟨b10, 0, none⟩)] w11)
theorem tie50 (a0 : Option Addr) (R : List Value → World → Prop) (w : World) : compF Pg Try.f50 ⟨[], [], [(1, .l [(0, []), (1, []), (2, []), (3, []), (4, []), (7, []), (8, []), (9, []), (10, []), (5, [4, 3, 2, 1, 0]), (6, []), (11, []), (12, [11, 6, 10, 5, 9, 4, 8, 3, 7, 2, 1, 0]), (13, [])])], []⟩ [.pointer a0] R w = sh50 a0 R w := by kernel_rfl
theorem call50 {a0 : Option Addr} {w : World} {K : TK [kP] → World → Prop} (h : sh50 a0 (fun vs w' => ∃ t, encK [kP] t = vs ∧ K t w') w) : cl Pg 50 [.pointer a0] [kP] w K := cl_of Try.func50 (tie50 ..) h
/-- (*detent/mpf.Pool).Apart -/
def sh24 (a0 : Option Addr) (R : List Value → World → Prop) (w : World) : Prop :=
 nn a0 fun b1 o2 =>
 ldP w b1 o2 fun p3 =>
 ldI w .i64 b1 (o2 + 1) fun n4 =>
 ldI w .i64 b1 (o2 + 2) fun n5 =>
 ldI w .i64 b1 (o2 + 3) fun n6 =>
 ldI w .i64 b1 (o2 + 4) fun n7 =>
 ldS w b1 (o2 + 5) fun s8 =>
 ldS w b1 (o2 + 6) fun s9 =>
 al w 42 [.pointer none, .int .i64 0, .int .i64 0, .int .i64 0, .int .i64 0, .slice none 0 0, .slice none 0 0] fun b10 w11 =>
 st1 w11 b10 0 (.pointer p3) fun w12 =>
 st1 w12 b10 (0 + 1) (.int .i64 n4) fun w13 =>
 st1 w13 b10 (0 + 2) (.int .i64 n5) fun w14 =>
 st1 w14 b10 (0 + 3) (.int .i64 n6) fun w15 =>
 st1 w15 b10 (0 + 4) (.int .i64 n7) fun w16 =>
 st1 w16 b10 (0 + 5) (vS s8) fun w17 =>
 st1 w17 b10 (0 + 6) (vS s9) fun w18 =>
 nn a0 fun b19 o20 =>
 ldP w18 b19 o20 fun p21 =>
 cl Pg 50 [.pointer p21] [kP] w18 fun (r22 : Option Addr × Unit) w23 =>
 st1 w23 b10 0 (.pointer r22.1) fun w24 =>
 dr w24 fun w25 =>
 nn a0 fun b26 o27 =>
 ldS w25 b26 (o27 + 5) fun s28 =>
 nn a0 fun b29 o30 =>
 ldS w25 b29 (o30 + 6) fun s31 =>
 cl Pg 37 [vS s28] [kS] w25 fun (r32 : Sl × Unit) w33 =>
(w33.cell? ⟨b29, o30 + 6, none⟩ = some (vS s31)) ∧ (
 cl Pg 37 [vS s31] [kS] w33 fun (r34 : Sl × Unit) w35 =>
 st1 w35 b10 (0 + 5) (vS r32.1) fun w36 =>
 st1 w36 b10 (0 + 6) (vS r34.1) fun w37 =>
 R [.pointer (some ⟨b10, 0, none⟩)] w37)
theorem tie24 (a0 : Option Addr) (R : List Value → World → Prop) (w : World) : compF Pg Try.f24 ⟨[], [], [(3, .l [(0, []), (1, []), (2, []), (3, []), (5, []), (6, []), (7, []), (8, []), (4, [3, 2, 1, 0]), (9, [8, 4, 7, 3, 6, 2, 5, 1, 0]), (10, []), (11, [10, 4, 9, 0, 1, 2, 3, 8, 7, 6, 5]), (12, []), (13, [12, 9, 11, 0, 1, 2, 3, 4, 5, 6, 7, 8, 10])])], []⟩ [.pointer a0] R w = sh24 a0 R w := by kernel_rfl
theorem call24 {a0 : Option Addr} {w : World} {K : TK [kP] → World → Prop} (h : sh24 a0 (fun vs w' => ∃ t, encK [kP] t = vs ∧ K t w') w) : cl Pg 24 [.pointer a0] [kP] w K := cl_of Try.func24 (tie24 ..) h
/-- (*detent/detentref18.Pool).Free -/
def sh25 (a0 : Option Addr) (R : List Value → World → Prop) (w : World) : Prop :=
 dr w fun w1 =>
 nn a0 fun b2 o3 =>
 ldI w1 .i64 b2 (o3 + 2) fun n4 =>
 nn a0 fun b5 o6 =>
 ldS w1 b5 (o6 + 6) fun s7 =>
 R [.int .i64 (w64 (n4 - (s7.len : Int)))] w1
theorem tie25 (a0 : Option Addr) (R : List Value → World → Prop) (w : World) : compF Pg Try.f25 ⟨[], [], [(1, .l [(0, []), (1, []), (2, []), (3, []), (4, []), (5, []), (6, []), (7, []), (8, []), (9, []), (10, [])])], []⟩ [.pointer a0] R w = sh25 a0 R w := by kernel_rfl
theorem call25 {a0 : Option Addr} {w : World} {K : TK [kI] → World → Prop} (h : sh25 a0 (fun vs w' => ∃ t, encK [kI] t = vs ∧ K t w') w) : cl Pg 25 [.pointer a0] [kI] w K := cl_of Try.func25 (tie25 ..) h
/-- detent/detentlaw3.Same -/
def sh26 (a0 : Sl) (a1 : Sl) (R : List Value → World → Prop) (w : World) : Prop :=
 cs (((a0.len : Int) : Int) != ((a1.len : Int) : Int)) (
 R [.bool false] w) (
 lp [kI] w ((0 : Int), ()) fun (t1 : Int × Unit) J2 w3 =>
 cs (decide ((t1.1 : Int) < ((a0.len : Int) : Int))) (
 dr w3 fun w4 =>
 ix a0 t1.1 1 fun b5 o6 =>
 ldI w4 .i64 b5 o6 fun n7 =>
 ix a1 t1.1 1 fun b8 o9 =>
 ldI w4 .i64 b8 o9 fun n10 =>
 cs ((n7 : Int) != (n10 : Int)) (
 R [.bool false] w4) (
 J2 (w64 (t1.1 + 1), ()) w4)) (
 R [.bool true] w3))
theorem tie26 (a0 : Sl) (a1 : Sl) (R : List Value → World → Prop) (w : World) : compF Pg Try.f26 ⟨[(2, ⟨[(5, kI)], [4, 11, 12, 13, 14, 15, 16, 17, 18, 19, 20, 21, 22, 23, 24, 25]⟩)], [], [(6, .l [(0, []), (1, []), (2, []), (3, []), (4, []), (5, []), (6, []), (7, []), (8, [])])], []⟩ [vS a0, vS a1] R w = sh26 a0 a1 R w := by kernel_rfl
theorem call26 {a0 : Sl} {a1 : Sl} {w : World} {K : TK [kB] → World → Prop} (h : sh26 a0 a1 (fun vs w' => ∃ t, encK [kB] t = vs ∧ K t w') w) : cl Pg 26 [vS a0, vS a1] [kB] w K := cl_of Try.func26 (tie26 ..) h
/-- detent/detentlaw4.Row -/
def sh51 (a0 : Sl) (a1 : Sl) (R : List Value → World → Prop) (w : World) : Prop :=
 cs (((a0.len : Int) : Int) != ((a1.len : Int) : Int)) (
 R [.bool false] w) (
 lp [kI] w ((0 : Int), ()) fun (t1 : Int × Unit) J2 w3 =>
 cs (decide ((t1.1 : Int) < ((a0.len : Int) : Int))) (
 dr w3 fun w4 =>
 jn [kB] w4 (fun (t6 : Bool × Unit) w7 =>
 cs t6.1 (
 R [.bool false] w7) (
 J2 (w64 (t1.1 + 1), ()) w7)) fun J5 w8 =>
 ix a0 t1.1 2 fun b9 o10 =>
 ldI w8 .i64 b9 o10 fun n11 =>
 ix a1 t1.1 2 fun b12 o13 =>
 ldI w8 .i64 b12 o13 fun n14 =>
 cs ((n11 : Int) != (n14 : Int)) (
 J5 (true, ()) w8) (
 ix a0 t1.1 2 fun b15 o16 =>
 ldI w8 .i64 b15 (o16 + 1) fun n17 =>
 ix a1 t1.1 2 fun b18 o19 =>
 ldI w8 .i64 b18 (o19 + 1) fun n20 =>
 J5 ((n17 : Int) != (n20 : Int), ()) w8)) (
 R [.bool true] w3))
theorem tie51 (a0 : Sl) (a1 : Sl) (R : List Value → World → Prop) (w : World) : compF Pg Try.f51 ⟨[(2, ⟨[(5, kI)], [4, 11, 12, 13, 14, 15, 16, 17, 18, 19, 20, 21, 22, 23, 24, 25, 26, 27, 28, 29, 30, 31, 32, 33, 34, 35, 36, 37, 38, 39, 40]⟩)], [(6, ⟨[(40, kB)], [17, 18, 19, 20, 21, 22, 23, 24, 25, 26, 27, 28, 29, 30, 31, 32, 33, 34, 35, 36, 37, 38, 39]⟩)], [(6, .l [(0, []), (1, []), (2, []), (3, []), (4, []), (5, []), (6, []), (7, []), (8, []), (9, []), (10, []), (11, []), (12, []), (13, []), (14, []), (15, []), (16, []), (17, []), (18, []), (19, []), (20, []), (21, []), (22, []), (23, [])])], []⟩ [vS a0, vS a1] R w = sh51 a0 a1 R w := by kernel_rfl
theorem call51 {a0 : Sl} {a1 : Sl} {w : World} {K : TK [kB] → World → Prop} (h : sh51 a0 a1 (fun vs w' => ∃ t, encK [kB] t = vs ∧ K t w') w) : cl Pg 51 [vS a0, vS a1] [kB] w K := cl_of Try.func51 (tie51 ..) h
/-- slices.Clip[[]detent/order.Item,detent/order.Item] -/
def sh67 (a0 : Sl) (R : List Value → World → Prop) (w : World) : Prop :=
 sb a0 0 (a0.len : Int) (a0.len : Int) 2 fun s1 =>
 R [vS s1] w
theorem tie67 (a0 : Sl) (R : List Value → World → Prop) (w : World) : compF Pg Try.f67 ⟨[], [], [], []⟩ [vS a0] R w = sh67 a0 R w := by kernel_rfl
theorem call67 {a0 : Sl} {w : World} {K : TK [kS] → World → Prop} (h : sh67 a0 (fun vs w' => ∃ t, encK [kS] t = vs ∧ K t w') w) : cl Pg 67 [vS a0] [kS] w K := cl_of Try.func67 (tie67 ..) h
/-- (*detent/order.Line).Row -/
def sh52 (a0 : Option Addr) (R : List Value → World → Prop) (w : World) : Prop :=
 nn a0 fun b1 o2 =>
 ldS w b1 o2 fun s3 =>
 cl Pg 66 [vS s3] [kS] w fun (r4 : Sl × Unit) w5 =>
 cl Pg 67 [vS r4.1] [kS] w5 fun (r6 : Sl × Unit) w7 =>
 R [vS r6.1] w7
theorem tie52 (a0 : Option Addr) (R : List Value → World → Prop) (w : World) : compF Pg Try.f52 ⟨[], [], [], []⟩ [.pointer a0] R w = sh52 a0 R w := by kernel_rfl
theorem call52 {a0 : Option Addr} {w : World} {K : TK [kS] → World → Prop} (h : sh52 a0 (fun vs w' => ∃ t, encK [kS] t = vs ∧ K t w') w) : cl Pg 52 [.pointer a0] [kS] w K := cl_of Try.func52 (tie52 ..) h
/-- (*detent/order.Line).Pri -/
def sh54 (a0 : Option Addr) (a1 : Int) (R : List Value → World → Prop) (w : World) : Prop :=
 cl Pg 44 [.pointer a0, .int .i64 a1] [kI] w fun (r1 : Int × Unit) w2 =>
 cs (decide ((r1.1 : Int) < (0 : Int))) (
 R [.int .i64 0, .bool false] w2) (
 nn a0 fun b3 o4 =>
 ldS w2 b3 o4 fun s5 =>
 ix s5 r1.1 2 fun b6 o7 =>
 ldI w2 .i64 b6 (o7 + 1) fun n8 =>
 R [.int .i64 n8, .bool true] w2)
theorem tie54 (a0 : Option Addr) (a1 : Int) (R : List Value → World → Prop) (w : World) : compF Pg Try.f54 ⟨[], [], [], []⟩ [.pointer a0, .int .i64 a1] R w = sh54 a0 a1 R w := by kernel_rfl
theorem call54 {a0 : Option Addr} {a1 : Int} {w : World} {K : TK [kI, kB] → World → Prop} (h : sh54 a0 a1 (fun vs w' => ∃ t, encK [kI, kB] t = vs ∧ K t w') w) : cl Pg 54 [.pointer a0, .int .i64 a1] [kI, kB] w K := cl_of Try.func54 (tie54 ..) h
/-- detent/detentlaw4.Same -/
def sh27 (a0 : Option Addr) (a1 : Option Addr) (R : List Value → World → Prop) (w : World) : Prop :=
 dr w fun w1 =>
 jn [kB] w1 (fun (t3 : Bool × Unit) w4 =>
 cs t3.1 (
 R [.bool false] w4) (
 nn a0 fun b6 o7 =>
 cl Pg 53 [.pointer (some ⟨b6, o7, none⟩)] [.a [(.i .i64), (.i .i64)], kB] w4 fun (r8 : (Int × Int × Unit) × Bool × Unit) w9 =>
 al w9 73 [.int .i64 0, .int .i64 0] fun b10 w11 =>
 st1 w11 b10 0 (.int .i64 r8.1.1) fun w12 =>
 st1 w12 b10 (0 + 1) (.int .i64 r8.1.2.1) fun w13 =>
 dr w13 fun w14 =>
 jn [kB] w14 (fun (t16 : Bool × Unit) w17 =>
 cs t16.1 (
 R [.bool false] w17) (
 lp [kI] w17 ((0 : Int), ()) fun (t19 : Int × Unit) J20 w21 =>
 cs (decide ((t19.1 : Int) ≤ (17 : Int))) (
 cl Pg 46 [.pointer a1, .int .i64 t19.1] [kI] w21 fun (r22 : Int × Unit) w23 =>
 nn a0 fun b24 o25 =>
 cl Pg 54 [.pointer (some ⟨b24, o25, none⟩), .int .i64 t19.1] [kI, kB] w23 fun (r26 : Int × Bool × Unit) w27 =>
 nn a0 fun b28 o29 =>
 cl Pg 55 [.pointer (some ⟨b28, o29, none⟩), .int .i64 t19.1] [kB] w27 fun (r30 : Bool × Unit) w31 =>
 jn [kB] w31 (fun (t33 : Bool × Unit) w34 =>
 jn [kB] w34 (fun (t37 : Bool × Unit) w38 =>
 jn [kB] w38 (fun (t41 : Bool × Unit) w42 =>
 cs t41.1 (
 R [.bool false] w42) (
 J20 (w64 (t19.1 + 1), ()) w42)) fun J40 w43 =>
 cs t37.1 (
 J40 (true, ()) w43) (
 jn [kB] w43 (fun (t45 : Bool × Unit) w46 =>
 J40 (t45.1, ()) w46) fun J44 w47 =>
 cs (decide ((r22.1 : Int) < (0 : Int))) (
 J44 ((r26.1 : Int) != (0 : Int), ()) w47) (
 J44 (false, ()) w47))) fun J36 w39 =>
 cs t33.1 (
 J36 (true, ()) w39) (
 jn [kB] w39 (fun (t49 : Bool × Unit) w50 =>
 J36 (t49.1, ()) w50) fun J48 w51 =>
 cs (decide ((r22.1 : Int) ≥ (0 : Int))) (
 nn a1 fun b52 o53 =>
 ldS w51 b52 (o53 + 1) fun s54 =>
 ix s54 r22.1 2 fun b55 o56 =>
 ldI w51 .i64 b55 (o56 + 1) fun n57 =>
 J48 ((r26.1 : Int) != (n57 : Int), ()) w51) (
 J48 (false, ()) w51))) fun J32 w35 =>
 cs (!(r30.1 == (decide ((r22.1 : Int) ≥ (0 : Int))))) (
 J32 (true, ()) w35) (
 J32 (!(r26.2.1 == (decide ((r22.1 : Int) ≥ (0 : Int)))), ()) w35)) (
 R [.bool true] w21))) fun J15 w18 =>
 nn a1 fun b58 o59 =>
 ldS w18 b58 (o59 + 1) fun s60 =>
 cs (!(r8.2.1 == (decide (((s60.len : Int) : Int) > (0 : Int))))) (
 J15 (true, ()) w18) (
 cs r8.2.1 (
 ldI w18 .i64 b10 0 fun n61 =>
 nn a1 fun b62 o63 =>
 ldS w18 b62 (o63 + 1) fun s64 =>
 ix s64 0 2 fun b65 o66 =>
 ldI w18 .i64 b65 o66 fun n67 =>
 cs ((n61 : Int) != (n67 : Int)) (
 J15 (true, ()) w18) (
 ldI w18 .i64 b10 (0 + 1) fun n68 =>
 nn a1 fun b69 o70 =>
 ldS w18 b69 (o70 + 1) fun s71 =>
 ix s71 0 2 fun b72 o73 =>
 ldI w18 .i64 b72 (o73 + 1) fun n74 =>
 cs ((n68 : Int) != (n74 : Int)) (
 J15 (true, ()) w18) (
 cs (!r8.2.1) (
 ldI w18 .i64 b10 0 fun n75 =>
 cs ((n75 : Int) != (0 : Int)) (
 J15 (true, ()) w18) (
 ldI w18 .i64 b10 (0 + 1) fun n76 =>
 J15 ((n76 : Int) != (0 : Int), ()) w18)) (
 J15 (false, ()) w18)))) (
 cs (!r8.2.1) (
 ldI w18 .i64 b10 0 fun n77 =>
 cs ((n77 : Int) != (0 : Int)) (
 J15 (true, ()) w18) (
 ldI w18 .i64 b10 (0 + 1) fun n78 =>
 J15 ((n78 : Int) != (0 : Int), ()) w18)) (
 J15 (false, ()) w18))))) fun J2 w5 =>
 nn a0 fun b79 o80 =>
 nn a1 fun b81 o82 =>
 ldS w5 b81 (o82 + 1) fun s83 =>
 cl Pg 52 [.pointer (some ⟨b79, o80, none⟩)] [kS] w5 fun (r84 : Sl × Unit) w85 =>
(w85.cell? ⟨b81, o82 + 1, none⟩ = some (vS s83)) ∧ (
 cl Pg 51 [vS r84.1, vS s83] [kB] w85 fun (r86 : Bool × Unit) w87 =>
 cs (!r86.1) (
 J2 (true, ()) w87) (
 nn a0 fun b88 o89 =>
 nn a1 fun b90 o91 =>
 ldS w87 b90 (o91 + 1) fun s92 =>
 cl Pg 15 [.pointer (some ⟨b88, o89, none⟩)] [kI] w87 fun (r93 : Int × Unit) w94 =>
(w94.cell? ⟨b90, o91 + 1, none⟩ = some (vS s92)) ∧ (
 J2 ((r93.1 : Int) != ((s92.len : Int) : Int), ()) w94)))
theorem tie27 (a0 : Option Addr) (a1 : Option Addr) (R : List Value → World → Prop) (w : World) : compF Pg Try.f27 ⟨[(3, ⟨[(7, kI)], [4, 8, 9, 10, 89, 90, 91, 92, 93, 94, 95, 96, 97, 98, 99, 100, 101, 102, 103, 104, 105, 106, 107, 108, 109, 110, 111, 112, 113, 114, 115, 116, 117, 118, 119, 120, 121, 122, 123, 124, 125, 126, 127, 128, 129, 130, 131, 132, 133, 134, 135, 136, 137, 138, 139, 140, 141]⟩)], [(1, ⟨[(32, kB)], [11, 12, 13, 14, 15, 16, 17, 18, 19, 20, 21, 22, 23, 24, 25, 26, 27, 28, 29, 30, 31]⟩), (4, ⟨[(88, kB)], [40, 41, 42, 43, 44, 45, 46, 47, 48, 49, 50, 51, 52, 53, 54, 55, 56, 57, 58, 59, 60, 61, 62, 63, 64, 65, 66, 67, 68, 69, 70, 71, 72, 73, 74, 75, 76, 77, 78, 79, 80, 81, 82, 83, 84, 85, 86, 87]⟩)], [(1, .l [(0, []), (1, []), (2, []), (4, []), (5, []), (6, []), (7, []), (3, [2, 1, 0]), (8, [3, 7, 2, 6, 1, 5, 0, 4]), (9, []), (10, []), (11, []), (12, []), (13, []), (15, []), (16, []), (17, []), (18, []), (19, []), (14, [13, 10, 12, 9, 8, 11, 3, 7, 2, 6, 1, 5, 0, 4]), (20, []), (21, [])]), (4, .l [(0, []), (1, []), (2, []), (3, []), (4, []), (5, []), (6, []), (7, []), (8, []), (9, []), (10, []), (11, []), (12, []), (13, []), (14, []), (15, []), (16, []), (17, []), (18, []), (19, []), (20, []), (21, []), (22, []), (23, []), (24, []), (25, []), (26, []), (27, []), (28, []), (29, []), (30, []), (31, []), (32, []), (33, []), (34, []), (35, []), (36, []), (37, []), (38, []), (39, []), (40, []), (41, []), (42, []), (43, []), (44, []), (45, []), (46, []), (47, []), (48, [])])], [(11, [(9, 5, ⟨[(117, kB)], [113, 114, 115, 116]⟩), (15, 15, ⟨[(133, kB)], [119, 120, 121, 122, 123, 124, 125, 126, 127, 128, 129, 130, 131, 132]⟩), (18, 11, ⟨[(132, kB)], [122, 123, 124, 125, 126, 127, 128, 129, 130, 131]⟩), (31, 7, ⟨[(141, kB)], [135, 136, 137, 138, 139, 140]⟩), (34, 3, ⟨[(140, kB)], [138, 139]⟩)])]⟩ [.pointer a0, .pointer a1] R w = sh27 a0 a1 R w := by kernel_rfl
theorem call27 {a0 : Option Addr} {a1 : Option Addr} {w : World} {K : TK [kB] → World → Prop} (h : sh27 a0 a1 (fun vs w' => ∃ t, encK [kB] t = vs ∧ K t w') w) : cl Pg 27 [.pointer a0, .pointer a1] [kB] w K := cl_of Try.func27 (tie27 ..) h
/-- (*detent/detentref18.Pool).Holds -/
def sh29 (a0 : Option Addr) (a1 : Int) (a2 : Int) (R : List Value → World → Prop) (w : World) : Prop :=
 lp [kI] w ((0 : Int), ()) fun (t1 : Int × Unit) J2 w3 =>
 nn a0 fun b4 o5 =>
 ldS w3 b4 (o5 + 6) fun s6 =>
 cs (decide ((t1.1 : Int) < ((s6.len : Int) : Int))) (
 nn a0 fun b7 o8 =>
 ldS w3 b7 (o8 + 6) fun s9 =>
 ix s9 t1.1 1 fun b10 o11 =>
 ldI w3 .i64 b10 o11 fun n12 =>
 jn [kB] w3 (fun (t14 : Bool × Unit) w15 =>
 jn [kB] w15 (fun (t18 : Bool × Unit) w19 =>
 jn [kB] w19 (fun (t22 : Bool × Unit) w23 =>
 cs t22.1 (
 R [.bool true] w23) (
 J2 (w64 (t1.1 + 1), ()) w23)) fun J21 w24 =>
 cs t18.1 (
 nn a0 fun b25 o26 =>
 ldI w24 .i64 b25 (o26 + 3) fun n27 =>
 J21 (decide ((a1 : Int) ≤ (w64 ((w64 (n12 + n27)) - a2) : Int)), ()) w24) (
 J21 (false, ()) w24)) fun J17 w20 =>
 cs t14.1 (
 J17 (decide ((a1 : Int) ≥ (n12 : Int)), ()) w20) (
 J17 (false, ()) w20)) fun J13 w16 =>
 cs (decide ((a2 : Int) ≥ (1 : Int))) (
 nn a0 fun b28 o29 =>
 ldI w16 .i64 b28 (o29 + 3) fun n30 =>
 J13 (decide ((a2 : Int) ≤ (n30 : Int)), ()) w16) (
 J13 (false, ()) w16)) (
 R [.bool false] w3)
theorem tie29 (a0 : Option Addr) (a1 : Int) (a2 : Int) (R : List Value → World → Prop) (w : World) : compF Pg Try.f29 ⟨[(1, ⟨[(7, kI)], [6, 8, 9, 10, 11, 12, 13, 14, 15, 16, 17, 18, 19, 20, 21, 22, 23, 24, 25, 26, 27, 28, 29, 30, 31, 32, 33, 34, 35, 36, 37, 38, 39, 40, 41, 42, 43, 44, 45, 46, 47, 48, 49, 50, 51]⟩)], [], [], [(5, [(3, 7, ⟨[(34, kB)], [28, 29, 30, 31, 32, 33]⟩), (11, 4, ⟨[(39, kB)], [36, 37, 38]⟩), (16, 11, ⟨[(51, kB)], [41, 42, 43, 44, 45, 46, 47, 48, 49, 50]⟩)])]⟩ [.pointer a0, .int .i64 a1, .int .i64 a2] R w = sh29 a0 a1 a2 R w := by kernel_rfl
theorem call29 {a0 : Option Addr} {a1 : Int} {a2 : Int} {w : World} {K : TK [kB] → World → Prop} (h : sh29 a0 a1 a2 (fun vs w' => ∃ t, encK [kB] t = vs ∧ K t w') w) : cl Pg 29 [.pointer a0, .int .i64 a1, .int .i64 a2] [kB] w K := cl_of Try.func29 (tie29 ..) h
/-- detent/detentlaw18.PoolPlays -/
def sh7 (a0 : Bool) (a1 : Int) (a2 : Int) (a3 : Int) (a4 : Sl) (a5 : Int) (a6 : Int) (R : List Value → World → Prop) (w : World) : Prop :=
 cl Pg 8 [] [kB] w fun (r1 : Bool × Unit) w2 =>
 cs (!r1.1) (
 R [.bool false] w2) (
 cs (decide (((a4.len : Int) : Int) > (100 : Int))) (
 R [.bool true] w2) (
 cl Pg 9 [.bool a0, .int .i64 a1, .int .i64 a2, .int .i64 a3] [kP, kI] w2 fun (r3 : Option Addr × Int × Unit) w4 =>
 cl Pg 16 [.bool a0, .int .i64 a1, .int .i64 a2, .int .i64 a3] [kP, kI] w4 fun (r5 : Option Addr × Int × Unit) w6 =>
 jn [kB] w6 (fun (t8 : Bool × Unit) w9 =>
 cs t8.1 (
 R [.bool false] w9) (
 cs r5.1.isNone (
 R [.bool true] w9) (
 lp [kP, kI] w9 (r3.1, (0 : Int), ()) fun (t11 : Option Addr × Int × Unit) J12 w13 =>
 cs (decide ((t11.2.1 : Int) < ((a4.len : Int) : Int))) (
 ix a4 t11.2.1 5 fun b14 o15 =>
 ldI w13 .i64 b14 o15 fun n16 =>
 ldI w13 .i64 b14 (o15 + 1) fun n17 =>
 ldI w13 .i64 b14 (o15 + 2) fun n18 =>
 ldI w13 .i64 b14 (o15 + 3) fun n19 =>
 ldB w13 b14 (o15 + 4) fun b20 =>
 al w13 54 [.int .i64 0, .int .i64 0, .int .i64 0, .int .i64 0, .bool false] fun b21 w22 =>
 st1 w22 b21 0 (.int .i64 n16) fun w23 =>
 st1 w23 b21 (0 + 1) (.int .i64 n17) fun w24 =>
 st1 w24 b21 (0 + 2) (.int .i64 n18) fun w25 =>
 st1 w25 b21 (0 + 3) (.int .i64 n19) fun w26 =>
 st1 w26 b21 (0 + 4) (.bool b20) fun w27 =>
 ldI w27 .i64 b21 0 fun n28 =>
 jn [kP] w27 (fun (t30 : Option Addr × Unit) w31 =>
 dr w31 fun w33 =>
 jn [kB] w33 (fun (t35 : Bool × Unit) w36 =>
 cs t35.1 (
 R [.bool false] w36) (
 J12 (t30.1, w64 (t11.2.1 + 1), ()) w36)) fun J34 w37 =>
 cl Pg 11 [.pointer t30.1] [kI] w37 fun (r38 : Int × Unit) w39 =>
 cl Pg 25 [.pointer r5.1] [kI] w39 fun (r40 : Int × Unit) w41 =>
 cs ((r38.1 : Int) != (r40.1 : Int)) (
 J34 (true, ()) w41) (
 nn r5.1 fun b42 o43 =>
 ldS w41 b42 (o43 + 6) fun s44 =>
 cl Pg 13 [.pointer t30.1] [kS] w41 fun (r45 : Sl × Unit) w46 =>
(w46.cell? ⟨b42, o43 + 6, none⟩ = some (vS s44)) ∧ (
 cl Pg 26 [vS r45.1, vS s44] [kB] w46 fun (r47 : Bool × Unit) w48 =>
 cs (!r47.1) (
 J34 (true, ()) w48) (
 nn t30.1 fun b49 o50 =>
 ldP w48 b49 o50 fun p51 =>
 nn r5.1 fun b52 o53 =>
 ldP w48 b52 o53 fun p54 =>
 cl Pg 27 [.pointer p51, .pointer p54] [kB] w48 fun (r55 : Bool × Unit) w56 =>
 cs (!r55.1) (
 J34 (true, ()) w56) (
 cl Pg 28 [.pointer t30.1, .int .i64 a5, .int .i64 a6] [kB] w56 fun (r57 : Bool × Unit) w58 =>
 cl Pg 29 [.pointer r5.1, .int .i64 a5, .int .i64 a6] [kB] w58 fun (r59 : Bool × Unit) w60 =>
 J34 (!(r57.1 == r59.1), ()) w60))))) fun J29 w32 =>
 cs ((n28 : Int) == (1 : Int)) (
 ldI w32 .i64 b21 (0 + 1) fun n61 =>
 ldI w32 .i64 b21 (0 + 2) fun n62 =>
 cl Pg 14 [.pointer t11.1, .int .i64 n61, .int .i64 n62] [kI, kB, kI] w32 fun (r63 : Int × Bool × Int × Unit) w65 =>
 ldI w65 .i64 b21 (0 + 1) fun n66 =>
 ldI w65 .i64 b21 (0 + 2) fun n67 =>
 cl Pg 17 [.pointer r5.1, .int .i64 n66, .int .i64 n67] [kI, kB, kI] w65 fun (r68 : Int × Bool × Int × Unit) w69 =>
 jn [kB] w69 (fun (t71 : Bool × Unit) w72 =>
 jn [kB] w72 (fun (t75 : Bool × Unit) w76 =>
 cs t75.1 (
 R [.bool false] w76) (
 J29 (t11.1, ()) w76)) fun J74 w77 =>
 cs t71.1 (
 J74 (true, ()) w77) (
 J74 ((r63.2.2.1 : Int) != (r68.2.2.1 : Int), ()) w77)) fun J70 w73 =>
 cs ((r63.1 : Int) != (r68.1 : Int)) (
 J70 (true, ()) w73) (
 J70 (!(r63.2.1 == r68.2.1), ()) w73)) (
 jn [kP] w32 (fun (t79 : Option Addr × Unit) w80 =>
 J29 (t79.1, ()) w80) fun J78 w81 =>
 cs ((n28 : Int) == (2 : Int)) (
 cl Pg 10 [.pointer t11.1] [kI, kB] w81 fun (r82 : Int × Bool × Unit) w83 =>
 cl Pg 18 [.pointer r5.1] [kI, kB] w83 fun (r84 : Int × Bool × Unit) w85 =>
 jn [kB] w85 (fun (t87 : Bool × Unit) w88 =>
 cs t87.1 (
 R [.bool false] w88) (
 J78 (t11.1, ()) w88)) fun J86 w89 =>
 cs ((r82.1 : Int) != (r84.1 : Int)) (
 J86 (true, ()) w89) (
 J86 (!(r82.2.1 == r84.2.1), ()) w89)) (
 jn [kP] w81 (fun (t91 : Option Addr × Unit) w92 =>
 J78 (t91.1, ()) w92) fun J90 w93 =>
 cs ((n28 : Int) == (3 : Int)) (
 ldI w93 .i64 b21 (0 + 3) fun n94 =>
 ldB w93 b21 (0 + 4) fun b95 =>
 jn [kB] w93 (fun (t97 : Bool × Unit) w98 =>
 jn [kB] w98 (fun (t101 : Bool × Unit) w102 =>
 jn [kI] w102 (fun (t105 : Int × Unit) w106 =>
 cl Pg 12 [.pointer t11.1, .int .i64 t105.1] [kI, kI] w106 fun (r108 : Int × Int × Unit) w109 =>
 cl Pg 19 [.pointer r5.1, .int .i64 t105.1] [kI, kI] w109 fun (r110 : Int × Int × Unit) w111 =>
 jn [kB] w111 (fun (t113 : Bool × Unit) w114 =>
 cs t113.1 (
 R [.bool false] w114) (
 J90 (t11.1, ()) w114)) fun J112 w115 =>
 cs ((r108.1 : Int) != (r110.1 : Int)) (
 J112 (true, ()) w115) (
 J112 ((r108.2.1 : Int) != (r110.2.1 : Int), ()) w115)) fun J104 w107 =>
 cs t101.1 (
 dr w107 fun w116 =>
 nn r5.1 fun b117 o118 =>
 ldS w116 b117 (o118 + 6) fun s119 =>
 ldI w116 .i64 b21 (0 + 3) fun n120 =>
 nn r5.1 fun b121 o122 =>
 ldS w116 b121 (o122 + 6) fun s123 =>
 ob ((s123.len : Int) ≠ 0) (
 ix s119 (Int.tmod n120 (s123.len : Int)) 1 fun b124 o125 =>
 ldI w116 .i64 b124 o125 fun n126 =>
 J104 (n126, ()) w116)) (
 J104 (n94, ()) w107)) fun J100 w103 =>
 cs t97.1 (
 nn r5.1 fun b127 o128 =>
 ldS w103 b127 (o128 + 6) fun s129 =>
 J100 (decide (((s129.len : Int) : Int) > (0 : Int)), ()) w103) (
 J100 (false, ()) w103)) fun J96 w99 =>
 cs b95 (
 ldI w99 .i64 b21 (0 + 3) fun n130 =>
 J96 (decide ((n130 : Int) ≥ (0 : Int)), ()) w99) (
 J96 (false, ()) w99)) (
 jn [kP] w93 (fun (t132 : Option Addr × Unit) w133 =>
 J90 (t132.1, ()) w133) fun J131 w134 =>
 cs ((n28 : Int) == (4 : Int)) (
 dr w134 fun w135 =>
 nn t11.1 fun b136 o137 =>
 ldP w135 b136 o137 fun p138 =>
 nn p138 fun b139 o140 =>
 ldI w135 .i64 b21 (0 + 1) fun n141 =>
 nn r5.1 fun b142 o143 =>
 ldP w135 b142 o143 fun p144 =>
 ldI w135 .i64 b21 (0 + 1) fun n145 =>
 cl Pg 20 [.pointer (some ⟨b139, o140, none⟩), .int .i64 n141] [kB] w135 fun (r146 : Bool × Unit) w147 =>
(w147.cell? ⟨b21, 0 + 1, none⟩ = some (.int .i64 n145)) ∧ (
(w147.cell? ⟨b142, o143, none⟩ = some (.pointer p144)) ∧ (
 cl Pg 21 [.pointer p144, .int .i64 n145] [kB] w147 fun (r148 : Bool × Unit) w149 =>
 cs (!(r146.1 == r148.1)) (
 R [.bool false] w149) (
 J131 (t11.1, ()) w149)))) (
 jn [kP] w134 (fun (t151 : Option Addr × Unit) w152 =>
 J131 (t151.1, ()) w152) fun J150 w153 =>
 cs ((n28 : Int) == (5 : Int)) (
 dr w153 fun w154 =>
 nn t11.1 fun b155 o156 =>
 ldP w154 b155 o156 fun p157 =>
 ldI w154 .i64 b21 (0 + 1) fun n158 =>
 ldI w154 .i64 b21 (0 + 2) fun n159 =>
 nn r5.1 fun b160 o161 =>
 ldP w154 b160 o161 fun p162 =>
 ldI w154 .i64 b21 (0 + 1) fun n163 =>
 ldI w154 .i64 b21 (0 + 2) fun n164 =>
 cl Pg 22 [.pointer p157, .int .i64 n158, .int .i64 n159] [kB] w154 fun (r165 : Bool × Unit) w166 =>
(w166.cell? ⟨b21, 0 + 2, none⟩ = some (.int .i64 n164)) ∧ (
(w166.cell? ⟨b21, 0 + 1, none⟩ = some (.int .i64 n163)) ∧ (
(w166.cell? ⟨b160, o161, none⟩ = some (.pointer p162)) ∧ (
 cl Pg 23 [.pointer p162, .int .i64 n163, .int .i64 n164] [kB] w166 fun (r167 : Bool × Unit) w168 =>
 cs (!(r165.1 == r167.1)) (
 R [.bool false] w168) (
 J150 (t11.1, ()) w168))))) (
 jn [kP] w153 (fun (t170 : Option Addr × Unit) w171 =>
 J150 (t170.1, ()) w171) fun J169 w172 =>
 cs ((n28 : Int) == (6 : Int)) (
 cl Pg 24 [.pointer t11.1] [kP] w172 fun (r173 : Option Addr × Unit) w174 =>
 cs r173.1.isNone (
 R [.bool false] w174) (
 cl Pg 10 [.pointer t11.1] [kI, kB] w174 fun (r175 : Int × Bool × Unit) w176 =>
 cl Pg 10 [.pointer t11.1] [kI, kB] w176 fun (r177 : Int × Bool × Unit) w178 =>
 J169 (r173.1, ()) w178)) (
 J169 (t11.1, ()) w172))))))) (
 R [.bool true] w13)))) fun J7 w10 =>
 cs ((r3.2.1 : Int) != (r5.2.1 : Int)) (
 J7 (true, ()) w10) (
 J7 (!(r3.1.isNone == ((r5.2.1 : Int) != (0 : Int))), ()) w10)))
theorem tie7 (a0 : Bool) (a1 : Int) (a2 : Int) (a3 : Int) (a4 : Sl) (a5 : Int) (a6 : Int) (R : List Value → World → Prop) (w : World) : compF Pg Try.f7 ⟨[(5, ⟨[(15, kP), (19, kI)], [14, 20, 21, 22, 23, 24, 25, 26, 27, 28, 29, 30, 31, 32, 33, 34, 35, 36, 70, 71, 72, 73, 74, 75, 76, 77, 78, 79, 80, 81, 82, 83, 84, 85, 86, 87, 88, 89, 90, 91, 92, 93, 94, 95, 96, 97, 98, 99, 100, 101, 102, 103, 104, 105, 106, 107, 108, 109, 110, 111, 112, 113, 114, 115, 116, 117, 118, 119, 120, 121, 122, 123, 124, 125, 126, 127, 128, 129, 130, 131, 132, 133, 134, 135, 136, 137, 138, 139, 140, 141, 142, 143, 144, 145, 146, 147, 148, 149, 150, 151, 152, 153, 154, 155, 156, 157, 158, 159, 160, 161, 162, 163, 164, 165, 166, 167, 168, 169, 170, 171, 172, 173, 174, 175, 176, 177, 178, 179, 180, 181, 182, 183, 184, 185, 186, 187, 188, 189, 190, 191, 192, 193, 194, 195, 196, 197, 198, 199, 200, 201, 202, 203, 204, 205, 206, 207, 208, 209, 210, 211, 212, 213, 214, 215, 216, 217, 218, 219, 220, 221, 222, 223, 224, 225, 226, 227, 228, 229, 230, 231, 232, 233, 234, 235, 236, 237, 238, 239, 240, 241, 242, 243, 244, 245, 246, 247, 248, 249, 250, 251, 252, 253, 254, 255, 256, 257, 258, 259, 260, 261, 262, 263, 264, 265, 266, 267, 268, 269, 270, 271, 272, 273, 274, 275, 276, 277, 278]⟩), (9, ⟨[(15, kP)], [14, 21, 22, 23, 24, 25, 26, 27, 28, 29, 30, 31, 32, 33, 34, 35, 36, 84, 85, 86, 87, 88, 89, 90, 91, 92, 93, 94, 95, 96, 97, 98, 99, 100, 101, 102, 103, 104, 105, 106, 107, 108, 109, 110, 111, 112, 113, 114, 115, 116, 117, 118, 119, 120, 121, 122, 123, 124, 125, 126, 127, 128, 129, 130, 131, 132, 133, 134, 135, 136, 137, 138, 139, 140, 141, 142, 143, 144, 145, 146, 147, 148, 149, 150, 151, 152, 153, 154, 155, 156, 157, 158, 159, 160, 161, 162, 163, 164, 165, 166, 167, 168, 169, 170, 171, 172, 173, 174, 175, 176, 177, 178, 179, 180, 181, 182, 183, 184, 185, 186, 187, 188, 189, 190, 191, 192, 193, 194, 195, 196, 197, 198, 199, 200, 201, 202, 203, 204, 205, 206, 207, 208, 209, 210, 211, 212, 213, 214, 215, 216, 217, 218, 219, 220, 221, 222, 223, 224, 225, 226, 227, 228, 229, 230, 231, 232, 233, 234, 235, 236, 237, 238, 239, 240]⟩), (11, ⟨[(15, kP)], [14, 27, 28, 29, 30, 31, 32, 33, 34, 35, 36, 119, 120, 121, 122, 123, 124, 125, 126, 127, 128, 129, 130, 131, 132, 133, 134, 135, 136, 137, 138, 139, 140, 141, 142, 143, 144, 145, 146, 147, 148, 149, 150, 151, 152, 153, 154, 155, 156, 157, 158, 159, 160, 161, 162, 163, 164, 165, 166, 167, 168, 169, 170, 171, 172, 173, 174, 175, 176, 177, 178, 179, 180, 181, 182, 183, 184, 185, 186, 187, 188, 189, 190, 191, 192, 193, 194, 195, 196, 197, 198, 199, 200, 201, 202, 203, 204, 205, 206, 207, 208, 209, 210, 211, 212, 213, 214, 215, 216, 217, 218, 219, 220, 221, 222, 223, 224, 225, 226, 227, 228, 229, 230, 231, 232, 233, 234, 235, 236, 237, 238, 239, 240]⟩), (13, ⟨[(15, kP)], [14, 31, 32, 33, 34, 35, 36, 139, 140, 141, 142, 143, 144, 145, 146, 147, 148, 149, 150, 151, 152, 153, 154, 155, 156, 157, 158, 159, 160, 161, 162, 163, 164, 165, 166, 167, 168, 169, 170, 171, 172, 173, 174, 175, 176, 177, 178, 179, 180, 181, 182, 183, 184, 185, 186, 187, 188, 189, 190, 191, 192, 193, 194, 195, 196, 197, 198, 199, 200, 201, 202, 203, 204, 205, 206, 207, 208, 209, 210, 211, 212, 213, 214, 215, 216, 217, 218, 219, 220, 221, 222, 223, 224, 225, 226, 227, 228, 229, 230, 231, 232, 233, 234, 235, 236, 237, 238, 239, 240]⟩), (14, ⟨[(31, kI)], [156, 157, 158, 159, 160, 161, 162, 163, 164, 165, 166, 167, 168, 169]⟩), (16, ⟨[(15, kP)], [14, 36, 192, 193, 194, 195, 196, 197, 198, 199, 200, 201, 202, 203, 204, 205, 206, 207, 208, 209, 210, 211, 212, 213, 214, 215, 216, 217, 218, 219, 220, 221, 222, 223, 224, 225, 226, 227, 228, 229, 230, 231, 232, 233, 234, 235, 236, 237, 238, 239, 240]⟩), (18, ⟨[(15, kP)], [14, 36, 211, 212, 213, 214, 215, 216, 217, 218, 219, 220, 221, 222, 223, 224, 225, 226, 227, 228, 229, 230, 231, 232, 233, 234, 235, 236, 237, 238, 239, 240]⟩), (20, ⟨[(15, kP)], [14, 36, 232, 233, 234, 235, 236, 237, 238, 239, 240]⟩)], [(47, ⟨[(278, kB)], [241, 242, 243, 244, 245, 246, 247, 248, 249, 250, 251, 252, 253, 254, 255, 256, 257, 258, 259, 260, 261, 262, 263, 264, 265, 266, 267, 268, 269, 270, 271, 272, 273, 274, 275, 276, 277]⟩)], [(47, .l [(0, []), (2, []), (1, [0]), (3, [2, 1, 0]), (4, []), (5, []), (6, []), (8, []), (9, []), (10, []), (11, []), (7, [6, 5, 4, 3, 1, 2, 0]), (12, [7, 11, 5, 6, 10, 4, 3, 9, 1, 2, 8, 0]), (13, []), (14, []), (15, []), (16, []), (17, []), (18, []), (19, []), (20, []), (21, []), (22, []), (23, []), (24, [19, 23, 15, 18, 22, 14, 12, 17, 21, 5, 13, 7, 11, 16, 20, 4, 3, 6, 10, 1, 2, 9, 0, 8]), (25, []), (26, []), (27, []), (28, []), (29, []), (30, []), (32, []), (33, []), (34, []), (31, [28, 29, 30, 27, 26, 24, 15, 25, 19, 23, 14, 12, 18, 22, 5, 13, 7, 11, 17, 21, 4, 3, 6, 10, 16, 20, 1, 2, 9, 0, 8]), (35, [32, 33, 34, 31, 27, 28, 29, 30, 26, 24, 15, 25, 19, 23, 14, 12, 18, 22, 5, 13, 7, 11, 17, 21, 4, 3, 6, 10, 16, 20, 1, 2, 9, 0, 8]), (36, []), (37, [])]), (29, .l [(0, []), (1, []), (2, []), (3, []), (4, []), (5, []), (6, []), (7, []), (8, []), (9, []), (10, []), (11, []), (12, []), (13, []), (14, [])]), (35, .l [(0, []), (1, []), (2, []), (3, []), (4, []), (5, []), (6, []), (7, []), (9, []), (10, []), (11, []), (12, []), (13, []), (14, []), (8, [5, 7, 4, 6, 3, 2, 1, 0]), (15, [12, 14, 8, 11, 13, 5, 7, 10, 4, 6, 9, 3, 2, 1, 0]), (16, [])]), (38, .l [(0, []), (1, []), (2, []), (3, []), (4, []), (5, []), (6, []), (7, []), (9, []), (10, []), (11, []), (12, []), (13, []), (14, []), (15, []), (16, []), (8, [3, 5, 7, 2, 4, 6, 1, 0]), (17, [12, 14, 16, 8, 11, 13, 15, 3, 5, 7, 10, 2, 4, 6, 9, 1, 0]), (18, [])])], [(7, [(4, 6, ⟨[(67, kB)], [62, 63, 64, 65, 66]⟩)]), (19, [(4, 4, ⟨[(111, kB)], [108, 109, 110]⟩), (9, 4, ⟨[(116, kB)], [113, 114, 115]⟩)]), (24, [(4, 4, ⟨[(136, kB)], [133, 134, 135]⟩)]), (28, [(3, 4, ⟨[(147, kB)], [144, 145, 146]⟩), (8, 7, ⟨[(155, kB)], [149, 150, 151, 152, 153, 154]⟩)]), (32, [(4, 4, ⟨[(189, kB)], [186, 187, 188]⟩)])]⟩ [.bool a0, .int .i64 a1, .int .i64 a2, .int .i64 a3, vS a4, .int .i64 a5, .int .i64 a6] R w = sh7 a0 a1 a2 a3 a4 a5 a6 R w := by kernel_rfl
theorem call7 {a0 : Bool} {a1 : Int} {a2 : Int} {a3 : Int} {a4 : Sl} {a5 : Int} {a6 : Int} {w : World} {K : TK [kB] → World → Prop} (h : sh7 a0 a1 a2 a3 a4 a5 a6 (fun vs w' => ∃ t, encK [kB] t = vs ∧ K t w') w) : cl Pg 7 [.bool a0, .int .i64 a1, .int .i64 a2, .int .i64 a3, vS a4, .int .i64 a5, .int .i64 a6] [kB] w K := cl_of Try.func7 (tie7 ..) h
end Go.Proofs.Ytbdgglhfmanfbaa.B
