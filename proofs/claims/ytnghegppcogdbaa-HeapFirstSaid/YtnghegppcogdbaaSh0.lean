/- Printed by sh.py: each Go function as a typed shallow program, and its tie to the code. -/
import Derived.Test.YtnghegppcogdbaaSound4
import Derived.Test.YtnghegppcogdbaaProg
namespace Go.Proofs.Ytnghegppcogdbaa.B
open Go Go.Proofs
set_option linter.unusedVariables false
set_option maxRecDepth 100000
noncomputable abbrev Pg : Program := Try.prog
/-- detent/order.New -/
def sh31 (a0 : Bool) (R : List Value → World → Prop) (w : World) : Prop :=
 al w 50 [.slice none 0 0, .bool a0] fun b1 w2 =>
 R [.pointer (some ⟨b1, 0, none⟩)] w2
theorem tie31 (a0 : Bool) (R : List Value → World → Prop) (w : World) : compF Pg Try.f31 ⟨[], [], [], []⟩ [.bool a0] R w = sh31 a0 R w := by kernel_rfl
theorem call31 {a0 : Bool} {w : World} {K : TK [kP] → World → Prop} (h : sh31 a0 (fun vs w' => ∃ t, encK [kP] t = vs ∧ K t w') w) : cl Pg 31 [.bool a0] [kP] w K := cl_of Try.func31 (tie31 ..) h
/-- detent/mpl.NewPool -/
def sh8 (a0 : Bool) (a1 : Int) (a2 : Int) (R : List Value → World → Prop) (w : World) : Prop :=
 jn [kB] w (fun (t2 : Bool × Unit) w3 =>
 jn [kB] w3 (fun (t6 : Bool × Unit) w7 =>
 jn [kB] w7 (fun (t10 : Bool × Unit) w11 =>
 jn [kB] w11 (fun (t14 : Bool × Unit) w15 =>
 jn [kB] w15 (fun (t18 : Bool × Unit) w19 =>
 cs t18.1 (
 R [.pointer none, .int .i64 (-17)] w19) (
 cl Pg 31 [.bool a0] [kP] w19 fun (r21 : Option Addr × Unit) w22 =>
 ef Pg (Instr.makeMap 43 none) [kM] w22 fun (r23 : Option Nat × Unit) w24 =>
 al w24 45 [.pointer r21.1, .int .i64 a1, .int .i64 a2, .slice none 0 0, .map r23.1] fun b25 w26 =>
 R [.pointer (some ⟨b25, 0, none⟩), .int .i64 0] w26)) fun J17 w20 =>
 cs t14.1 (
 J17 (true, ()) w20) (
 J17 ((Int.tmod a2 8 : Int) != (0 : Int), ()) w20)) fun J13 w16 =>
 cs t10.1 (
 J13 (true, ()) w16) (
 J13 (decide ((a2 : Int) > (w64 (65536 - a1) : Int)), ()) w16)) fun J9 w12 =>
 cs t6.1 (
 J9 (true, ()) w12) (
 J9 (decide ((a2 : Int) < (8 : Int)), ()) w12)) fun J5 w8 =>
 cs t2.1 (
 J5 (true, ()) w8) (
 J5 ((Int.tmod a1 8 : Int) != (0 : Int), ()) w8)) fun J1 w4 =>
 cs (decide ((a1 : Int) < (0 : Int))) (
 J1 (true, ()) w4) (
 J1 (decide ((a1 : Int) > (65536 : Int)), ()) w4)
theorem tie8 (a0 : Bool) (a1 : Int) (a2 : Int) (R : List Value → World → Prop) (w : World) : compF Pg Try.f8 ⟨[], [], [], [(1, [(3, 3, ⟨[(13, kB)], [11, 12]⟩), (7, 4, ⟨[(18, kB)], [15, 16, 17]⟩), (12, 3, ⟨[(22, kB)], [20, 21]⟩), (16, 5, ⟨[(28, kB)], [24, 25, 26, 27]⟩), (22, 4, ⟨[(33, kB)], [30, 31, 32]⟩)])]⟩ [.bool a0, .int .i64 a1, .int .i64 a2] R w = sh8 a0 a1 a2 R w := by kernel_rfl
theorem call8 {a0 : Bool} {a1 : Int} {a2 : Int} {w : World} {K : TK [kP, kI] → World → Prop} (h : sh8 a0 a1 a2 (fun vs w' => ∃ t, encK [kP, kI] t = vs ∧ K t w') w) : cl Pg 8 [.bool a0, .int .i64 a1, .int .i64 a2] [kP, kI] w K := cl_of Try.func8 (tie8 ..) h
/-- detent/nums.Align -/
def sh76 (a0 : Int) (a1 : Int) (R : List Value → World → Prop) (w : World) : Prop :=
 jn [kB] w (fun (t2 : Bool × Unit) w3 =>
 jn [kB] w3 (fun (t6 : Bool × Unit) w7 =>
 jn [kB] w7 (fun (t10 : Bool × Unit) w11 =>
 cs t10.1 (
 R [.int .i64 a0] w11) (
 ob (a1 ≠ 0) (
 R [.int .i64 (w64 ((w64 (Int.tdiv (w64 ((w64 (a0 + a1)) - 1)) a1)) * a1))] w11))) fun J9 w12 =>
 cs t6.1 (
 J9 (true, ()) w12) (
 J9 (decide ((a1 : Int) > (4096 : Int)), ()) w12)) fun J5 w8 =>
 cs t2.1 (
 J5 (true, ()) w8) (
 J5 (decide ((a1 : Int) < (1 : Int)), ()) w8)) fun J1 w4 =>
 cs (decide ((a0 : Int) < (0 : Int))) (
 J1 (true, ()) w4) (
 J1 (decide ((a0 : Int) > (1073741824 : Int)), ()) w4)
theorem tie76 (a0 : Int) (a1 : Int) (R : List Value → World → Prop) (w : World) : compF Pg Try.f76 ⟨[], [], [], [(1, [(3, 3, ⟨[(10, kB)], [8, 9]⟩), (7, 3, ⟨[(14, kB)], [12, 13]⟩), (11, 3, ⟨[(18, kB)], [16, 17]⟩)])]⟩ [.int .i64 a0, .int .i64 a1] R w = sh76 a0 a1 R w := by kernel_rfl
theorem call76 {a0 : Int} {a1 : Int} {w : World} {K : TK [kI] → World → Prop} (h : sh76 a0 a1 (fun vs w' => ∃ t, encK [kI] t = vs ∧ K t w') w) : cl Pg 76 [.int .i64 a0, .int .i64 a1] [kI] w K := cl_of Try.func76 (tie76 ..) h
/-- detent/mpl.takes -/
def sh63 (a0 : Int) (R : List Value → World → Prop) (w : World) : Prop :=
 cl Pg 76 [.int .i64 a0, .int .i64 8] [kI] w fun (r1 : Int × Unit) w2 =>
 R [.int .i64 (w64 (8 + r1.1))] w2
theorem tie63 (a0 : Int) (R : List Value → World → Prop) (w : World) : compF Pg Try.f63 ⟨[], [], [], []⟩ [.int .i64 a0] R w = sh63 a0 R w := by kernel_rfl
theorem call63 {a0 : Int} {w : World} {K : TK [kI] → World → Prop} (h : sh63 a0 (fun vs w' => ∃ t, encK [kI] t = vs ∧ K t w') w) : cl Pg 63 [.int .i64 a0] [kI] w K := cl_of Try.func63 (tie63 ..) h
/-- (*detent/mpl.Pool).gap -/
def sh34 (a0 : Option Addr) (a1 : Int) (R : List Value → World → Prop) (w : World) : Prop :=
 dr w fun w1 =>
 nn a0 fun b2 o3 =>
 ldI w1 .i64 b2 (o3 + 1) fun n4 =>
 nn a0 fun b5 o6 =>
 ldI w1 .i64 b5 (o6 + 1) fun n7 =>
 nn a0 fun b8 o9 =>
 ldI w1 .i64 b8 (o9 + 2) fun n10 =>
 jn [kI] w1 (fun (t12 : Int × Unit) w13 =>
 nn a0 fun b15 o16 =>
 ldS w13 b15 (o16 + 3) fun s17 =>
 jn [kI] w13 (fun (t19 : Int × Unit) w20 =>
 R [.int .i64 t12.1, .int .i64 (w64 (t19.1 - t12.1))] w20) fun J18 w21 =>
 cs (decide ((a1 : Int) < ((s17.len : Int) : Int))) (
 nn a0 fun b22 o23 =>
 ldS w21 b22 (o23 + 3) fun s24 =>
 ix s24 a1 2 fun b25 o26 =>
 ldI w21 .i64 b25 o26 fun n27 =>
 J18 (n27, ()) w21) (
 J18 (w64 (n7 + n10), ()) w21)) fun J11 w14 =>
 cs (decide ((a1 : Int) > (0 : Int))) (
 dr w14 fun w28 =>
 nn a0 fun b29 o30 =>
 ldS w28 b29 (o30 + 3) fun s31 =>
 ix s31 (w64 (a1 - 1)) 2 fun b32 o33 =>
 ldI w28 .i64 b32 o33 fun n34 =>
 nn a0 fun b35 o36 =>
 ldS w28 b35 (o36 + 3) fun s37 =>
 ix s37 (w64 (a1 - 1)) 2 fun b38 o39 =>
 ldI w28 .i64 b38 (o39 + 1) fun n40 =>
 cl Pg 63 [.int .i64 n40] [kI] w28 fun (r41 : Int × Unit) w42 =>
(w42.cell? ⟨b32, o33, none⟩ = some (.int .i64 n34)) ∧ (
(w42.cell? ⟨b29, o30 + 3, none⟩ = some (vS s31)) ∧ (
 J11 (w64 (n34 + r41.1), ()) w42))) (
 J11 (n4, ()) w14)
theorem tie34 (a0 : Option Addr) (a1 : Int) (R : List Value → World → Prop) (w : World) : compF Pg Try.f34 ⟨[(0, ⟨[(6, kI)], [23, 24, 25, 26, 27, 28, 29, 30, 31, 32, 33, 34, 35, 36, 37, 38, 39, 40, 41, 42]⟩), (1, ⟨[(7, kI)], [50, 51, 52, 53, 54, 55, 56, 57]⟩)], [], [(1, .l [(0, []), (1, []), (2, []), (3, []), (4, []), (5, []), (6, []), (7, []), (8, []), (9, []), (10, []), (11, []), (12, []), (13, []), (14, [])]), (3, .l [(0, []), (1, []), (2, []), (3, []), (4, []), (5, []), (6, []), (7, []), (8, []), (9, []), (10, []), (11, []), (12, []), (13, []), (14, []), (15, []), (16, []), (17, []), (18, [17, 16, 15, 12, 14, 11, 13, 10, 9]), (19, []), (20, [])])], []⟩ [.pointer a0, .int .i64 a1] R w = sh34 a0 a1 R w := by kernel_rfl
theorem call34 {a0 : Option Addr} {a1 : Int} {w : World} {K : TK [kI, kI] → World → Prop} (h : sh34 a0 a1 (fun vs w' => ∃ t, encK [kI, kI] t = vs ∧ K t w') w) : cl Pg 34 [.pointer a0, .int .i64 a1] [kI, kI] w K := cl_of Try.func34 (tie34 ..) h
/-- (*detent/mpl.Pool).Free -/
def sh10 (a0 : Option Addr) (R : List Value → World → Prop) (w : World) : Prop :=
 nn a0 fun b1 o2 =>
 ldS w b1 (o2 + 3) fun s3 =>
 lp [kI, kI, kI] w ((0 : Int), (0 : Int), (0 : Int), ()) fun (t4 : Int × Int × Int × Unit) J5 w6 =>
 cs (decide ((t4.2.2.1 : Int) < (w64 ((s3.len : Int) + 1) : Int))) (
 cl Pg 34 [.pointer a0, .int .i64 t4.2.2.1] [kI, kI] w6 fun (r7 : Int × Int × Unit) w8 =>
 J5 (w64 (t4.1 + r7.2.1), (if (w64 (r7.2.1 - 8)) > t4.2.1 then w64 (r7.2.1 - 8) else t4.2.1), w64 (t4.2.2.1 + 1), ()) w8) (
 R [.int .i64 t4.1, .int .i64 t4.2.1] w6)
theorem tie10 (a0 : Option Addr) (R : List Value → World → Prop) (w : World) : compF Pg Try.f10 ⟨[(1, ⟨[(2, kI), (3, kI), (13, kI)], [4, 5, 6, 14, 15, 16, 17, 18, 19, 20, 21, 22, 23, 24, 25, 26, 27, 28, 29]⟩)], [], [], []⟩ [.pointer a0] R w = sh10 a0 R w := by kernel_rfl
theorem call10 {a0 : Option Addr} {w : World} {K : TK [kI, kI] → World → Prop} (h : sh10 a0 (fun vs w' => ∃ t, encK [kI, kI] t = vs ∧ K t w') w) : cl Pg 10 [.pointer a0] [kI, kI] w K := cl_of Try.func10 (tie10 ..) h
/-- slices.IndexFunc[[]detent/mpl.block,detent/mpl.block] -/
def sh35 (a0 : Sl) (a1 : Fv) (R : List Value → World → Prop) (w : World) : Prop :=
 lp [kI] w ((0 : Int), ()) fun (t1 : Int × Unit) J2 w3 =>
 cs (decide ((t1.1 : Int) < ((a0.len : Int) : Int))) (
 ix a0 t1.1 2 fun b4 o5 =>
 ldI w3 .i64 b4 o5 fun n6 =>
 ldI w3 .i64 b4 (o5 + 1) fun n7 =>
 ob (enterable Pg a1.fid = true) (
 cl Pg a1.fid (a1.pre ++ ([.agg #[.int .i64 n6, .int .i64 n7]] ++ a1.post)) [kB] w3 fun (r8 : Bool × Unit) w9 =>
 cs r8.1 (
 R [.int .i64 t1.1] w9) (
 J2 (w64 (t1.1 + 1), ()) w9))) (
 R [.int .i64 (-1)] w3)
theorem tie35 (a0 : Sl) (a1 : Fv) (R : List Value → World → Prop) (w : World) : compF Pg Try.f35 ⟨[(1, ⟨[(8, kI)], [4, 5, 9, 10, 11, 12, 13, 14, 15, 16, 17, 18]⟩)], [], [], []⟩ [vS a0, vF a1] R w = sh35 a0 a1 R w := by kernel_rfl
theorem call35 {a0 : Sl} {a1 : Fv} {w : World} {K : TK [kI] → World → Prop} (h : sh35 a0 a1 (fun vs w' => ∃ t, encK [kI] t = vs ∧ K t w') w) : cl Pg 35 [vS a0, vF a1] [kI] w K := cl_of Try.func35 (tie35 ..) h
/-- (*detent/mpl.Pool).Put$1 -/
def sh36 (a0 : (Int × Int × Unit)) (c0 : Nat) (R : List Value → World → Prop) (w : World) : Prop :=
 al w 90 [.int .i64 a0.1, .int .i64 a0.2.1] fun b1 w2 =>
 ldI w2 .i64 b1 0 fun n3 =>
 ldI w2 .i64 c0 0 fun n4 =>
 R [.bool ((w64 (n3 + 8) : Int) == (n4 : Int))] w2
theorem tie36 (a0 : (Int × Int × Unit)) (c0 : Nat) (R : List Value → World → Prop) (w : World) : compF Pg Try.f36 ⟨[], [], [], []⟩ [.agg #[.int .i64 a0.1, .int .i64 a0.2.1], .pointer (some ⟨c0, 0, none⟩)] R w = sh36 a0 c0 R w := by kernel_rfl
theorem call36 {a0 : (Int × Int × Unit)} {c0 : Nat} {w : World} {K : TK [kB] → World → Prop} (h : sh36 a0 c0 (fun vs w' => ∃ t, encK [kB] t = vs ∧ K t w') w) : cl Pg 36 [.agg #[.int .i64 a0.1, .int .i64 a0.2.1], .pointer (some ⟨c0, 0, none⟩)] [kB] w K := cl_of Try.func36 (tie36 ..) h
/-- slices.Delete[[]detent/mpl.block,detent/mpl.block] -/
def sh37 (a0 : Sl) (a1 : Int) (a2 : Int) (R : List Value → World → Prop) (w : World) : Prop :=
 sb a0 a1 a2 (a0.len : Int) 2 fun s1 =>
 cs ((a1 : Int) == (a2 : Int)) (
 R [vS a0] w) (
 dr w fun w2 =>
 sb a0 0 a1 a0.cap 2 fun s3 =>
 sb a0 a2 a0.len a0.cap 2 fun s4 =>
 ef Pg (Builtin.append_ #[42, 42] 42 #[vS s3, vS s4]) [kS] w2 fun (r5 : Sl × Unit) w6 =>
 sb r5.1 (r5.1.len : Int) (a0.len : Int) r5.1.cap 2 fun s7 =>
 ef Pg (Builtin.clear_ #[42] 0 #[vS s7]) [] w6 fun (r8 : Unit) w9 =>
 R [vS r5.1] w9)
theorem tie37 (a0 : Sl) (a1 : Int) (a2 : Int) (R : List Value → World → Prop) (w : World) : compF Pg Try.f37 ⟨[], [], [(5, .l [(0, []), (1, []), (2, []), (3, []), (4, []), (5, []), (6, [2, 5, 0, 1, 3, 4]), (7, [])])], []⟩ [vS a0, .int .i64 a1, .int .i64 a2] R w = sh37 a0 a1 a2 R w := by kernel_rfl
theorem call37 {a0 : Sl} {a1 : Int} {a2 : Int} {w : World} {K : TK [kS] → World → Prop} (h : sh37 a0 a1 a2 (fun vs w' => ∃ t, encK [kS] t = vs ∧ K t w') w) : cl Pg 37 [vS a0, .int .i64 a1, .int .i64 a2] [kS] w K := cl_of Try.func37 (tie37 ..) h
/-- slices.Reverse[[]detent/mpl.block,detent/mpl.block] -/
def sh84 (a0 : Sl) (R : List Value → World → Prop) (w : World) : Prop :=
 lp [kI, kI] w ((0 : Int), w64 ((a0.len : Int) - 1), ()) fun (t1 : Int × Int × Unit) J2 w3 =>
 cs (decide ((t1.1 : Int) < (t1.2.1 : Int))) (
 dr w3 fun w4 =>
 ix a0 t1.2.1 2 fun b5 o6 =>
 ldI w4 .i64 b5 o6 fun n7 =>
 ldI w4 .i64 b5 (o6 + 1) fun n8 =>
 ix a0 t1.1 2 fun b9 o10 =>
 ldI w4 .i64 b9 o10 fun n11 =>
 ldI w4 .i64 b9 (o10 + 1) fun n12 =>
 ix a0 t1.1 2 fun b13 o14 =>
 st1 w4 b13 o14 (.int .i64 n7) fun w15 =>
 st1 w15 b13 (o14 + 1) (.int .i64 n8) fun w16 =>
 ix a0 t1.2.1 2 fun b17 o18 =>
 st1 w16 b17 o18 (.int .i64 n11) fun w19 =>
 st1 w19 b17 (o18 + 1) (.int .i64 n12) fun w20 =>
 J2 (w64 (t1.1 + 1), w64 (t1.2.1 - 1), ()) w20) (
 R [] w3)
theorem tie84 (a0 : Sl) (R : List Value → World → Prop) (w : World) : compF Pg Try.f84 ⟨[(1, ⟨[(2, kI), (3, kI)], [7, 8, 9, 10, 11, 12, 13, 14, 15, 16, 17, 18, 19, 20, 21, 22, 23, 24, 25, 26, 27]⟩)], [], [(3, .l [(0, []), (1, []), (2, []), (3, []), (4, []), (5, []), (6, []), (7, []), (8, []), (9, []), (10, []), (11, []), (12, []), (13, [12, 7, 0, 1, 4, 5, 6, 11, 10, 8, 9]), (14, []), (15, [14, 11, 13, 0, 1, 2, 3, 4, 5, 6, 7, 8, 9, 10, 12])])], []⟩ [vS a0] R w = sh84 a0 R w := by kernel_rfl
theorem call84 {a0 : Sl} {w : World} {K : TK [] → World → Prop} (h : sh84 a0 (fun vs w' => ∃ t, encK [] t = vs ∧ K t w') w) : cl Pg 84 [vS a0] [] w K := cl_of Try.func84 (tie84 ..) h
/-- slices.rotateLeft[detent/mpl.block] -/
def sh82 (a0 : Sl) (a1 : Int) (R : List Value → World → Prop) (w : World) : Prop :=
 sb a0 0 a1 a0.cap 2 fun s1 =>
 cl Pg 84 [vS s1] [] w fun (r2 : Unit) w3 =>
 sb a0 a1 a0.len a0.cap 2 fun s4 =>
 cl Pg 84 [vS s4] [] w3 fun (r5 : Unit) w6 =>
 cl Pg 84 [vS a0] [] w6 fun (r7 : Unit) w8 =>
 R [] w8
theorem tie82 (a0 : Sl) (a1 : Int) (R : List Value → World → Prop) (w : World) : compF Pg Try.f82 ⟨[], [], [], []⟩ [vS a0, .int .i64 a1] R w = sh82 a0 a1 R w := by kernel_rfl
theorem call82 {a0 : Sl} {a1 : Int} {w : World} {K : TK [] → World → Prop} (h : sh82 a0 a1 (fun vs w' => ∃ t, encK [] t = vs ∧ K t w') w) : cl Pg 82 [vS a0, .int .i64 a1] [] w K := cl_of Try.func82 (tie82 ..) h
/-- slices.rotateRight[detent/mpl.block] -/
def sh78 (a0 : Sl) (a1 : Int) (R : List Value → World → Prop) (w : World) : Prop :=
 cl Pg 82 [vS a0, .int .i64 (w64 ((a0.len : Int) - a1))] [] w fun (r1 : Unit) w2 =>
 R [] w2
theorem tie78 (a0 : Sl) (a1 : Int) (R : List Value → World → Prop) (w : World) : compF Pg Try.f78 ⟨[], [], [], []⟩ [vS a0, .int .i64 a1] R w = sh78 a0 a1 R w := by kernel_rfl
theorem call78 {a0 : Sl} {a1 : Int} {w : World} {K : TK [] → World → Prop} (h : sh78 a0 a1 (fun vs w' => ∃ t, encK [] t = vs ∧ K t w') w) : cl Pg 78 [vS a0, .int .i64 a1] [] w K := cl_of Try.func78 (tie78 ..) h
/-- slices.Insert[[]detent/mpl.block,detent/mpl.block] -/
def sh64 (a0 : Sl) (a1 : Int) (a2 : Sl) (R : List Value → World → Prop) (w : World) : Prop :=
 sb a0 a1 a0.len a0.cap 2 fun s1 =>
 cs (((a2.len : Int) : Int) == (0 : Int)) (
 R [vS a0] w) (
 cs ((a1 : Int) == ((a0.len : Int) : Int)) (
 ef Pg (Builtin.append_ #[42, 42] 42 #[vS a0, vS a2]) [kS] w fun (r2 : Sl × Unit) w3 =>
 R [vS r2.1] w3) (
 cs (decide ((w64 ((a0.len : Int) + (a2.len : Int)) : Int) > ((a0.cap : Int) : Int))) (
 sb a0 0 a1 a0.cap 2 fun s4 =>
 ef Pg (Builtin.append_ #[42, 3] 42 #[vS s4, .int .i64 (w64 ((w64 ((a0.len : Int) + (a2.len : Int))) - a1))]) [kS] w fun (r5 : Sl × Unit) w6 =>
 sb r5.1 a1 r5.1.len r5.1.cap 2 fun s7 =>
 ef Pg (Builtin.copy_ #[42, 42] 3 #[vS s7, vS a2]) [kI] w6 fun (r8 : Int × Unit) w9 =>
 dr w9 fun w10 =>
 sb r5.1 (w64 (a1 + (a2.len : Int))) r5.1.len r5.1.cap 2 fun s11 =>
 sb a0 a1 a0.len a0.cap 2 fun s12 =>
 ef Pg (Builtin.copy_ #[42, 42] 3 #[vS s11, vS s12]) [kI] w10 fun (r13 : Int × Unit) w14 =>
 R [vS r5.1] w14) (
 sb a0 0 (w64 ((a0.len : Int) + (a2.len : Int))) a0.cap 2 fun s15 =>
 sb s15 (w64 (a1 + (a2.len : Int))) s15.len s15.cap 2 fun s16 =>
 xt Pg 77 [vS a2, vS s16] [kB] w fun (r17 : Bool × Unit) w18 =>
 cs (!r17.1) (
 dr w18 fun w19 =>
 sb s15 (w64 (a1 + (a2.len : Int))) s15.len s15.cap 2 fun s20 =>
 sb s15 a1 s15.len s15.cap 2 fun s21 =>
 ef Pg (Builtin.copy_ #[42, 42] 3 #[vS s20, vS s21]) [kI] w19 fun (r22 : Int × Unit) w23 =>
 sb s15 a1 s15.len s15.cap 2 fun s24 =>
 ef Pg (Builtin.copy_ #[42, 42] 3 #[vS s24, vS a2]) [kI] w23 fun (r25 : Int × Unit) w26 =>
 R [vS s15] w26) (
 sb s15 (a0.len : Int) s15.len s15.cap 2 fun s27 =>
 ef Pg (Builtin.copy_ #[42, 42] 3 #[vS s27, vS a2]) [kI] w18 fun (r28 : Int × Unit) w29 =>
 sb s15 a1 s15.len s15.cap 2 fun s30 =>
 cl Pg 78 [vS s30, .int .i64 (a2.len : Int)] [] w29 fun (r31 : Unit) w32 =>
 R [vS s15] w32))))
theorem tie64 (a0 : Sl) (a1 : Int) (a2 : Sl) (R : List Value → World → Prop) (w : World) : compF Pg Try.f64 ⟨[], [], [(11, .l [(0, []), (1, []), (2, []), (3, []), (4, []), (5, []), (6, []), (7, []), (8, [4, 7, 0, 3, 5, 6, 1, 2])]), (15, .l [(0, []), (1, []), (2, []), (3, []), (4, []), (5, []), (6, []), (7, []), (8, [4, 7, 0, 3, 5, 6, 1, 2])])], []⟩ [vS a0, .int .i64 a1, vS a2] R w = sh64 a0 a1 a2 R w := by kernel_rfl
theorem call64 {a0 : Sl} {a1 : Int} {a2 : Sl} {w : World} {K : TK [kS] → World → Prop} (h : sh64 a0 a1 a2 (fun vs w' => ∃ t, encK [kS] t = vs ∧ K t w') w) : cl Pg 64 [vS a0, .int .i64 a1, vS a2] [kS] w K := cl_of Try.func64 (tie64 ..) h
/-- (*detent/mpl.Pool).find -/
def sh33 (a0 : Option Addr) (a1 : Int) (R : List Value → World → Prop) (w : World) : Prop :=
 nn a0 fun b1 o2 =>
 ldS w b1 (o2 + 3) fun s3 =>
 lp [kI] w ((0 : Int), ()) fun (t4 : Int × Unit) J5 w6 =>
 cs (decide ((t4.1 : Int) < (w64 ((s3.len : Int) + 1) : Int))) (
 cl Pg 34 [.pointer a0, .int .i64 t4.1] [kI, kI] w6 fun (r7 : Int × Int × Unit) w8 =>
 cl Pg 63 [.int .i64 a1] [kI] w8 fun (r9 : Int × Unit) w10 =>
 cs (decide ((r7.2.1 : Int) ≥ (r9.1 : Int))) (
 nn a0 fun b11 o12 =>
 ldS w10 b11 (o12 + 3) fun s13 =>
 al w10 90 [.int .i64 r7.1, .int .i64 a1] fun b14 w15 =>
 cl Pg 64 [vS s13, .int .i64 t4.1, vS ⟨some ⟨b14, 0, none⟩, 1, 1⟩] [kS] w15 fun (r16 : Sl × Unit) w17 =>
 nn a0 fun b18 o19 =>
 st1 w17 b18 (o19 + 3) (vS r16.1) fun w20 =>
 R [.int .i64 (w64 (r7.1 + 8)), .bool true] w20) (
 J5 (w64 (t4.1 + 1), ()) w10)) (
 R [.int .i64 0, .bool false] w6)
theorem tie33 (a0 : Option Addr) (a1 : Int) (R : List Value → World → Prop) (w : World) : compF Pg Try.f33 ⟨[(1, ⟨[(15, kI)], [4, 5, 6, 7, 8, 16, 17, 18, 19, 20, 21, 22, 23, 24, 25, 26, 27, 28, 29, 30, 31, 32, 33, 34, 35, 36, 37, 38, 39, 40, 41, 42, 43]⟩)], [], [], []⟩ [.pointer a0, .int .i64 a1] R w = sh33 a0 a1 R w := by kernel_rfl
theorem call33 {a0 : Option Addr} {a1 : Int} {w : World} {K : TK [kI, kB] → World → Prop} (h : sh33 a0 a1 (fun vs w' => ∃ t, encK [kI, kB] t = vs ∧ K t w') w) : cl Pg 33 [.pointer a0, .int .i64 a1] [kI, kB] w K := cl_of Try.func33 (tie33 ..) h
/-- slices.IndexFunc[[]detent/order.Item,detent/order.Item] -/
def sh70 (a0 : Sl) (a1 : Fv) (R : List Value → World → Prop) (w : World) : Prop :=
 lp [kI] w ((0 : Int), ()) fun (t1 : Int × Unit) J2 w3 =>
 cs (decide ((t1.1 : Int) < ((a0.len : Int) : Int))) (
 ix a0 t1.1 2 fun b4 o5 =>
 ldI w3 .i64 b4 o5 fun n6 =>
 ldI w3 .i64 b4 (o5 + 1) fun n7 =>
 ob (enterable Pg a1.fid = true) (
 cl Pg a1.fid (a1.pre ++ ([.agg #[.int .i64 n6, .int .i64 n7]] ++ a1.post)) [kB] w3 fun (r8 : Bool × Unit) w9 =>
 cs r8.1 (
 R [.int .i64 t1.1] w9) (
 J2 (w64 (t1.1 + 1), ()) w9))) (
 R [.int .i64 (-1)] w3)
theorem tie70 (a0 : Sl) (a1 : Fv) (R : List Value → World → Prop) (w : World) : compF Pg Try.f70 ⟨[(1, ⟨[(8, kI)], [4, 5, 9, 10, 11, 12, 13, 14, 15, 16, 17, 18]⟩)], [], [], []⟩ [vS a0, vF a1] R w = sh70 a0 a1 R w := by kernel_rfl
theorem call70 {a0 : Sl} {a1 : Fv} {w : World} {K : TK [kI] → World → Prop} (h : sh70 a0 a1 (fun vs w' => ∃ t, encK [kI] t = vs ∧ K t w') w) : cl Pg 70 [vS a0, vF a1] [kI] w K := cl_of Try.func70 (tie70 ..) h
/-- (*detent/order.Line).at$1 -/
def sh71 (a0 : (Int × Int × Unit)) (c0 : Nat) (R : List Value → World → Prop) (w : World) : Prop :=
 al w 105 [.int .i64 a0.1, .int .i64 a0.2.1] fun b1 w2 =>
 ldI w2 .i64 b1 0 fun n3 =>
 ldI w2 .i64 c0 0 fun n4 =>
 R [.bool ((n3 : Int) == (n4 : Int))] w2
theorem tie71 (a0 : (Int × Int × Unit)) (c0 : Nat) (R : List Value → World → Prop) (w : World) : compF Pg Try.f71 ⟨[], [], [], []⟩ [.agg #[.int .i64 a0.1, .int .i64 a0.2.1], .pointer (some ⟨c0, 0, none⟩)] R w = sh71 a0 c0 R w := by kernel_rfl
theorem call71 {a0 : (Int × Int × Unit)} {c0 : Nat} {w : World} {K : TK [kB] → World → Prop} (h : sh71 a0 c0 (fun vs w' => ∃ t, encK [kB] t = vs ∧ K t w') w) : cl Pg 71 [.agg #[.int .i64 a0.1, .int .i64 a0.2.1], .pointer (some ⟨c0, 0, none⟩)] [kB] w K := cl_of Try.func71 (tie71 ..) h
/-- (*detent/order.Line).at -/
def sh47 (a0 : Option Addr) (a1 : Int) (R : List Value → World → Prop) (w : World) : Prop :=
 al w 3 [.int .i64 a1] fun b1 w2 =>
 nn a0 fun b3 o4 =>
 ldS w2 b3 o4 fun s5 =>
 cl Pg 70 [vS s5, .func (.func 71) #[] #[.pointer (some ⟨b1, 0, none⟩)]] [kI] w2 fun (r6 : Int × Unit) w7 =>
 R [.int .i64 r6.1] w7
theorem tie47 (a0 : Option Addr) (a1 : Int) (R : List Value → World → Prop) (w : World) : compF Pg Try.f47 ⟨[], [], [], []⟩ [.pointer a0, .int .i64 a1] R w = sh47 a0 a1 R w := by kernel_rfl
theorem call47 {a0 : Option Addr} {a1 : Int} {w : World} {K : TK [kI] → World → Prop} (h : sh47 a0 a1 (fun vs w' => ∃ t, encK [kI] t = vs ∧ K t w') w) : cl Pg 47 [.pointer a0, .int .i64 a1] [kI] w K := cl_of Try.func47 (tie47 ..) h
/-- slices.Delete[[]detent/order.Item,detent/order.Item] -/
def sh69 (a0 : Sl) (a1 : Int) (a2 : Int) (R : List Value → World → Prop) (w : World) : Prop :=
 sb a0 a1 a2 (a0.len : Int) 2 fun s1 =>
 cs ((a1 : Int) == (a2 : Int)) (
 R [vS a0] w) (
 dr w fun w2 =>
 sb a0 0 a1 a0.cap 2 fun s3 =>
 sb a0 a2 a0.len a0.cap 2 fun s4 =>
 ef Pg (Builtin.append_ #[46, 46] 46 #[vS s3, vS s4]) [kS] w2 fun (r5 : Sl × Unit) w6 =>
 sb r5.1 (r5.1.len : Int) (a0.len : Int) r5.1.cap 2 fun s7 =>
 ef Pg (Builtin.clear_ #[46] 0 #[vS s7]) [] w6 fun (r8 : Unit) w9 =>
 R [vS r5.1] w9)
theorem tie69 (a0 : Sl) (a1 : Int) (a2 : Int) (R : List Value → World → Prop) (w : World) : compF Pg Try.f69 ⟨[], [], [(5, .l [(0, []), (1, []), (2, []), (3, []), (4, []), (5, []), (6, [2, 5, 0, 1, 3, 4]), (7, [])])], []⟩ [vS a0, .int .i64 a1, .int .i64 a2] R w = sh69 a0 a1 a2 R w := by kernel_rfl
theorem call69 {a0 : Sl} {a1 : Int} {a2 : Int} {w : World} {K : TK [kS] → World → Prop} (h : sh69 a0 a1 a2 (fun vs w' => ∃ t, encK [kS] t = vs ∧ K t w') w) : cl Pg 69 [vS a0, .int .i64 a1, .int .i64 a2] [kS] w K := cl_of Try.func69 (tie69 ..) h
/-- (*detent/order.Line).Remove -/
def sh45 (a0 : Option Addr) (a1 : Int) (R : List Value → World → Prop) (w : World) : Prop :=
 cl Pg 47 [.pointer a0, .int .i64 a1] [kI] w fun (r1 : Int × Unit) w2 =>
 cs (decide ((r1.1 : Int) < (0 : Int))) (
 R [.bool false] w2) (
 nn a0 fun b3 o4 =>
 ldS w2 b3 o4 fun s5 =>
 cl Pg 69 [vS s5, .int .i64 r1.1, .int .i64 (w64 (r1.1 + 1))] [kS] w2 fun (r6 : Sl × Unit) w7 =>
 nn a0 fun b8 o9 =>
 st1 w7 b8 o9 (vS r6.1) fun w10 =>
 R [.bool true] w10)
theorem tie45 (a0 : Option Addr) (a1 : Int) (R : List Value → World → Prop) (w : World) : compF Pg Try.f45 ⟨[], [], [], []⟩ [.pointer a0, .int .i64 a1] R w = sh45 a0 a1 R w := by kernel_rfl
theorem call45 {a0 : Option Addr} {a1 : Int} {w : World} {K : TK [kB] → World → Prop} (h : sh45 a0 a1 (fun vs w' => ∃ t, encK [kB] t = vs ∧ K t w') w) : cl Pg 45 [.pointer a0, .int .i64 a1] [kB] w K := cl_of Try.func45 (tie45 ..) h
/-- (*detent/order.Line).First -/
def sh58 (a0 : Option Addr) (R : List Value → World → Prop) (w : World) : Prop :=
 al w 105 [.int .i64 0, .int .i64 0] fun b1 w2 =>
 nn a0 fun b3 o4 =>
 ldS w2 b3 o4 fun s5 =>
 cs (((s5.len : Int) : Int) == (0 : Int)) (
 st1 w2 b1 0 (.int .i64 0) fun w6 =>
 st1 w6 b1 (0 + 1) (.int .i64 0) fun w7 =>
 ldI w7 .i64 b1 0 fun n8 =>
 ldI w7 .i64 b1 (0 + 1) fun n9 =>
 R [.agg #[.int .i64 n8, .int .i64 n9], .bool false] w7) (
 nn a0 fun b10 o11 =>
 ldS w2 b10 o11 fun s12 =>
 ix s12 0 2 fun b13 o14 =>
 ldI w2 .i64 b13 o14 fun n15 =>
 ldI w2 .i64 b13 (o14 + 1) fun n16 =>
 st1 w2 b1 0 (.int .i64 n15) fun w17 =>
 st1 w17 b1 (0 + 1) (.int .i64 n16) fun w18 =>
 ldI w18 .i64 b1 0 fun n19 =>
 ldI w18 .i64 b1 (0 + 1) fun n20 =>
 R [.agg #[.int .i64 n19, .int .i64 n20], .bool true] w18)
theorem tie58 (a0 : Option Addr) (R : List Value → World → Prop) (w : World) : compF Pg Try.f58 ⟨[], [], [], []⟩ [.pointer a0] R w = sh58 a0 R w := by kernel_rfl
theorem call58 {a0 : Option Addr} {w : World} {K : TK [.a [(.i .i64), (.i .i64)], kB] → World → Prop} (h : sh58 a0 (fun vs w' => ∃ t, encK [.a [(.i .i64), (.i .i64)], kB] t = vs ∧ K t w') w) : cl Pg 58 [.pointer a0] [.a [(.i .i64), (.i .i64)], kB] w K := cl_of Try.func58 (tie58 ..) h
/-- slices.Clip[[]detent/mpl.Woken,detent/mpl.Woken] -/
def sh65 (a0 : Sl) (R : List Value → World → Prop) (w : World) : Prop :=
 sb a0 0 (a0.len : Int) (a0.len : Int) 2 fun s1 =>
 R [vS s1] w
theorem tie65 (a0 : Sl) (R : List Value → World → Prop) (w : World) : compF Pg Try.f65 ⟨[], [], [], []⟩ [vS a0] R w = sh65 a0 R w := by kernel_rfl
theorem call65 {a0 : Sl} {w : World} {K : TK [kS] → World → Prop} (h : sh65 a0 (fun vs w' => ∃ t, encK [kS] t = vs ∧ K t w') w) : cl Pg 65 [vS a0] [kS] w K := cl_of Try.func65 (tie65 ..) h
/-- (*detent/mpl.Pool).fill -/
def sh38 (a0 : Option Addr) (R : List Value → World → Prop) (w : World) : Prop :=
 nn a0 fun b1 o2 =>
 ldP w b1 o2 fun p3 =>
 nn p3 fun b4 o5 =>
 cl Pg 58 [.pointer (some ⟨b4, o5, none⟩)] [.a [(.i .i64), (.i .i64)], kB] w fun (r6 : (Int × Int × Unit) × Bool × Unit) w7 =>
 al w7 105 [.int .i64 0, .int .i64 0] fun b8 w9 =>
 st1 w9 b8 0 (.int .i64 r6.1.1) fun w10 =>
 st1 w10 b8 (0 + 1) (.int .i64 r6.1.2.1) fun w11 =>
 lp [kS, .l .q, kB] w11 (⟨none, 0, 0⟩, (b8, 0), r6.2.1, ()) fun (t12 : Sl × (Nat × Nat) × Bool × Unit) J13 w14 =>
 cs t12.2.2.1 (
 dr w14 fun w15 =>
 nn a0 fun b16 o17 =>
 ldM w15 b16 (o17 + 4) fun m18 =>
 ldI w15 .i64 t12.2.1.1 t12.2.1.2 fun n19 =>
 ef Pg (Instr.lookup 43 (.map m18) (.int .i64 n19) false) [kI] w15 fun (r20 : Int × Unit) w21 =>
 cl Pg 33 [.pointer a0, .int .i64 r20.1] [kI, kB] w21 fun (r22 : Int × Bool × Unit) w23 =>
 cs (!r22.2.1) (
 cl Pg 65 [vS t12.1] [kS] w23 fun (r24 : Sl × Unit) w25 =>
 R [vS r24.1] w25) (
 dr w23 fun w26 =>
 nn a0 fun b27 o28 =>
 ldP w26 b27 o28 fun p29 =>
 nn p29 fun b30 o31 =>
 ldI w26 .i64 t12.2.1.1 t12.2.1.2 fun n32 =>
 cl Pg 45 [.pointer (some ⟨b30, o31, none⟩), .int .i64 n32] [kB] w26 fun (r33 : Bool × Unit) w34 =>
 dr w34 fun w35 =>
 nn a0 fun b36 o37 =>
 ldM w35 b36 (o37 + 4) fun m38 =>
 ldI w35 .i64 t12.2.1.1 t12.2.1.2 fun n39 =>
 ef Pg (Builtin.delete_ #[43, 3] 0 #[.map m38, .int .i64 n39]) [] w35 fun (r40 : Unit) w41 =>
 ldI w41 .i64 t12.2.1.1 t12.2.1.2 fun n42 =>
 al w41 52 [.int .i64 n42, .int .i64 r22.1] fun b43 w44 =>
 ef Pg (Builtin.append_ #[33, 33] 33 #[vS t12.1, vS ⟨some ⟨b43, 0, none⟩, 1, 1⟩]) [kS] w44 fun (r45 : Sl × Unit) w46 =>
 ldI w46 .i64 t12.2.1.1 t12.2.1.2 fun n47 =>
 ldI w46 .i64 t12.2.1.1 (t12.2.1.2 + 1) fun n48 =>
 al w46 105 [.int .i64 0, .int .i64 0] fun b49 w50 =>
 st1 w50 b49 0 (.int .i64 n47) fun w51 =>
 st1 w51 b49 (0 + 1) (.int .i64 n48) fun w52 =>
 nn a0 fun b53 o54 =>
 ldP w52 b53 o54 fun p55 =>
 nn p55 fun b56 o57 =>
 cl Pg 58 [.pointer (some ⟨b56, o57, none⟩)] [.a [(.i .i64), (.i .i64)], kB] w52 fun (r58 : (Int × Int × Unit) × Bool × Unit) w59 =>
 st1 w59 b49 0 (.int .i64 r58.1.1) fun w60 =>
 st1 w60 b49 (0 + 1) (.int .i64 r58.1.2.1) fun w61 =>
 J13 (r45.1, (b49, 0), r58.2.1, ()) w61)) (
 cl Pg 65 [vS t12.1] [kS] w14 fun (r62 : Sl × Unit) w63 =>
 R [vS r62.1] w63)
theorem tie38 (a0 : Option Addr) (R : List Value → World → Prop) (w : World) : compF Pg Try.f38 ⟨[(1, ⟨[(3, kS), (4, .l .q), (5, kB)], [6, 7, 18, 19, 20, 21, 22, 23, 24, 25, 26, 27, 28, 29, 30, 31, 32, 33, 34, 35, 36, 37, 38, 39, 40, 41, 42, 43, 44, 45, 46, 47, 48, 49, 50, 51, 52, 53, 54, 55, 56, 57, 58, 59, 60, 61, 62, 63, 64, 65]⟩)], [], [(5, .l [(0, []), (1, []), (2, []), (3, []), (4, []), (5, []), (6, []), (7, [4, 6, 3, 5, 2, 1]), (8, [0, 7, 4, 6, 3, 5, 2, 1]), (9, []), (10, []), (11, []), (12, []), (13, [])]), (7, .l [(0, []), (1, []), (2, []), (3, []), (4, []), (5, []), (6, []), (7, []), (8, [5, 7, 4, 6, 3, 2, 1, 0])]), (8, .l [(0, []), (1, []), (2, []), (3, []), (4, []), (5, []), (6, [3, 5, 2, 4, 1, 0])])], []⟩ [.pointer a0] R w = sh38 a0 R w := by kernel_rfl
theorem call38 {a0 : Option Addr} {w : World} {K : TK [kS] → World → Prop} (h : sh38 a0 (fun vs w' => ∃ t, encK [kS] t = vs ∧ K t w') w) : cl Pg 38 [.pointer a0] [kS] w K := cl_of Try.func38 (tie38 ..) h
/-- (*detent/mpl.Pool).Put -/
def sh11 (a0 : Option Addr) (a1 : Int) (R : List Value → World → Prop) (w : World) : Prop :=
 al w 3 [.int .i64 a1] fun b1 w2 =>
 nn a0 fun b3 o4 =>
 ldS w2 b3 (o4 + 3) fun s5 =>
 cl Pg 35 [vS s5, .func (.func 36) #[] #[.pointer (some ⟨b1, 0, none⟩)]] [kI] w2 fun (r6 : Int × Unit) w7 =>
 cs (decide ((r6.1 : Int) < (0 : Int))) (
 R [.slice none 0 0, .int .i64 (-17)] w7) (
 nn a0 fun b8 o9 =>
 ldS w7 b8 (o9 + 3) fun s10 =>
 cl Pg 37 [vS s10, .int .i64 r6.1, .int .i64 (w64 (r6.1 + 1))] [kS] w7 fun (r11 : Sl × Unit) w12 =>
 nn a0 fun b13 o14 =>
 st1 w12 b13 (o14 + 3) (vS r11.1) fun w15 =>
 cl Pg 38 [.pointer a0] [kS] w15 fun (r16 : Sl × Unit) w17 =>
 R [vS r16.1, .int .i64 0] w17)
theorem tie11 (a0 : Option Addr) (a1 : Int) (R : List Value → World → Prop) (w : World) : compF Pg Try.f11 ⟨[], [], [], []⟩ [.pointer a0, .int .i64 a1] R w = sh11 a0 a1 R w := by kernel_rfl
theorem call11 {a0 : Option Addr} {a1 : Int} {w : World} {K : TK [kS, kI] → World → Prop} (h : sh11 a0 a1 (fun vs w' => ∃ t, encK [kS, kI] t = vs ∧ K t w') w) : cl Pg 11 [.pointer a0, .int .i64 a1] [kS, kI] w K := cl_of Try.func11 (tie11 ..) h
/-- slices.Clip[[]int,int] -/
def sh39 (a0 : Sl) (R : List Value → World → Prop) (w : World) : Prop :=
 sb a0 0 (a0.len : Int) (a0.len : Int) 1 fun s1 =>
 R [vS s1] w
theorem tie39 (a0 : Sl) (R : List Value → World → Prop) (w : World) : compF Pg Try.f39 ⟨[], [], [], []⟩ [vS a0] R w = sh39 a0 R w := by kernel_rfl
theorem call39 {a0 : Sl} {w : World} {K : TK [kS] → World → Prop} (h : sh39 a0 (fun vs w' => ∃ t, encK [kS] t = vs ∧ K t w') w) : cl Pg 39 [vS a0] [kS] w K := cl_of Try.func39 (tie39 ..) h
/-- (*detent/mpl.Pool).Held -/
def sh12 (a0 : Option Addr) (R : List Value → World → Prop) (w : World) : Prop :=
 nn a0 fun b1 o2 =>
 ldS w b1 (o2 + 3) fun s3 =>
 lp [kS, kI] w (⟨none, 0, 0⟩, (0 : Int), ()) fun (t4 : Sl × Int × Unit) J5 w6 =>
 cs (decide ((t4.2.1 : Int) < ((s3.len : Int) : Int))) (
 ix s3 t4.2.1 2 fun b7 o8 =>
 ldI w6 .i64 b7 o8 fun n9 =>
 ldI w6 .i64 b7 (o8 + 1) fun n10 =>
 al w6 90 [.int .i64 0, .int .i64 0] fun b11 w12 =>
 st1 w12 b11 0 (.int .i64 n9) fun w13 =>
 st1 w13 b11 (0 + 1) (.int .i64 n10) fun w14 =>
 ldI w14 .i64 b11 0 fun n15 =>
 al w14 3 [.int .i64 (w64 (n15 + 8))] fun b16 w17 =>
 ef Pg (Builtin.append_ #[28, 28] 28 #[vS t4.1, vS ⟨some ⟨b16, 0, none⟩, 1, 1⟩]) [kS] w17 fun (r18 : Sl × Unit) w19 =>
 J5 (r18.1, w64 (t4.2.1 + 1), ()) w19) (
 cl Pg 39 [vS t4.1] [kS] w6 fun (r20 : Sl × Unit) w21 =>
 R [vS r20.1] w21)
theorem tie12 (a0 : Option Addr) (R : List Value → World → Prop) (w : World) : compF Pg Try.f12 ⟨[(1, ⟨[(3, kS), (11, kI)], [5, 12, 13, 14, 15, 16, 17, 18, 19, 20, 21]⟩)], [], [], []⟩ [.pointer a0] R w = sh12 a0 R w := by kernel_rfl
theorem call12 {a0 : Option Addr} {w : World} {K : TK [kS] → World → Prop} (h : sh12 a0 (fun vs w' => ∃ t, encK [kS] t = vs ∧ K t w') w) : cl Pg 12 [.pointer a0] [kS] w K := cl_of Try.func12 (tie12 ..) h
/-- (*detent/order.Line).Len -/
def sh14 (a0 : Option Addr) (R : List Value → World → Prop) (w : World) : Prop :=
 nn a0 fun b1 o2 =>
 ldS w b1 o2 fun s3 =>
 R [.int .i64 (s3.len : Int)] w
theorem tie14 (a0 : Option Addr) (R : List Value → World → Prop) (w : World) : compF Pg Try.f14 ⟨[], [], [], []⟩ [.pointer a0] R w = sh14 a0 R w := by kernel_rfl
theorem call14 {a0 : Option Addr} {w : World} {K : TK [kI] → World → Prop} (h : sh14 a0 (fun vs w' => ∃ t, encK [kI] t = vs ∧ K t w') w) : cl Pg 14 [.pointer a0] [kI] w K := cl_of Try.func14 (tie14 ..) h
/-- (*detent/mpl.Pool).may -/
def sh32 (a0 : Option Addr) (a1 : Int) (R : List Value → World → Prop) (w : World) : Prop :=
 jn [kB] w (fun (t2 : Bool × Unit) w3 =>
 R [.bool t2.1] w3) fun J1 w4 =>
 cs (decide ((a1 : Int) ≥ (1 : Int))) (
 nn a0 fun b5 o6 =>
 ldI w4 .i64 b5 (o6 + 2) fun n7 =>
 J1 (decide ((a1 : Int) ≤ (w64 (n7 - 8) : Int)), ()) w4) (
 J1 (false, ()) w4)
theorem tie32 (a0 : Option Addr) (a1 : Int) (R : List Value → World → Prop) (w : World) : compF Pg Try.f32 ⟨[], [], [], [(1, [(3, 8, ⟨[(15, kB)], [8, 9, 10, 11, 12, 13, 14]⟩)])]⟩ [.pointer a0, .int .i64 a1] R w = sh32 a0 a1 R w := by kernel_rfl
theorem call32 {a0 : Option Addr} {a1 : Int} {w : World} {K : TK [kB] → World → Prop} (h : sh32 a0 a1 (fun vs w' => ∃ t, encK [kB] t = vs ∧ K t w') w) : cl Pg 32 [.pointer a0, .int .i64 a1] [kB] w K := cl_of Try.func32 (tie32 ..) h
/-- detent/order.may -/
def sh48 (a0 : Int) (R : List Value → World → Prop) (w : World) : Prop :=
 jn [kB] w (fun (t2 : Bool × Unit) w3 =>
 R [.bool t2.1] w3) fun J1 w4 =>
 cs (decide ((a0 : Int) ≥ (1 : Int))) (
 J1 (decide ((a0 : Int) ≤ (16 : Int)), ()) w4) (
 J1 (false, ()) w4)
theorem tie48 (a0 : Int) (R : List Value → World → Prop) (w : World) : compF Pg Try.f48 ⟨[], [], [], [(1, [(3, 3, ⟨[(8, kB)], [6, 7]⟩)])]⟩ [.int .i64 a0] R w = sh48 a0 R w := by kernel_rfl
theorem call48 {a0 : Int} {w : World} {K : TK [kB] → World → Prop} (h : sh48 a0 (fun vs w' => ∃ t, encK [kB] t = vs ∧ K t w') w) : cl Pg 48 [.int .i64 a0] [kB] w K := cl_of Try.func48 (tie48 ..) h
/-- slices.Reverse[[]detent/order.Item,detent/order.Item] -/
def sh85 (a0 : Sl) (R : List Value → World → Prop) (w : World) : Prop :=
 lp [kI, kI] w ((0 : Int), w64 ((a0.len : Int) - 1), ()) fun (t1 : Int × Int × Unit) J2 w3 =>
 cs (decide ((t1.1 : Int) < (t1.2.1 : Int))) (
 dr w3 fun w4 =>
 ix a0 t1.2.1 2 fun b5 o6 =>
 ldI w4 .i64 b5 o6 fun n7 =>
 ldI w4 .i64 b5 (o6 + 1) fun n8 =>
 ix a0 t1.1 2 fun b9 o10 =>
 ldI w4 .i64 b9 o10 fun n11 =>
 ldI w4 .i64 b9 (o10 + 1) fun n12 =>
 ix a0 t1.1 2 fun b13 o14 =>
 st1 w4 b13 o14 (.int .i64 n7) fun w15 =>
 st1 w15 b13 (o14 + 1) (.int .i64 n8) fun w16 =>
 ix a0 t1.2.1 2 fun b17 o18 =>
 st1 w16 b17 o18 (.int .i64 n11) fun w19 =>
 st1 w19 b17 (o18 + 1) (.int .i64 n12) fun w20 =>
 J2 (w64 (t1.1 + 1), w64 (t1.2.1 - 1), ()) w20) (
 R [] w3)
theorem tie85 (a0 : Sl) (R : List Value → World → Prop) (w : World) : compF Pg Try.f85 ⟨[(1, ⟨[(2, kI), (3, kI)], [7, 8, 9, 10, 11, 12, 13, 14, 15, 16, 17, 18, 19, 20, 21, 22, 23, 24, 25, 26, 27]⟩)], [], [(3, .l [(0, []), (1, []), (2, []), (3, []), (4, []), (5, []), (6, []), (7, []), (8, []), (9, []), (10, []), (11, []), (12, []), (13, [12, 7, 0, 1, 4, 5, 6, 11, 10, 8, 9]), (14, []), (15, [14, 11, 13, 0, 1, 2, 3, 4, 5, 6, 7, 8, 9, 10, 12])])], []⟩ [vS a0] R w = sh85 a0 R w := by kernel_rfl
theorem call85 {a0 : Sl} {w : World} {K : TK [] → World → Prop} (h : sh85 a0 (fun vs w' => ∃ t, encK [] t = vs ∧ K t w') w) : cl Pg 85 [vS a0] [] w K := cl_of Try.func85 (tie85 ..) h
/-- slices.rotateLeft[detent/order.Item] -/
def sh83 (a0 : Sl) (a1 : Int) (R : List Value → World → Prop) (w : World) : Prop :=
 sb a0 0 a1 a0.cap 2 fun s1 =>
 cl Pg 85 [vS s1] [] w fun (r2 : Unit) w3 =>
 sb a0 a1 a0.len a0.cap 2 fun s4 =>
 cl Pg 85 [vS s4] [] w3 fun (r5 : Unit) w6 =>
 cl Pg 85 [vS a0] [] w6 fun (r7 : Unit) w8 =>
 R [] w8
theorem tie83 (a0 : Sl) (a1 : Int) (R : List Value → World → Prop) (w : World) : compF Pg Try.f83 ⟨[], [], [], []⟩ [vS a0, .int .i64 a1] R w = sh83 a0 a1 R w := by kernel_rfl
theorem call83 {a0 : Sl} {a1 : Int} {w : World} {K : TK [] → World → Prop} (h : sh83 a0 a1 (fun vs w' => ∃ t, encK [] t = vs ∧ K t w') w) : cl Pg 83 [vS a0, .int .i64 a1] [] w K := cl_of Try.func83 (tie83 ..) h
/-- slices.rotateRight[detent/order.Item] -/
def sh81 (a0 : Sl) (a1 : Int) (R : List Value → World → Prop) (w : World) : Prop :=
 cl Pg 83 [vS a0, .int .i64 (w64 ((a0.len : Int) - a1))] [] w fun (r1 : Unit) w2 =>
 R [] w2
theorem tie81 (a0 : Sl) (a1 : Int) (R : List Value → World → Prop) (w : World) : compF Pg Try.f81 ⟨[], [], [], []⟩ [vS a0, .int .i64 a1] R w = sh81 a0 a1 R w := by kernel_rfl
theorem call81 {a0 : Sl} {a1 : Int} {w : World} {K : TK [] → World → Prop} (h : sh81 a0 a1 (fun vs w' => ∃ t, encK [] t = vs ∧ K t w') w) : cl Pg 81 [vS a0, .int .i64 a1] [] w K := cl_of Try.func81 (tie81 ..) h
/-- slices.Insert[[]detent/order.Item,detent/order.Item] -/
def sh72 (a0 : Sl) (a1 : Int) (a2 : Sl) (R : List Value → World → Prop) (w : World) : Prop :=
 sb a0 a1 a0.len a0.cap 2 fun s1 =>
 cs (((a2.len : Int) : Int) == (0 : Int)) (
 R [vS a0] w) (
 cs ((a1 : Int) == ((a0.len : Int) : Int)) (
 ef Pg (Builtin.append_ #[46, 46] 46 #[vS a0, vS a2]) [kS] w fun (r2 : Sl × Unit) w3 =>
 R [vS r2.1] w3) (
 cs (decide ((w64 ((a0.len : Int) + (a2.len : Int)) : Int) > ((a0.cap : Int) : Int))) (
 sb a0 0 a1 a0.cap 2 fun s4 =>
 ef Pg (Builtin.append_ #[46, 3] 46 #[vS s4, .int .i64 (w64 ((w64 ((a0.len : Int) + (a2.len : Int))) - a1))]) [kS] w fun (r5 : Sl × Unit) w6 =>
 sb r5.1 a1 r5.1.len r5.1.cap 2 fun s7 =>
 ef Pg (Builtin.copy_ #[46, 46] 3 #[vS s7, vS a2]) [kI] w6 fun (r8 : Int × Unit) w9 =>
 dr w9 fun w10 =>
 sb r5.1 (w64 (a1 + (a2.len : Int))) r5.1.len r5.1.cap 2 fun s11 =>
 sb a0 a1 a0.len a0.cap 2 fun s12 =>
 ef Pg (Builtin.copy_ #[46, 46] 3 #[vS s11, vS s12]) [kI] w10 fun (r13 : Int × Unit) w14 =>
 R [vS r5.1] w14) (
 sb a0 0 (w64 ((a0.len : Int) + (a2.len : Int))) a0.cap 2 fun s15 =>
 sb s15 (w64 (a1 + (a2.len : Int))) s15.len s15.cap 2 fun s16 =>
 xt Pg 80 [vS a2, vS s16] [kB] w fun (r17 : Bool × Unit) w18 =>
 cs (!r17.1) (
 dr w18 fun w19 =>
 sb s15 (w64 (a1 + (a2.len : Int))) s15.len s15.cap 2 fun s20 =>
 sb s15 a1 s15.len s15.cap 2 fun s21 =>
 ef Pg (Builtin.copy_ #[46, 46] 3 #[vS s20, vS s21]) [kI] w19 fun (r22 : Int × Unit) w23 =>
 sb s15 a1 s15.len s15.cap 2 fun s24 =>
 ef Pg (Builtin.copy_ #[46, 46] 3 #[vS s24, vS a2]) [kI] w23 fun (r25 : Int × Unit) w26 =>
 R [vS s15] w26) (
 sb s15 (a0.len : Int) s15.len s15.cap 2 fun s27 =>
 ef Pg (Builtin.copy_ #[46, 46] 3 #[vS s27, vS a2]) [kI] w18 fun (r28 : Int × Unit) w29 =>
 sb s15 a1 s15.len s15.cap 2 fun s30 =>
 cl Pg 81 [vS s30, .int .i64 (a2.len : Int)] [] w29 fun (r31 : Unit) w32 =>
 R [vS s15] w32))))
theorem tie72 (a0 : Sl) (a1 : Int) (a2 : Sl) (R : List Value → World → Prop) (w : World) : compF Pg Try.f72 ⟨[], [], [(11, .l [(0, []), (1, []), (2, []), (3, []), (4, []), (5, []), (6, []), (7, []), (8, [4, 7, 0, 3, 5, 6, 1, 2])]), (15, .l [(0, []), (1, []), (2, []), (3, []), (4, []), (5, []), (6, []), (7, []), (8, [4, 7, 0, 3, 5, 6, 1, 2])])], []⟩ [vS a0, .int .i64 a1, vS a2] R w = sh72 a0 a1 a2 R w := by kernel_rfl
theorem call72 {a0 : Sl} {a1 : Int} {a2 : Sl} {w : World} {K : TK [kS] → World → Prop} (h : sh72 a0 a1 a2 (fun vs w' => ∃ t, encK [kS] t = vs ∧ K t w') w) : cl Pg 72 [vS a0, .int .i64 a1, vS a2] [kS] w K := cl_of Try.func72 (tie72 ..) h
/-- (*detent/order.Queue).put -/
def sh49 (a0 : Option Addr) (a1 : (Int × Int × Unit)) (R : List Value → World → Prop) (w : World) : Prop :=
 al w 105 [.int .i64 a1.1, .int .i64 a1.2.1] fun b1 w2 =>
 nn a0 fun b3 o4 =>
 ldS w2 b3 o4 fun s5 =>
 lp [kI] w2 ((s5.len : Int), ()) fun (t6 : Int × Unit) J7 w8 =>
 dr w8 fun w9 =>
 jn [kB] w9 (fun (t11 : Bool × Unit) w12 =>
 cs t11.1 (
 J7 (w64 (t6.1 - 1), ()) w12) (
 dr w12 fun w14 =>
 nn a0 fun b15 o16 =>
 ldS w14 b15 o16 fun s17 =>
 ldI w14 .i64 b1 0 fun n18 =>
 ldI w14 .i64 b1 (0 + 1) fun n19 =>
 al w14 105 [.int .i64 n18, .int .i64 n19] fun b20 w21 =>
(w21.cell? ⟨b15, o16, none⟩ = some (vS s17)) ∧ (
 cl Pg 72 [vS s17, .int .i64 t6.1, vS ⟨some ⟨b20, 0, none⟩, 1, 1⟩] [kS] w21 fun (r22 : Sl × Unit) w23 =>
 nn a0 fun b24 o25 =>
 st1 w23 b24 o25 (vS r22.1) fun w26 =>
 R [] w26))) fun J10 w13 =>
 nn a0 fun b27 o28 =>
 ldB w13 b27 (o28 + 1) fun b29 =>
 cs b29 (
 cs (decide ((t6.1 : Int) > (0 : Int))) (
 nn a0 fun b30 o31 =>
 ldS w13 b30 o31 fun s32 =>
 ix s32 (w64 (t6.1 - 1)) 2 fun b33 o34 =>
 ldI w13 .i64 b33 (o34 + 1) fun n35 =>
 ldI w13 .i64 b1 (0 + 1) fun n36 =>
 J10 (decide ((n35 : Int) > (n36 : Int)), ()) w13) (
 J10 (false, ()) w13)) (
 J10 (false, ()) w13)
theorem tie49 (a0 : Option Addr) (a1 : (Int × Int × Unit)) (R : List Value → World → Prop) (w : World) : compF Pg Try.f49 ⟨[(1, ⟨[(4, kI)], [11, 12, 13, 14, 15, 16, 17, 18, 19, 20, 21, 22, 23, 24, 25, 26, 27, 28, 29, 30, 31, 32, 33, 34, 35]⟩)], [(2, ⟨[(33, kB)], [11, 12, 13, 14, 15, 16, 17, 18, 19, 20, 21, 22, 23, 24, 25, 26, 27, 28, 29, 30, 31, 32]⟩)], [(2, .l [(0, []), (1, []), (2, []), (3, []), (4, []), (5, []), (6, []), (7, []), (8, []), (9, []), (10, []), (11, []), (12, []), (13, []), (14, []), (15, []), (16, []), (17, []), (18, []), (19, []), (20, []), (21, []), (22, [])]), (4, .l [(0, []), (1, []), (2, []), (3, []), (4, []), (5, []), (6, []), (7, []), (8, [7]), (9, [5, 6, 8, 4, 7, 3, 2, 1]), (10, []), (11, []), (12, []), (13, [12, 9, 0, 1, 2, 3, 4, 5, 6, 7, 8, 11, 10])])], []⟩ [.pointer a0, .agg #[.int .i64 a1.1, .int .i64 a1.2.1]] R w = sh49 a0 a1 R w := by kernel_rfl
theorem call49 {a0 : Option Addr} {a1 : (Int × Int × Unit)} {w : World} {K : TK [] → World → Prop} (h : sh49 a0 a1 (fun vs w' => ∃ t, encK [] t = vs ∧ K t w') w) : cl Pg 49 [.pointer a0, .agg #[.int .i64 a1.1, .int .i64 a1.2.1]] [] w K := cl_of Try.func49 (tie49 ..) h
/-- (*detent/order.Line).Has -/
def sh60 (a0 : Option Addr) (a1 : Int) (R : List Value → World → Prop) (w : World) : Prop :=
 cl Pg 47 [.pointer a0, .int .i64 a1] [kI] w fun (r1 : Int × Unit) w2 =>
 R [.bool (decide ((r1.1 : Int) ≥ (0 : Int)))] w2
theorem tie60 (a0 : Option Addr) (a1 : Int) (R : List Value → World → Prop) (w : World) : compF Pg Try.f60 ⟨[], [], [], []⟩ [.pointer a0, .int .i64 a1] R w = sh60 a0 a1 R w := by kernel_rfl
theorem call60 {a0 : Option Addr} {a1 : Int} {w : World} {K : TK [kB] → World → Prop} (h : sh60 a0 a1 (fun vs w' => ∃ t, encK [kB] t = vs ∧ K t w') w) : cl Pg 60 [.pointer a0, .int .i64 a1] [kB] w K := cl_of Try.func60 (tie60 ..) h
/-- (*detent/order.Queue).Add -/
def sh40 (a0 : Option Addr) (a1 : Int) (a2 : Int) (R : List Value → World → Prop) (w : World) : Prop :=
 jn [kB] w (fun (t2 : Bool × Unit) w3 =>
 jn [kB] w3 (fun (t6 : Bool × Unit) w7 =>
 cs t6.1 (
 R [.int .i64 (-17)] w7) (
 nn a0 fun b9 o10 =>
 cl Pg 60 [.pointer (some ⟨b9, o10, none⟩), .int .i64 a1] [kB] w7 fun (r11 : Bool × Unit) w12 =>
 cs r11.1 (
 R [.int .i64 (-41)] w12) (
 cl Pg 49 [.pointer a0, .agg #[.int .i64 a1, .int .i64 a2]] [] w12 fun (r13 : Unit) w14 =>
 R [.int .i64 0] w14))) fun J5 w8 =>
 cs t2.1 (
 J5 (true, ()) w8) (
 cl Pg 48 [.int .i64 a2] [kB] w8 fun (r15 : Bool × Unit) w16 =>
 J5 (!r15.1, ()) w16)) fun J1 w4 =>
 cs (decide ((a1 : Int) < (1 : Int))) (
 J1 (true, ()) w4) (
 J1 (decide ((a1 : Int) > (16 : Int)), ()) w4)
theorem tie40 (a0 : Option Addr) (a1 : Int) (a2 : Int) (R : List Value → World → Prop) (w : World) : compF Pg Try.f40 ⟨[], [], [], [(1, [(3, 3, ⟨[(13, kB)], [11, 12]⟩), (7, 4, ⟨[(18, kB)], [15, 16, 17]⟩)])]⟩ [.pointer a0, .int .i64 a1, .int .i64 a2] R w = sh40 a0 a1 a2 R w := by kernel_rfl
theorem call40 {a0 : Option Addr} {a1 : Int} {a2 : Int} {w : World} {K : TK [kI] → World → Prop} (h : sh40 a0 a1 a2 (fun vs w' => ∃ t, encK [kI] t = vs ∧ K t w') w) : cl Pg 40 [.pointer a0, .int .i64 a1, .int .i64 a2] [kI] w K := cl_of Try.func40 (tie40 ..) h
/-- (*detent/mpl.Pool).Get -/
def sh13 (a0 : Option Addr) (a1 : Int) (a2 : Int) (a3 : Int) (R : List Value → World → Prop) (w : World) : Prop :=
 cl Pg 32 [.pointer a0, .int .i64 a3] [kB] w fun (r1 : Bool × Unit) w2 =>
 cs (!r1.1) (
 R [.int .i64 0, .bool false, .int .i64 (-17)] w2) (
 nn a0 fun b3 o4 =>
 ldP w2 b3 o4 fun p5 =>
 nn p5 fun b6 o7 =>
 cl Pg 14 [.pointer (some ⟨b6, o7, none⟩)] [kI] w2 fun (r8 : Int × Unit) w9 =>
 jn [] w9 (fun (t11 : Unit) w12 =>
 nn a0 fun b14 o15 =>
 ldP w12 b14 o15 fun p16 =>
 cl Pg 40 [.pointer p16, .int .i64 a1, .int .i64 a2] [kI] w12 fun (r17 : Int × Unit) w18 =>
 cs ((r17.1 : Int) != (0 : Int)) (
 R [.int .i64 0, .bool false, .int .i64 r17.1] w18) (
 nn a0 fun b19 o20 =>
 ldM w18 b19 (o20 + 4) fun m21 =>
 efU Pg (Instr.mapUpdate 43 (.map m21) (.int .i64 a1) (.int .i64 a3)) w18 fun w22 =>
 R [.int .i64 0, .bool false, .int .i64 0] w22)) fun J10 w13 =>
 cs ((r8.1 : Int) == (0 : Int)) (
 cl Pg 33 [.pointer a0, .int .i64 a3] [kI, kB] w13 fun (r23 : Int × Bool × Unit) w24 =>
 cs r23.2.1 (
 R [.int .i64 r23.1, .bool true, .int .i64 0] w24) (
 J10 () w24)) (
 J10 () w13))
theorem tie13 (a0 : Option Addr) (a1 : Int) (a2 : Int) (a3 : Int) (R : List Value → World → Prop) (w : World) : compF Pg Try.f13 ⟨[(1, ⟨[], [8, 9, 10, 11, 12, 26, 27, 28, 29, 30, 31, 32, 33]⟩)], [], [], []⟩ [.pointer a0, .int .i64 a1, .int .i64 a2, .int .i64 a3] R w = sh13 a0 a1 a2 a3 R w := by kernel_rfl
theorem call13 {a0 : Option Addr} {a1 : Int} {a2 : Int} {a3 : Int} {w : World} {K : TK [kI, kB, kI] → World → Prop} (h : sh13 a0 a1 a2 a3 (fun vs w' => ∃ t, encK [kI, kB, kI] t = vs ∧ K t w') w) : cl Pg 13 [.pointer a0, .int .i64 a1, .int .i64 a2, .int .i64 a3] [kI, kB, kI] w K := cl_of Try.func13 (tie13 ..) h
/-- slices.ContainsFunc[[]detent/mpl.block,detent/mpl.block] -/
def sh61 (a0 : Sl) (a1 : Fv) (R : List Value → World → Prop) (w : World) : Prop :=
 cl Pg 35 [vS a0, vF a1] [kI] w fun (r1 : Int × Unit) w2 =>
 R [.bool (decide ((r1.1 : Int) ≥ (0 : Int)))] w2
theorem tie61 (a0 : Sl) (a1 : Fv) (R : List Value → World → Prop) (w : World) : compF Pg Try.f61 ⟨[], [], [], []⟩ [vS a0, vF a1] R w = sh61 a0 a1 R w := by kernel_rfl
theorem call61 {a0 : Sl} {a1 : Fv} {w : World} {K : TK [kB] → World → Prop} (h : sh61 a0 a1 (fun vs w' => ∃ t, encK [kB] t = vs ∧ K t w') w) : cl Pg 61 [vS a0, vF a1] [kB] w K := cl_of Try.func61 (tie61 ..) h
/-- (*detent/mpl.Pool).Holds$1 -/
def sh62 (a0 : (Int × Int × Unit)) (c0 : Nat) (c1 : Nat) (R : List Value → World → Prop) (w : World) : Prop :=
 al w 90 [.int .i64 a0.1, .int .i64 a0.2.1] fun b1 w2 =>
 ldI w2 .i64 c0 0 fun n3 =>
 ldI w2 .i64 b1 (0 + 1) fun n4 =>
 jn [kB] w2 (fun (t6 : Bool × Unit) w7 =>
 jn [kB] w7 (fun (t10 : Bool × Unit) w11 =>
 R [.bool t10.1] w11) fun J9 w12 =>
 cs t6.1 (
 ldI w12 .i64 c1 0 fun n13 =>
 ldI w12 .i64 b1 0 fun n14 =>
 ldI w12 .i64 b1 (0 + 1) fun n15 =>
 ldI w12 .i64 c0 0 fun n16 =>
 J9 (decide ((n13 : Int) ≤ (w64 ((w64 ((w64 (n14 + 8)) + n15)) - n16) : Int)), ()) w12) (
 J9 (false, ()) w12)) fun J5 w8 =>
 cs (decide ((n3 : Int) ≤ (n4 : Int))) (
 ldI w8 .i64 c1 0 fun n17 =>
 ldI w8 .i64 b1 0 fun n18 =>
 J5 (decide ((n17 : Int) ≥ (w64 (n18 + 8) : Int)), ()) w8) (
 J5 (false, ()) w8)
theorem tie62 (a0 : (Int × Int × Unit)) (c0 : Nat) (c1 : Nat) (R : List Value → World → Prop) (w : World) : compF Pg Try.f62 ⟨[], [], [], [(1, [(5, 6, ⟨[(15, kB)], [10, 11, 12, 13, 14]⟩), (12, 11, ⟨[(27, kB)], [17, 18, 19, 20, 21, 22, 23, 24, 25, 26]⟩)])]⟩ [.agg #[.int .i64 a0.1, .int .i64 a0.2.1], .pointer (some ⟨c0, 0, none⟩), .pointer (some ⟨c1, 0, none⟩)] R w = sh62 a0 c0 c1 R w := by kernel_rfl
theorem call62 {a0 : (Int × Int × Unit)} {c0 : Nat} {c1 : Nat} {w : World} {K : TK [kB] → World → Prop} (h : sh62 a0 c0 c1 (fun vs w' => ∃ t, encK [kB] t = vs ∧ K t w') w) : cl Pg 62 [.agg #[.int .i64 a0.1, .int .i64 a0.2.1], .pointer (some ⟨c0, 0, none⟩), .pointer (some ⟨c1, 0, none⟩)] [kB] w K := cl_of Try.func62 (tie62 ..) h
/-- (*detent/mpl.Pool).Holds -/
def sh29 (a0 : Option Addr) (a1 : Int) (a2 : Int) (R : List Value → World → Prop) (w : World) : Prop :=
 al w 3 [.int .i64 a1] fun b1 w2 =>
 al w2 3 [.int .i64 a2] fun b3 w4 =>
 ldI w4 .i64 b3 0 fun n5 =>
 jn [kB] w4 (fun (t7 : Bool × Unit) w8 =>
 R [.bool t7.1] w8) fun J6 w9 =>
 cs (decide ((n5 : Int) ≥ (1 : Int))) (
 nn a0 fun b10 o11 =>
 ldS w9 b10 (o11 + 3) fun s12 =>
 cl Pg 61 [vS s12, .func (.func 62) #[] #[.pointer (some ⟨b3, 0, none⟩), .pointer (some ⟨b1, 0, none⟩)]] [kB] w9 fun (r13 : Bool × Unit) w14 =>
 J6 (r13.1, ()) w14) (
 J6 (false, ()) w9)
theorem tie29 (a0 : Option Addr) (a1 : Int) (a2 : Int) (R : List Value → World → Prop) (w : World) : compF Pg Try.f29 ⟨[], [], [], [(1, [(3, 7, ⟨[(16, kB)], [10, 11, 12, 13, 14, 15]⟩)])]⟩ [.pointer a0, .int .i64 a1, .int .i64 a2] R w = sh29 a0 a1 a2 R w := by kernel_rfl
theorem call29 {a0 : Option Addr} {a1 : Int} {a2 : Int} {w : World} {K : TK [kB] → World → Prop} (h : sh29 a0 a1 a2 (fun vs w' => ∃ t, encK [kB] t = vs ∧ K t w') w) : cl Pg 29 [.pointer a0, .int .i64 a1, .int .i64 a2] [kB] w K := cl_of Try.func29 (tie29 ..) h
/-- detent/detentlaw19.known -/
def sh7  (R : List Value → World → Prop) (w : World) : Prop :=
 cl Pg 8 [.bool false, .int .i64 0, .int .i64 48] [kP, kI] w fun (r1 : Option Addr × Int × Unit) w2 =>
 jn [kB] w2 (fun (t4 : Bool × Unit) w5 =>
 jn [kB] w5 (fun (t8 : Bool × Unit) w9 =>
 cs t8.1 (
 R [.bool false] w9) (
 cl Pg 13 [.pointer r1.1, .int .i64 1, .int .i64 5, .int .i64 10] [kI, kB, kI] w9 fun (r11 : Int × Bool × Int × Unit) w12 =>
 cl Pg 13 [.pointer r1.1, .int .i64 2, .int .i64 5, .int .i64 8] [kI, kB, kI] w12 fun (r13 : Int × Bool × Int × Unit) w14 =>
 cl Pg 13 [.pointer r1.1, .int .i64 3, .int .i64 5, .int .i64 20] [kI, kB, kI] w14 fun (r15 : Int × Bool × Int × Unit) w16 =>
 cl Pg 10 [.pointer r1.1] [kI, kI] w16 fun (r17 : Int × Int × Unit) w18 =>
 cl Pg 11 [.pointer r1.1, .int .i64 r11.1] [kS, kI] w18 fun (r19 : Sl × Int × Unit) w20 =>
 cl Pg 11 [.pointer r1.1, .int .i64 r13.1] [kS, kI] w20 fun (r21 : Sl × Int × Unit) w22 =>
 jn [kB] w22 (fun (t24 : Bool × Unit) w25 =>
 jn [kB] w25 (fun (t28 : Bool × Unit) w29 =>
 jn [kB] w29 (fun (t32 : Bool × Unit) w33 =>
 jn [kB] w33 (fun (t36 : Bool × Unit) w37 =>
 jn [kB] w37 (fun (t40 : Bool × Unit) w41 =>
 jn [kB] w41 (fun (t44 : Bool × Unit) w45 =>
 jn [kB] w45 (fun (t48 : Bool × Unit) w49 =>
 jn [kB] w49 (fun (t52 : Bool × Unit) w53 =>
 jn [kB] w53 (fun (t56 : Bool × Unit) w57 =>
 jn [kB] w57 (fun (t60 : Bool × Unit) w61 =>
 jn [kB] w61 (fun (t64 : Bool × Unit) w65 =>
 jn [kB] w65 (fun (t68 : Bool × Unit) w69 =>
 jn [kB] w69 (fun (t72 : Bool × Unit) w73 =>
 R [.bool t72.1] w73) fun J71 w74 =>
 cs t68.1 (
 cl Pg 12 [.pointer r1.1] [kS] w74 fun (r75 : Sl × Unit) w76 =>
 J71 (((r75.1.len : Int) : Int) == (1 : Int), ()) w76) (
 J71 (false, ()) w74)) fun J67 w70 =>
 cs t64.1 (
 cl Pg 29 [.pointer r1.1, .int .i64 8, .int .i64 21] [kB] w70 fun (r77 : Bool × Unit) w78 =>
 J67 (!r77.1, ()) w78) (
 J67 (false, ()) w70)) fun J63 w66 =>
 cs t60.1 (
 cl Pg 29 [.pointer r1.1, .int .i64 8, .int .i64 20] [kB] w66 fun (r79 : Bool × Unit) w80 =>
 J63 (r79.1, ()) w80) (
 J63 (false, ()) w66)) fun J59 w62 =>
 cs t56.1 (
 ix r21.1 0 2 fun b81 o82 =>
 ldI w62 .i64 b81 (o82 + 1) fun n83 =>
 J59 ((n83 : Int) == (8 : Int), ()) w62) (
 J59 (false, ()) w62)) fun J55 w58 =>
 cs t52.1 (
 ix r21.1 0 2 fun b84 o85 =>
 ldI w58 .i64 b84 o85 fun n86 =>
 J55 ((n86 : Int) == (3 : Int), ()) w58) (
 J55 (false, ()) w58)) fun J51 w54 =>
 cs t48.1 (
 J51 (((r21.1.len : Int) : Int) == (1 : Int), ()) w54) (
 J51 (false, ()) w54)) fun J47 w50 =>
 cs t44.1 (
 J47 (((r19.1.len : Int) : Int) == (0 : Int), ()) w50) (
 J47 (false, ()) w50)) fun J43 w46 =>
 cs t40.1 (
 J43 ((r17.2.1 : Int) == (0 : Int), ()) w46) (
 J43 (false, ()) w46)) fun J39 w42 =>
 cs t36.1 (
 J39 ((r17.1 : Int) == (8 : Int), ()) w42) (
 J39 (false, ()) w42)) fun J35 w38 =>
 cs t32.1 (
 J35 (!r15.2.1, ()) w38) (
 J35 (false, ()) w38)) fun J31 w34 =>
 cs t28.1 (
 J31 (r13.2.1, ()) w34) (
 J31 (false, ()) w34)) fun J27 w30 =>
 cs t24.1 (
 J27 ((r13.1 : Int) == (32 : Int), ()) w30) (
 J27 (false, ()) w30)) fun J23 w26 =>
 cs ((w64 ((w64 ((w64 ((w64 (r11.2.2.1 + r13.2.2.1)) + r15.2.2.1)) + r19.2.1)) + r21.2.1) : Int) == (0 : Int)) (
 J23 ((r11.1 : Int) == (8 : Int), ()) w26) (
 J23 (false, ()) w26))) fun J7 w10 =>
 cs t4.1 (
 J7 (true, ()) w10) (
 nn r1.1 fun b87 o88 =>
 ldP w10 b87 o88 fun p89 =>
 J7 (p89.isNone, ()) w10)) fun J3 w6 =>
 cs ((r1.2.1 : Int) != (0 : Int)) (
 J3 (true, ()) w6) (
 J3 (r1.1.isNone, ()) w6)
theorem tie7  (R : List Value → World → Prop) (w : World) : compF Pg Try.f7 ⟨[], [], [], [(2, [(3, 3, ⟨[(27, kB)], [25, 26]⟩), (7, 6, ⟨[(34, kB)], [29, 30, 31, 32, 33]⟩)]), (10, [(11, 3, ⟨[(83, kB)], [81, 82]⟩), (15, 3, ⟨[(87, kB)], [85, 86]⟩), (19, 2, ⟨[(90, kB)], [89]⟩), (22, 3, ⟨[(94, kB)], [92, 93]⟩), (26, 3, ⟨[(98, kB)], [96, 97]⟩), (30, 3, ⟨[(102, kB)], [100, 101]⟩), (34, 4, ⟨[(107, kB)], [104, 105, 106]⟩), (39, 4, ⟨[(112, kB)], [109, 110, 111]⟩), (44, 6, ⟨[(119, kB)], [114, 115, 116, 117, 118]⟩), (51, 6, ⟨[(126, kB)], [121, 122, 123, 124, 125]⟩), (58, 3, ⟨[(130, kB)], [128, 129]⟩), (62, 4, ⟨[(135, kB)], [132, 133, 134]⟩), (67, 5, ⟨[(141, kB)], [137, 138, 139, 140]⟩)])]⟩ [] R w = sh7  R w := by kernel_rfl
theorem call7  {w : World} {K : TK [kB] → World → Prop} (h : sh7  (fun vs w' => ∃ t, encK [kB] t = vs ∧ K t w') w) : cl Pg 7 [] [kB] w K := cl_of Try.func7 (tie7 ..) h
/-- (*detent/mpl.Pool).Poll -/
def sh9 (a0 : Option Addr) (a1 : Int) (R : List Value → World → Prop) (w : World) : Prop :=
 cl Pg 32 [.pointer a0, .int .i64 a1] [kB] w fun (r1 : Bool × Unit) w2 =>
 cs (!r1.1) (
 R [.int .i64 0, .bool false, .int .i64 (-17)] w2) (
 cl Pg 33 [.pointer a0, .int .i64 a1] [kI, kB] w2 fun (r3 : Int × Bool × Unit) w4 =>
 R [.int .i64 r3.1, .bool r3.2.1, .int .i64 0] w4)
theorem tie9 (a0 : Option Addr) (a1 : Int) (R : List Value → World → Prop) (w : World) : compF Pg Try.f9 ⟨[], [], [], []⟩ [.pointer a0, .int .i64 a1] R w = sh9 a0 a1 R w := by kernel_rfl
theorem call9 {a0 : Option Addr} {a1 : Int} {w : World} {K : TK [kI, kB, kI] → World → Prop} (h : sh9 a0 a1 (fun vs w' => ∃ t, encK [kI, kB, kI] t = vs ∧ K t w') w) : cl Pg 9 [.pointer a0, .int .i64 a1] [kI, kB, kI] w K := cl_of Try.func9 (tie9 ..) h
/-- detent/detentlaw19.HeapApart -/
def sh3 (a0 : Int) (a1 : Sl) (a2 : Sl) (R : List Value → World → Prop) (w : World) : Prop :=
 cl Pg 7 [] [kB] w fun (r1 : Bool × Unit) w2 =>
 cs (!r1.1) (
 R [.bool false] w2) (
 jn [kB] w2 (fun (t4 : Bool × Unit) w5 =>
 jn [kB] w5 (fun (t8 : Bool × Unit) w9 =>
 jn [kB] w9 (fun (t12 : Bool × Unit) w13 =>
 jn [kB] w13 (fun (t16 : Bool × Unit) w17 =>
 cs t16.1 (
 R [.bool true] w17) (
 cl Pg 8 [.bool false, .int .i64 16, .int .i64 a0] [kP, kI] w17 fun (r19 : Option Addr × Int × Unit) w20 =>
 lp [kS, kS, kI, kI] w20 (⟨none, 0, 0⟩, ⟨none, 0, 0⟩, (0 : Int), (0 : Int), ()) fun (t21 : Sl × Sl × Int × Int × Unit) J22 w23 =>
 cs (decide ((t21.2.2.2.1 : Int) < ((a1.len : Int) : Int))) (
 ix a1 t21.2.2.2.1 1 fun b24 o25 =>
 ldI w23 .u8 b24 o25 fun n26 =>
 cs (decide ((w64 (1 + (w64 (n26))) : Int) > (w64 (a0 - 8) : Int))) (
 J22 (t21.1, t21.2.1, t21.2.2.1, w64 (t21.2.2.2.1 + 1), ()) w23) (
 cl Pg 9 [.pointer r19.1, .int .i64 (w64 (1 + (w64 (n26))))] [kI, kB, kI] w23 fun (r27 : Int × Bool × Int × Unit) w28 =>
 cs ((r27.2.2.1 : Int) != (0 : Int)) (
 R [.bool false] w28) (
 cs (!r27.2.1) (
 J22 (t21.1, t21.2.1, t21.2.2.1, w64 (t21.2.2.2.1 + 1), ()) w28) (
 jn [kB] w28 (fun (t30 : Bool × Unit) w31 =>
 jn [kB] w31 (fun (t34 : Bool × Unit) w35 =>
 cs t34.1 (
 R [.bool false] w35) (
 lp [kI] w35 ((0 : Int), ()) fun (t37 : Int × Unit) J38 w39 =>
 cs (decide ((t37.1 : Int) < ((t21.1.len : Int) : Int))) (
 dr w39 fun w40 =>
 jn [kB] w40 (fun (t42 : Bool × Unit) w43 =>
 cs t42.1 (
 R [.bool false] w43) (
 J38 (w64 (t37.1 + 1), ()) w43)) fun J41 w44 =>
 ix t21.1 t37.1 1 fun b45 o46 =>
 ldI w44 .i64 b45 o46 fun n47 =>
 ix t21.2.1 t37.1 1 fun b48 o49 =>
 ldI w44 .i64 b48 o49 fun n50 =>
 cs (decide ((r27.1 : Int) < (w64 ((w64 (n47 + n50)) + 8) : Int))) (
 ix t21.1 t37.1 1 fun b51 o52 =>
 ldI w44 .i64 b51 o52 fun n53 =>
 J41 (decide ((n53 : Int) < (w64 ((w64 (r27.1 + (w64 (1 + (w64 (n26)))))) + 8) : Int)), ()) w44) (
 J41 (false, ()) w44)) (
 al w39 3 [.int .i64 r27.1] fun b54 w55 =>
 ef Pg (Builtin.append_ #[28, 28] 28 #[vS t21.1, vS ⟨some ⟨b54, 0, none⟩, 1, 1⟩]) [kS] w55 fun (r56 : Sl × Unit) w57 =>
 al w57 3 [.int .i64 (w64 (1 + (w64 (n26))))] fun b58 w59 =>
 ef Pg (Builtin.append_ #[28, 28] 28 #[vS t21.2.1, vS ⟨some ⟨b58, 0, none⟩, 1, 1⟩]) [kS] w59 fun (r60 : Sl × Unit) w61 =>
 cl Pg 10 [.pointer r19.1] [kI, kI] w61 fun (r62 : Int × Int × Unit) w63 =>
 cs ((r62.1 : Int) != (w64 (a0 - (w64 ((w64 (t21.2.2.1 + 8)) + (w64 ((w64 (Int.tdiv (w64 ((w64 (1 + (w64 (n26)))) + 7)) 8)) * 8))))) : Int)) (
 R [.bool false] w63) (
 J22 (r56.1, r60.1, w64 ((w64 (t21.2.2.1 + 8)) + (w64 ((w64 (Int.tdiv (w64 ((w64 (1 + (w64 (n26)))) + 7)) 8)) * 8))), w64 (t21.2.2.2.1 + 1), ()) w63)))) fun J33 w36 =>
 cs t30.1 (
 J33 (true, ()) w36) (
 J33 (decide ((w64 (r27.1 + (w64 (1 + (w64 (n26))))) : Int) > (w64 (16 + a0) : Int)), ()) w36)) fun J29 w32 =>
 cs ((Int.tmod r27.1 8 : Int) != (0 : Int)) (
 J29 (true, ()) w32) (
 J29 (decide ((r27.1 : Int) < (24 : Int)), ()) w32))))) (
 lp [kS] w23 (t21.1, ()) fun (t64 : Sl × Unit) J65 w66 =>
 cs (decide (((t64.1.len : Int) : Int) > (0 : Int))) (
 ix a2 (w64 ((t64.1.len : Int) - 1)) 1 fun b67 o68 =>
 ldI w66 .u8 b67 o68 fun n69 =>
 ob ((t64.1.len : Int) ≠ 0) (
 ix t64.1 (Int.tmod (w64 (n69)) (t64.1.len : Int)) 1 fun b70 o71 =>
 ldI w66 .i64 b70 o71 fun n72 =>
 cl Pg 11 [.pointer r19.1, .int .i64 n72] [kS, kI] w66 fun (r73 : Sl × Int × Unit) w74 =>
 cs ((r73.2.1 : Int) != (0 : Int)) (
 R [.bool false] w74) (
 ix t64.1 (Int.tmod (w64 (n69)) (t64.1.len : Int)) 1 fun b75 o76 =>
 ldI w74 .i64 b75 o76 fun n77 =>
 cl Pg 11 [.pointer r19.1, .int .i64 n77] [kS, kI] w74 fun (r78 : Sl × Int × Unit) w79 =>
 cs ((r78.2.1 : Int) != ((-17) : Int)) (
 R [.bool false] w79) (
 dr w79 fun w80 =>
 sb t64.1 0 (Int.tmod (w64 (n69)) (t64.1.len : Int)) t64.1.cap 1 fun s81 =>
 sb t64.1 (w64 ((Int.tmod (w64 (n69)) (t64.1.len : Int)) + 1)) t64.1.len t64.1.cap 1 fun s82 =>
 al w80 3 [] fun b83 w84 =>
 ef Pg (Builtin.append_ #[28, 28] 28 #[vS ⟨some ⟨b83, 0, none⟩, 0, 0⟩, vS s81]) [kS] w84 fun (r85 : Sl × Unit) w86 =>
 ef Pg (Builtin.append_ #[28, 28] 28 #[vS r85.1, vS s82]) [kS] w86 fun (r87 : Sl × Unit) w88 =>
 J65 (r87.1, ()) w88)))) (
 cl Pg 10 [.pointer r19.1] [kI, kI] w66 fun (r89 : Int × Int × Unit) w90 =>
 jn [kB] w90 (fun (t92 : Bool × Unit) w93 =>
 jn [kB] w93 (fun (t96 : Bool × Unit) w97 =>
 R [.bool t96.1] w97) fun J95 w98 =>
 cs t92.1 (
 cl Pg 12 [.pointer r19.1] [kS] w98 fun (r99 : Sl × Unit) w100 =>
 J95 (((r99.1.len : Int) : Int) == (0 : Int), ()) w100) (
 J95 (false, ()) w98)) fun J91 w94 =>
 cs ((r89.1 : Int) == (a0 : Int)) (
 J91 ((r89.2.1 : Int) == (w64 (a0 - 8) : Int), ()) w94) (
 J91 (false, ()) w94))))) fun J15 w18 =>
 cs t12.1 (
 J15 (true, ()) w18) (
 J15 (decide (((a2.len : Int) : Int) < ((a1.len : Int) : Int)), ()) w18)) fun J11 w14 =>
 cs t8.1 (
 J11 (true, ()) w14) (
 J11 (decide (((a1.len : Int) : Int) > (40 : Int)), ()) w14)) fun J7 w10 =>
 cs t4.1 (
 J7 (true, ()) w10) (
 J7 ((Int.tmod a0 8 : Int) != (0 : Int), ()) w10)) fun J3 w6 =>
 cs (decide ((a0 : Int) < (8 : Int))) (
 J3 (true, ()) w6) (
 J3 (decide ((a0 : Int) > (2000 : Int)), ()) w6))
theorem tie3 (a0 : Int) (a1 : Sl) (a2 : Sl) (R : List Value → World → Prop) (w : World) : compF Pg Try.f3 ⟨[(3, ⟨[(9, kS), (10, kS), (11, kI), (12, kI)], [6, 13, 14, 15, 16, 17, 18, 19, 57, 58, 59, 60, 61, 62, 63, 64, 65, 66, 67, 68, 69, 70, 71, 72, 73, 74, 75, 76, 77, 78, 79, 80, 81, 82, 83, 84, 85, 86, 87, 88, 89, 90, 91, 92, 93, 94, 95, 96, 97, 98, 99, 100, 101, 102, 103, 104, 105, 106, 107, 108, 109, 110, 111, 112, 113, 114, 115, 116, 117, 118, 119, 120, 121, 122, 123, 124, 125, 126, 127, 128, 129, 130, 131, 132, 133, 134, 135, 136, 137, 138, 139, 140, 141, 142, 143, 144, 145, 146, 147, 148, 149, 150, 151, 152]⟩), (11, ⟨[(17, kI)], [6, 99, 100, 101, 102, 103, 104, 105, 106, 107, 108, 109, 110, 111, 112, 113, 114, 115, 116, 117, 118, 119, 120, 121, 122, 123, 124, 125, 126, 127]⟩), (17, ⟨[(9, kS)], [6, 20, 21, 22, 23, 24, 153, 154, 155, 156, 157, 158, 159, 160, 161, 162, 163, 164, 165, 166, 167, 168, 169, 170, 171, 172, 173, 174, 175, 176, 177, 178, 179, 180, 181, 182, 183, 184, 185, 186, 187, 188, 189, 190, 191, 192, 193, 194, 195, 196, 197]⟩)], [(22, ⟨[(127, kB)], [105, 106, 107, 108, 109, 110, 111, 112, 113, 114, 115, 116, 117, 118, 119, 120, 121, 122, 123, 124, 125, 126]⟩)], [(22, .l [(0, []), (1, []), (2, []), (3, []), (4, []), (5, []), (6, []), (7, []), (8, []), (9, []), (10, []), (11, []), (12, []), (13, []), (14, []), (15, []), (16, []), (17, []), (18, []), (19, []), (20, []), (21, []), (22, [])]), (38, .l [(1, []), (2, []), (3, []), (5, []), (6, []), (7, []), (8, []), (0, []), (4, [0, 3, 1, 2]), (9, [4, 8, 0, 3, 5, 7, 1, 2, 6]), (10, [])])], [(3, [(3, 3, ⟨[(34, kB)], [32, 33]⟩), (7, 4, ⟨[(39, kB)], [36, 37, 38]⟩), (12, 4, ⟨[(44, kB)], [41, 42, 43]⟩), (17, 6, ⟨[(51, kB)], [46, 47, 48, 49, 50]⟩)]), (17, [(4, 3, ⟨[(90, kB)], [88, 89]⟩), (8, 7, ⟨[(98, kB)], [92, 93, 94, 95, 96, 97]⟩)]), (40, [(4, 5, ⟨[(211, kB)], [207, 208, 209, 210]⟩), (10, 5, ⟨[(217, kB)], [213, 214, 215, 216]⟩)])]⟩ [.int .i64 a0, vS a1, vS a2] R w = sh3 a0 a1 a2 R w := by kernel_rfl
theorem call3 {a0 : Int} {a1 : Sl} {a2 : Sl} {w : World} {K : TK [kB] → World → Prop} (h : sh3 a0 a1 a2 (fun vs w' => ∃ t, encK [kB] t = vs ∧ K t w') w) : cl Pg 3 [.int .i64 a0, vS a1, vS a2] [kB] w K := cl_of Try.func3 (tie3 ..) h
/-- detent/detentlaw19.HeapFirst -/
def sh4 (a0 : Int) (a1 : Int) (a2 : Int) (R : List Value → World → Prop) (w : World) : Prop :=
 cl Pg 7 [] [kB] w fun (r1 : Bool × Unit) w2 =>
 cs (!r1.1) (
 R [.bool false] w2) (
 cl Pg 8 [.bool false, .int .i64 0, .int .i64 1024] [kP, kI] w2 fun (r3 : Option Addr × Int × Unit) w4 =>
 cl Pg 9 [.pointer r3.1, .int .i64 (w64 (1 + (w64 (Int.tmod a0 64))))] [kI, kB, kI] w4 fun (r5 : Int × Bool × Int × Unit) w6 =>
 cl Pg 9 [.pointer r3.1, .int .i64 (w64 (1 + (w64 (Int.tmod a1 64))))] [kI, kB, kI] w6 fun (r7 : Int × Bool × Int × Unit) w8 =>
 cl Pg 9 [.pointer r3.1, .int .i64 (w64 (1 + (w64 (Int.tmod a2 64))))] [kI, kB, kI] w8 fun (r9 : Int × Bool × Int × Unit) w10 =>
 cl Pg 11 [.pointer r3.1, .int .i64 r5.1] [kS, kI] w10 fun (r11 : Sl × Int × Unit) w12 =>
 cl Pg 9 [.pointer r3.1, .int .i64 (w64 (1 + (w64 (Int.tmod a2 64))))] [kI, kB, kI] w12 fun (r13 : Int × Bool × Int × Unit) w14 =>
 jn [kB] w14 (fun (t16 : Bool × Unit) w17 =>
 jn [kB] w17 (fun (t20 : Bool × Unit) w21 =>
 jn [kB] w21 (fun (t24 : Bool × Unit) w25 =>
 jn [kB] w25 (fun (t28 : Bool × Unit) w29 =>
 cs t28.1 (
 R [.bool false] w29) (
 cs (decide ((w64 (Int.tdiv (w64 ((w64 (1 + (w64 (Int.tmod a2 64)))) + 7)) 8) : Int) ≤ (w64 (Int.tdiv (w64 ((w64 (1 + (w64 (Int.tmod a0 64)))) + 7)) 8) : Int))) (
 R [.bool ((r13.1 : Int) == (r5.1 : Int))] w29) (
 R [.bool ((r13.1 : Int) == (w64 ((w64 (r9.1 + (w64 ((w64 (Int.tdiv (w64 ((w64 (1 + (w64 (Int.tmod a2 64)))) + 7)) 8)) * 8)))) + 8) : Int))] w29))) fun J27 w30 =>
 cs t24.1 (
 J27 (true, ()) w30) (
 J27 ((r9.1 : Int) != (w64 ((w64 (r7.1 + (w64 ((w64 (Int.tdiv (w64 ((w64 (1 + (w64 (Int.tmod a1 64)))) + 7)) 8)) * 8)))) + 8) : Int), ()) w30)) fun J23 w26 =>
 cs t20.1 (
 J23 (true, ()) w26) (
 J23 ((r7.1 : Int) != (w64 ((w64 (r5.1 + (w64 ((w64 (Int.tdiv (w64 ((w64 (1 + (w64 (Int.tmod a0 64)))) + 7)) 8)) * 8)))) + 8) : Int), ()) w26)) fun J19 w22 =>
 cs t16.1 (
 J19 (true, ()) w22) (
 J19 ((r5.1 : Int) != (8 : Int), ()) w22)) fun J15 w18 =>
 cs (!r13.2.1) (
 J15 (true, ()) w18) (
 J15 ((r13.2.2.1 : Int) != (0 : Int), ()) w18))
theorem tie4 (a0 : Int) (a1 : Int) (a2 : Int) (R : List Value → World → Prop) (w : World) : compF Pg Try.f4 ⟨[], [], [], [(13, [(3, 3, ⟨[(86, kB)], [84, 85]⟩), (7, 3, ⟨[(90, kB)], [88, 89]⟩), (11, 10, ⟨[(101, kB)], [92, 93, 94, 95, 96, 97, 98, 99, 100]⟩), (22, 10, ⟨[(112, kB)], [103, 104, 105, 106, 107, 108, 109, 110, 111]⟩)])]⟩ [.int .u8 a0, .int .u8 a1, .int .u8 a2] R w = sh4 a0 a1 a2 R w := by kernel_rfl
theorem call4 {a0 : Int} {a1 : Int} {a2 : Int} {w : World} {K : TK [kB] → World → Prop} (h : sh4 a0 a1 a2 (fun vs w' => ∃ t, encK [kB] t = vs ∧ K t w') w) : cl Pg 4 [.int .u8 a0, .int .u8 a1, .int .u8 a2] [kB] w K := cl_of Try.func4 (tie4 ..) h
/-- detent/detentlaw19.HeapWaits -/
def sh5 (a0 : Int) (a1 : Int) (R : List Value → World → Prop) (w : World) : Prop :=
 cl Pg 7 [] [kB] w fun (r1 : Bool × Unit) w2 =>
 cs (!r1.1) (
 R [.bool false] w2) (
 cl Pg 8 [.bool false, .int .i64 0, .int .i64 64] [kP, kI] w2 fun (r3 : Option Addr × Int × Unit) w4 =>
 cl Pg 9 [.pointer r3.1, .int .i64 8] [kI, kB, kI] w4 fun (r5 : Int × Bool × Int × Unit) w6 =>
 cl Pg 13 [.pointer r3.1, .int .i64 1, .int .i64 1, .int .i64 (w64 (49 + (w64 (Int.tmod a0 8))))] [kI, kB, kI] w6 fun (r7 : Int × Bool × Int × Unit) w8 =>
 cl Pg 13 [.pointer r3.1, .int .i64 2, .int .i64 1, .int .i64 (w64 (1 + (w64 (Int.tmod a1 8))))] [kI, kB, kI] w8 fun (r9 : Int × Bool × Int × Unit) w10 =>
 jn [kB] w10 (fun (t12 : Bool × Unit) w13 =>
 jn [kB] w13 (fun (t16 : Bool × Unit) w17 =>
 jn [kB] w17 (fun (t20 : Bool × Unit) w21 =>
 jn [kB] w21 (fun (t24 : Bool × Unit) w25 =>
 cs t24.1 (
 R [.bool false] w25) (
 cl Pg 9 [.pointer r3.1, .int .i64 (w64 (1 + (w64 (Int.tmod a1 8))))] [kI, kB, kI] w25 fun (r27 : Int × Bool × Int × Unit) w28 =>
 jn [kB] w28 (fun (t30 : Bool × Unit) w31 =>
 cs t30.1 (
 R [.bool false] w31) (
 cl Pg 11 [.pointer r3.1, .int .i64 r27.1] [kS, kI] w31 fun (r33 : Sl × Int × Unit) w34 =>
 jn [kB] w34 (fun (t36 : Bool × Unit) w37 =>
 cs t36.1 (
 R [.bool false] w37) (
 cl Pg 11 [.pointer r3.1, .int .i64 r5.1] [kS, kI] w37 fun (r39 : Sl × Int × Unit) w40 =>
 jn [kB] w40 (fun (t42 : Bool × Unit) w43 =>
 jn [kB] w43 (fun (t46 : Bool × Unit) w47 =>
 jn [kB] w47 (fun (t50 : Bool × Unit) w51 =>
 cs t50.1 (
 R [.bool false] w51) (
 cl Pg 11 [.pointer r3.1, .int .i64 8] [kS, kI] w51 fun (r53 : Sl × Int × Unit) w54 =>
 jn [kB] w54 (fun (t56 : Bool × Unit) w57 =>
 R [.bool t56.1] w57) fun J55 w58 =>
 cs ((r53.2.1 : Int) == (0 : Int)) (
 jn [kB] w58 (fun (t60 : Bool × Unit) w61 =>
 jn [kB] w61 (fun (t64 : Bool × Unit) w65 =>
 J55 (t64.1, ()) w65) fun J63 w66 =>
 cs t60.1 (
 J63 (true, ()) w66) (
 jn [kB] w66 (fun (t68 : Bool × Unit) w69 =>
 jn [kB] w69 (fun (t72 : Bool × Unit) w73 =>
 J63 (t72.1, ()) w73) fun J71 w74 =>
 cs t68.1 (
 ix r53.1 0 2 fun b75 o76 =>
 ldI w74 .i64 b75 o76 fun n77 =>
 J71 ((n77 : Int) == (2 : Int), ()) w74) (
 J71 (false, ()) w74)) fun J67 w70 =>
 cs (((r39.1.len : Int) : Int) == (1 : Int)) (
 J67 (((r53.1.len : Int) : Int) == (1 : Int), ()) w70) (
 J67 (false, ()) w70))) fun J59 w62 =>
 cs (((r39.1.len : Int) : Int) == (2 : Int)) (
 J59 (((r53.1.len : Int) : Int) == (0 : Int), ()) w62) (
 J59 (false, ()) w62)) (
 J55 (false, ()) w58))) fun J49 w52 =>
 cs t46.1 (
 J49 (true, ()) w52) (
 ix r39.1 0 2 fun b78 o79 =>
 ldI w52 .i64 b78 (o79 + 1) fun n80 =>
 J49 ((n80 : Int) != (8 : Int), ()) w52)) fun J45 w48 =>
 cs t42.1 (
 J45 (true, ()) w48) (
 ix r39.1 0 2 fun b81 o82 =>
 ldI w48 .i64 b81 o82 fun n83 =>
 J45 ((n83 : Int) != (1 : Int), ()) w48)) fun J41 w44 =>
 cs ((r39.2.1 : Int) != (0 : Int)) (
 J41 (true, ()) w44) (
 J41 (decide (((r39.1.len : Int) : Int) < (1 : Int)), ()) w44))) fun J35 w38 =>
 cs (((r33.1.len : Int) : Int) != (0 : Int)) (
 J35 (true, ()) w38) (
 J35 ((r33.2.1 : Int) != (0 : Int), ()) w38))) fun J29 w32 =>
 cs (!r27.2.1) (
 J29 (true, ()) w32) (
 J29 ((r27.2.2.1 : Int) != (0 : Int), ()) w32))) fun J23 w26 =>
 cs t20.1 (
 J23 (true, ()) w26) (
 nn r3.1 fun b84 o85 =>
 ldP w26 b84 o85 fun p86 =>
 nn p86 fun b87 o88 =>
 cl Pg 14 [.pointer (some ⟨b87, o88, none⟩)] [kI] w26 fun (r89 : Int × Unit) w90 =>
 J23 ((r89.1 : Int) != (2 : Int), ()) w90)) fun J19 w22 =>
 cs t16.1 (
 J19 (true, ()) w22) (
 J19 ((w64 (r7.2.2.1 + r9.2.2.1) : Int) != (0 : Int), ()) w22)) fun J15 w18 =>
 cs t12.1 (
 J15 (true, ()) w18) (
 J15 (r9.2.1, ()) w18)) fun J11 w14 =>
 cs (!r5.2.1) (
 J11 (true, ()) w14) (
 J11 (r7.2.1, ()) w14))
theorem tie5 (a0 : Int) (a1 : Int) (R : List Value → World → Prop) (w : World) : compF Pg Try.f5 ⟨[], [], [], [(9, [(3, 2, ⟨[(65, kB)], [64]⟩), (6, 2, ⟨[(68, kB)], [67]⟩), (9, 5, ⟨[(74, kB)], [70, 71, 72, 73]⟩), (15, 9, ⟨[(84, kB)], [76, 77, 78, 79, 80, 81, 82, 83]⟩)]), (12, [(3, 3, ⟨[(97, kB)], [95, 96]⟩)]), (15, [(4, 3, ⟨[(110, kB)], [108, 109]⟩)]), (18, [(3, 4, ⟨[(123, kB)], [120, 121, 122]⟩), (8, 6, ⟨[(130, kB)], [125, 126, 127, 128, 129]⟩), (15, 6, ⟨[(137, kB)], [132, 133, 134, 135, 136]⟩)]), (21, [(3, 26, ⟨[(171, kB)], [146, 147, 148, 149, 150, 151, 152, 153, 154, 155, 156, 157, 158, 159, 160, 161, 162, 163, 164, 165, 166, 167, 168, 169, 170]⟩), (7, 4, ⟨[(153, kB)], [150, 151, 152]⟩), (12, 16, ⟨[(170, kB)], [155, 156, 157, 158, 159, 160, 161, 162, 163, 164, 165, 166, 167, 168, 169]⟩), (16, 4, ⟨[(162, kB)], [159, 160, 161]⟩), (21, 6, ⟨[(169, kB)], [164, 165, 166, 167, 168]⟩)])]⟩ [.int .u8 a0, .int .u8 a1] R w = sh5 a0 a1 R w := by kernel_rfl
theorem call5 {a0 : Int} {a1 : Int} {w : World} {K : TK [kB] → World → Prop} (h : sh5 a0 a1 (fun vs w' => ∃ t, encK [kB] t = vs ∧ K t w') w) : cl Pg 5 [.int .u8 a0, .int .u8 a1] [kB] w K := cl_of Try.func5 (tie5 ..) h
/-- detent/detentref19.New -/
def sh15 (a0 : Bool) (a1 : Int) (a2 : Int) (R : List Value → World → Prop) (w : World) : Prop :=
 jn [kB] w (fun (t2 : Bool × Unit) w3 =>
 jn [kB] w3 (fun (t6 : Bool × Unit) w7 =>
 jn [kB] w7 (fun (t10 : Bool × Unit) w11 =>
 jn [kB] w11 (fun (t14 : Bool × Unit) w15 =>
 jn [kB] w15 (fun (t18 : Bool × Unit) w19 =>
 jn [kB] w19 (fun (t22 : Bool × Unit) w23 =>
 cs t22.1 (
 R [.pointer none, .int .i64 (-17)] w23) (
 al w23 99 [.bool a0, .slice none 0 0] fun b25 w26 =>
 al w26 67 [.pointer (some ⟨b25, 0, none⟩), .int .i64 0, .int .i64 0, .int .i64 0, .int .i64 0, .int .i64 0, .int .i64 0, .int .i64 0, .int .i64 0, .int .i64 0, .int .i64 0, .int .i64 0, .int .i64 0, .int .i64 0, .int .i64 0, .int .i64 0, .int .i64 0, .int .i64 0, .int .i64 a1, .int .i64 a2, .slice none 0 0] fun b27 w28 =>
 R [.pointer (some ⟨b27, 0, none⟩), .int .i64 0] w28)) fun J21 w24 =>
 cs t18.1 (
 J21 (true, ()) w24) (
 J21 (decide ((w64 (a1 + a2) : Int) > (65536 : Int)), ()) w24)) fun J17 w20 =>
 cs t14.1 (
 J17 (true, ()) w20) (
 J17 ((Int.tmod a2 8 : Int) != (0 : Int), ()) w20)) fun J13 w16 =>
 cs t10.1 (
 J13 (true, ()) w16) (
 J13 (decide ((a2 : Int) > (65536 : Int)), ()) w16)) fun J9 w12 =>
 cs t6.1 (
 J9 (true, ()) w12) (
 J9 (decide ((a2 : Int) < (8 : Int)), ()) w12)) fun J5 w8 =>
 cs t2.1 (
 J5 (true, ()) w8) (
 J5 ((Int.tmod a1 8 : Int) != (0 : Int), ()) w8)) fun J1 w4 =>
 cs (decide ((a1 : Int) < (0 : Int))) (
 J1 (true, ()) w4) (
 J1 (decide ((a1 : Int) > (65536 : Int)), ()) w4)
theorem tie15 (a0 : Bool) (a1 : Int) (a2 : Int) (R : List Value → World → Prop) (w : World) : compF Pg Try.f15 ⟨[], [], [], [(1, [(3, 3, ⟨[(13, kB)], [11, 12]⟩), (7, 4, ⟨[(18, kB)], [15, 16, 17]⟩), (12, 3, ⟨[(22, kB)], [20, 21]⟩), (16, 3, ⟨[(26, kB)], [24, 25]⟩), (20, 4, ⟨[(31, kB)], [28, 29, 30]⟩), (25, 5, ⟨[(37, kB)], [33, 34, 35, 36]⟩)])]⟩ [.bool a0, .int .i64 a1, .int .i64 a2] R w = sh15 a0 a1 a2 R w := by kernel_rfl
theorem call15 {a0 : Bool} {a1 : Int} {a2 : Int} {w : World} {K : TK [kP, kI] → World → Prop} (h : sh15 a0 a1 a2 (fun vs w' => ∃ t, encK [kP, kI] t = vs ∧ K t w') w) : cl Pg 15 [.bool a0, .int .i64 a1, .int .i64 a2] [kP, kI] w K := cl_of Try.func15 (tie15 ..) h
/-- (*detent/detentref19.Pool).may -/
def sh41 (a0 : Option Addr) (a1 : Int) (R : List Value → World → Prop) (w : World) : Prop :=
 jn [kB] w (fun (t2 : Bool × Unit) w3 =>
 R [.bool t2.1] w3) fun J1 w4 =>
 cs (decide ((a1 : Int) ≥ (1 : Int))) (
 nn a0 fun b5 o6 =>
 ldI w4 .i64 b5 (o6 + 19) fun n7 =>
 J1 (decide ((a1 : Int) ≤ (w64 (n7 - 8) : Int)), ()) w4) (
 J1 (false, ()) w4)
theorem tie41 (a0 : Option Addr) (a1 : Int) (R : List Value → World → Prop) (w : World) : compF Pg Try.f41 ⟨[], [], [], [(1, [(3, 8, ⟨[(15, kB)], [8, 9, 10, 11, 12, 13, 14]⟩)])]⟩ [.pointer a0, .int .i64 a1] R w = sh41 a0 a1 R w := by kernel_rfl
theorem call41 {a0 : Option Addr} {a1 : Int} {w : World} {K : TK [kB] → World → Prop} (h : sh41 a0 a1 (fun vs w' => ∃ t, encK [kB] t = vs ∧ K t w') w) : cl Pg 41 [.pointer a0, .int .i64 a1] [kB] w K := cl_of Try.func41 (tie41 ..) h
/-- detent/detentref1.Align -/
def sh79 (a0 : Int) (a1 : Int) (R : List Value → World → Prop) (w : World) : Prop :=
 jn [kB] w (fun (t2 : Bool × Unit) w3 =>
 jn [kB] w3 (fun (t6 : Bool × Unit) w7 =>
 jn [kB] w7 (fun (t10 : Bool × Unit) w11 =>
 jn [kB] w11 (fun (t14 : Bool × Unit) w15 =>
 cs t14.1 (
 R [.int .i64 a0] w15) (
 ob (a1 ≠ 0) (
 R [.int .i64 (w64 ((w64 (a0 + a1)) - (Int.tmod a0 a1)))] w15))) fun J13 w16 =>
 cs t10.1 (
 J13 (true, ()) w16) (
 ob (a1 ≠ 0) (
 J13 ((Int.tmod a0 a1 : Int) == (0 : Int), ()) w16))) fun J9 w12 =>
 cs t6.1 (
 J9 (true, ()) w12) (
 J9 (decide ((a1 : Int) > (4096 : Int)), ()) w12)) fun J5 w8 =>
 cs t2.1 (
 J5 (true, ()) w8) (
 J5 (decide ((a1 : Int) < (1 : Int)), ()) w8)) fun J1 w4 =>
 cs (decide ((a0 : Int) < (0 : Int))) (
 J1 (true, ()) w4) (
 J1 (decide ((a0 : Int) > (1073741824 : Int)), ()) w4)
theorem tie79 (a0 : Int) (a1 : Int) (R : List Value → World → Prop) (w : World) : compF Pg Try.f79 ⟨[], [], [], [(1, [(3, 3, ⟨[(10, kB)], [8, 9]⟩), (7, 3, ⟨[(14, kB)], [12, 13]⟩), (11, 3, ⟨[(18, kB)], [16, 17]⟩), (15, 5, ⟨[(24, kB)], [20, 21, 22, 23]⟩)])]⟩ [.int .i64 a0, .int .i64 a1] R w = sh79 a0 a1 R w := by kernel_rfl
theorem call79 {a0 : Int} {a1 : Int} {w : World} {K : TK [kI] → World → Prop} (h : sh79 a0 a1 (fun vs w' => ∃ t, encK [kI] t = vs ∧ K t w') w) : cl Pg 79 [.int .i64 a0, .int .i64 a1] [kI] w K := cl_of Try.func79 (tie79 ..) h
/-- detent/detentref19.takes -/
def sh66 (a0 : Int) (R : List Value → World → Prop) (w : World) : Prop :=
 cl Pg 79 [.int .i64 a0, .int .i64 8] [kI] w fun (r1 : Int × Unit) w2 =>
 R [.int .i64 (w64 (8 + r1.1))] w2
theorem tie66 (a0 : Int) (R : List Value → World → Prop) (w : World) : compF Pg Try.f66 ⟨[], [], [], []⟩ [.int .i64 a0] R w = sh66 a0 R w := by kernel_rfl
theorem call66 {a0 : Int} {w : World} {K : TK [kI] → World → Prop} (h : sh66 a0 (fun vs w' => ∃ t, encK [kI] t = vs ∧ K t w') w) : cl Pg 66 [.int .i64 a0] [kI] w K := cl_of Try.func66 (tie66 ..) h
/-- (*detent/detentref19.Pool).gap -/
def sh55 (a0 : Option Addr) (a1 : Int) (R : List Value → World → Prop) (w : World) : Prop :=
 nn a0 fun b1 o2 =>
 ldI w .i64 b1 (o2 + 18) fun n3 =>
 jn [kI] w (fun (t5 : Int × Unit) w6 =>
 dr w6 fun w8 =>
 nn a0 fun b9 o10 =>
 ldI w8 .i64 b9 (o10 + 18) fun n11 =>
 nn a0 fun b12 o13 =>
 ldI w8 .i64 b12 (o13 + 19) fun n14 =>
 nn a0 fun b15 o16 =>
 ldS w8 b15 (o16 + 20) fun s17 =>
 jn [kI] w8 (fun (t19 : Int × Unit) w20 =>
 R [.int .i64 t5.1, .int .i64 (w64 (t19.1 - t5.1))] w20) fun J18 w21 =>
 cs (decide ((a1 : Int) < ((s17.len : Int) : Int))) (
 nn a0 fun b22 o23 =>
 ldS w21 b22 (o23 + 20) fun s24 =>
 ix s24 a1 2 fun b25 o26 =>
 ldI w21 .i64 b25 o26 fun n27 =>
 J18 (n27, ()) w21) (
 J18 (w64 (n11 + n14), ()) w21)) fun J4 w7 =>
 cs (decide ((a1 : Int) > (0 : Int))) (
 dr w7 fun w28 =>
 nn a0 fun b29 o30 =>
 ldS w28 b29 (o30 + 20) fun s31 =>
 ix s31 (w64 (a1 - 1)) 2 fun b32 o33 =>
 ldI w28 .i64 b32 o33 fun n34 =>
 nn a0 fun b35 o36 =>
 ldS w28 b35 (o36 + 20) fun s37 =>
 ix s37 (w64 (a1 - 1)) 2 fun b38 o39 =>
 ldI w28 .i64 b38 (o39 + 1) fun n40 =>
 cl Pg 66 [.int .i64 n40] [kI] w28 fun (r41 : Int × Unit) w42 =>
(w42.cell? ⟨b32, o33, none⟩ = some (.int .i64 n34)) ∧ (
(w42.cell? ⟨b29, o30 + 20, none⟩ = some (vS s31)) ∧ (
 J4 (w64 (n34 + r41.1), ()) w42))) (
 J4 (n3, ()) w7)
theorem tie55 (a0 : Option Addr) (a1 : Int) (R : List Value → World → Prop) (w : World) : compF Pg Try.f55 ⟨[(0, ⟨[(6, kI)], [14, 15, 16, 17, 18, 19, 20, 21, 22, 23, 24, 25, 26, 27, 28, 29, 30, 31, 32, 33]⟩), (1, ⟨[(7, kI)], [50, 51, 52, 53, 54, 55, 56, 57]⟩)], [], [(4, .l [(0, []), (1, []), (2, []), (3, []), (4, []), (5, []), (6, []), (7, []), (8, []), (9, [])]), (3, .l [(0, []), (1, []), (2, []), (3, []), (4, []), (5, []), (6, []), (7, []), (8, []), (9, []), (10, []), (11, []), (12, []), (13, []), (14, []), (15, []), (16, []), (17, []), (18, [17, 16, 15, 12, 14, 11, 13, 10, 9]), (19, []), (20, [])])], []⟩ [.pointer a0, .int .i64 a1] R w = sh55 a0 a1 R w := by kernel_rfl
theorem call55 {a0 : Option Addr} {a1 : Int} {w : World} {K : TK [kI, kI] → World → Prop} (h : sh55 a0 a1 (fun vs w' => ∃ t, encK [kI, kI] t = vs ∧ K t w') w) : cl Pg 55 [.pointer a0, .int .i64 a1] [kI, kI] w K := cl_of Try.func55 (tie55 ..) h
/-- (*detent/detentref19.Pool).find -/
def sh42 (a0 : Option Addr) (a1 : Int) (R : List Value → World → Prop) (w : World) : Prop :=
 lp [kI] w ((0 : Int), ()) fun (t1 : Int × Unit) J2 w3 =>
 nn a0 fun b4 o5 =>
 ldS w3 b4 (o5 + 20) fun s6 =>
 cs (decide ((t1.1 : Int) ≤ ((s6.len : Int) : Int))) (
 cl Pg 55 [.pointer a0, .int .i64 t1.1] [kI, kI] w3 fun (r7 : Int × Int × Unit) w8 =>
 cl Pg 66 [.int .i64 a1] [kI] w8 fun (r9 : Int × Unit) w10 =>
 cs (decide ((r7.2.1 : Int) < (r9.1 : Int))) (
 J2 (w64 (t1.1 + 1), ()) w10) (
 al w10 69 [] fun b11 w12 =>
 nn a0 fun b13 o14 =>
 ldS w12 b13 (o14 + 20) fun s15 =>
 sb s15 0 t1.1 s15.cap 2 fun s16 =>
 ef Pg (Builtin.append_ #[65, 65] 65 #[vS ⟨some ⟨b11, 0, none⟩, 0, 0⟩, vS s16]) [kS] w12 fun (r17 : Sl × Unit) w18 =>
 al w18 69 [.int .i64 r7.1, .int .i64 a1] fun b19 w20 =>
 ef Pg (Builtin.append_ #[65, 65] 65 #[vS r17.1, vS ⟨some ⟨b19, 0, none⟩, 1, 1⟩]) [kS] w20 fun (r21 : Sl × Unit) w22 =>
 nn a0 fun b23 o24 =>
 ldS w22 b23 (o24 + 20) fun s25 =>
 sb s25 t1.1 s25.len s25.cap 2 fun s26 =>
 ef Pg (Builtin.append_ #[65, 65] 65 #[vS r21.1, vS s26]) [kS] w22 fun (r27 : Sl × Unit) w28 =>
 nn a0 fun b29 o30 =>
 st1 w28 b29 (o30 + 20) (vS r27.1) fun w31 =>
 R [.int .i64 (w64 (r7.1 + 8)), .bool true] w31)) (
 R [.int .i64 0, .bool false] w3)
theorem tie42 (a0 : Option Addr) (a1 : Int) (R : List Value → World → Prop) (w : World) : compF Pg Try.f42 ⟨[(1, ⟨[(6, kI)], [4, 5, 7, 8, 9, 10, 11, 12, 13, 14, 15, 16, 17, 18, 19, 20, 21, 22, 23, 24, 25, 26, 27, 28, 29, 30, 31, 32, 33, 34, 35, 36, 37, 38, 39, 40, 41, 42, 43, 44, 45, 46, 47, 48, 49, 50, 51, 52, 53, 54]⟩)], [], [], []⟩ [.pointer a0, .int .i64 a1] R w = sh42 a0 a1 R w := by kernel_rfl
theorem call42 {a0 : Option Addr} {a1 : Int} {w : World} {K : TK [kI, kB] → World → Prop} (h : sh42 a0 a1 (fun vs w' => ∃ t, encK [kI, kB] t = vs ∧ K t w') w) : cl Pg 42 [.pointer a0, .int .i64 a1] [kI, kB] w K := cl_of Try.func42 (tie42 ..) h
/-- (*detent/detentref4.Queue).At -/
def sh50 (a0 : Option Addr) (a1 : Int) (R : List Value → World → Prop) (w : World) : Prop :=
 lp [kI] w ((0 : Int), ()) fun (t1 : Int × Unit) J2 w3 =>
 nn a0 fun b4 o5 =>
 ldS w3 b4 (o5 + 1) fun s6 =>
 cs (decide ((t1.1 : Int) < ((s6.len : Int) : Int))) (
 nn a0 fun b7 o8 =>
 ldS w3 b7 (o8 + 1) fun s9 =>
 ix s9 t1.1 2 fun b10 o11 =>
 ldI w3 .i64 b10 o11 fun n12 =>
 cs ((n12 : Int) == (a1 : Int)) (
 R [.int .i64 t1.1] w3) (
 J2 (w64 (t1.1 + 1), ()) w3)) (
 R [.int .i64 (-1)] w3)
theorem tie50 (a0 : Option Addr) (a1 : Int) (R : List Value → World → Prop) (w : World) : compF Pg Try.f50 ⟨[(1, ⟨[(5, kI)], [4, 6, 7, 8, 9, 10, 11, 12, 13, 14, 15, 16, 17, 18, 19, 20, 21, 22, 23, 24, 25]⟩)], [], [], []⟩ [.pointer a0, .int .i64 a1] R w = sh50 a0 a1 R w := by kernel_rfl
theorem call50 {a0 : Option Addr} {a1 : Int} {w : World} {K : TK [kI] → World → Prop} (h : sh50 a0 a1 (fun vs w' => ∃ t, encK [kI] t = vs ∧ K t w') w) : cl Pg 50 [.pointer a0, .int .i64 a1] [kI] w K := cl_of Try.func50 (tie50 ..) h
/-- (*detent/detentref4.Queue).put -/
def sh51 (a0 : Option Addr) (a1 : (Int × Int × Unit)) (R : List Value → World → Prop) (w : World) : Prop :=
 al w 108 [.int .i64 a1.1, .int .i64 a1.2.1] fun b1 w2 =>
 nn a0 fun b3 o4 =>
 ldS w2 b3 (o4 + 1) fun s5 =>
 nn a0 fun b6 o7 =>
 ldB w2 b6 o7 fun b8 =>
 jn [kI] w2 (fun (t10 : Int × Unit) w11 =>
 dr w11 fun w13 =>
 nn a0 fun b14 o15 =>
 ldS w13 b14 (o15 + 1) fun s16 =>
 sb s16 0 t10.1 s16.cap 2 fun s17 =>
 ldI w13 .i64 b1 0 fun n18 =>
 ldI w13 .i64 b1 (0 + 1) fun n19 =>
(
 al w13 108 [] fun b20 w21 =>
(w21.cell? ⟨b1, 0, none⟩ = some (.int .i64 n18) ∧ w21.cell? ⟨b1, 0 + 1, none⟩ = some (.int .i64 n19)) ∧ (
(w21.cell? ⟨b14, o15 + 1, none⟩ = some (vS s16)) ∧ (
(
 ef Pg (Builtin.append_ #[97, 97] 97 #[vS ⟨some ⟨b20, 0, none⟩, 0, 0⟩, vS s17]) [kS] w21 fun (r22 : Sl × Unit) w23 =>
(w23.cell? ⟨b1, 0, none⟩ = some (.int .i64 n18) ∧ w23.cell? ⟨b1, 0 + 1, none⟩ = some (.int .i64 n19)) ∧ (
 al w23 108 [.int .i64 n18, .int .i64 n19] fun b24 w25 =>
(w25.cell? ⟨b14, o15 + 1, none⟩ = some (vS s16)) ∧ (
 ef Pg (Builtin.append_ #[97, 97] 97 #[vS r22.1, vS ⟨some ⟨b24, 0, none⟩, 1, 1⟩]) [kS] w25 fun (r26 : Sl × Unit) w27 =>
 nn a0 fun b28 o29 =>
 ldS w27 b28 (o29 + 1) fun s30 =>
 sb s30 t10.1 s30.len s30.cap 2 fun s31 =>
 ef Pg (Builtin.append_ #[97, 97] 97 #[vS r26.1, vS s31]) [kS] w27 fun (r32 : Sl × Unit) w33 =>
 nn a0 fun b34 o35 =>
 st1 w33 b34 (o35 + 1) (vS r32.1) fun w36 =>
 R [] w36))) ∧ (
 al w21 108 [.int .i64 n18, .int .i64 n19] fun b37 w38 =>
(w38.cell? ⟨b14, o15 + 1, none⟩ = some (vS s16)) ∧ (
 ef Pg (Builtin.append_ #[97, 97] 97 #[vS ⟨some ⟨b20, 0, none⟩, 0, 0⟩, vS s17]) [kS] w38 fun (r39 : Sl × Unit) w40 =>
(w40.cell? ⟨b1, 0, none⟩ = some (.int .i64 n18) ∧ w40.cell? ⟨b1, 0 + 1, none⟩ = some (.int .i64 n19)) ∧ (
 ef Pg (Builtin.append_ #[97, 97] 97 #[vS r39.1, vS ⟨some ⟨b37, 0, none⟩, 1, 1⟩]) [kS] w40 fun (r41 : Sl × Unit) w42 =>
 nn a0 fun b43 o44 =>
 ldS w42 b43 (o44 + 1) fun s45 =>
 sb s45 t10.1 s45.len s45.cap 2 fun s46 =>
 ef Pg (Builtin.append_ #[97, 97] 97 #[vS r41.1, vS s46]) [kS] w42 fun (r47 : Sl × Unit) w48 =>
 nn a0 fun b49 o50 =>
 st1 w48 b49 (o50 + 1) (vS r47.1) fun w51 =>
 R [] w51)))))) ∧ (
 al w13 108 [.int .i64 n18, .int .i64 n19] fun b52 w53 =>
(w53.cell? ⟨b14, o15 + 1, none⟩ = some (vS s16)) ∧ (
 al w53 108 [] fun b54 w55 =>
(w55.cell? ⟨b1, 0, none⟩ = some (.int .i64 n18) ∧ w55.cell? ⟨b1, 0 + 1, none⟩ = some (.int .i64 n19)) ∧ (
(w55.cell? ⟨b14, o15 + 1, none⟩ = some (vS s16)) ∧ (
 ef Pg (Builtin.append_ #[97, 97] 97 #[vS ⟨some ⟨b54, 0, none⟩, 0, 0⟩, vS s17]) [kS] w55 fun (r56 : Sl × Unit) w57 =>
(w57.cell? ⟨b1, 0, none⟩ = some (.int .i64 n18) ∧ w57.cell? ⟨b1, 0 + 1, none⟩ = some (.int .i64 n19)) ∧ (
 ef Pg (Builtin.append_ #[97, 97] 97 #[vS r56.1, vS ⟨some ⟨b52, 0, none⟩, 1, 1⟩]) [kS] w57 fun (r58 : Sl × Unit) w59 =>
 nn a0 fun b60 o61 =>
 ldS w59 b60 (o61 + 1) fun s62 =>
 sb s62 t10.1 s62.len s62.cap 2 fun s63 =>
 ef Pg (Builtin.append_ #[97, 97] 97 #[vS r58.1, vS s63]) [kS] w59 fun (r64 : Sl × Unit) w65 =>
 nn a0 fun b66 o67 =>
 st1 w65 b66 (o67 + 1) (vS r64.1) fun w68 =>
 R [] w68)))))) fun J9 w12 =>
 cs b8 (
 lp [kI] w12 ((s5.len : Int), ()) fun (t69 : Int × Unit) J70 w71 =>
 dr w71 fun w72 =>
 jn [kB] w72 (fun (t74 : Bool × Unit) w75 =>
 cs t74.1 (
 J70 (w64 (t69.1 - 1), ()) w75) (
 J9 (t69.1, ()) w75)) fun J73 w76 =>
 cs (decide ((t69.1 : Int) > (0 : Int))) (
 nn a0 fun b77 o78 =>
 ldS w76 b77 (o78 + 1) fun s79 =>
 ix s79 (w64 (t69.1 - 1)) 2 fun b80 o81 =>
 ldI w76 .i64 b80 (o81 + 1) fun n82 =>
 ldI w76 .i64 b1 (0 + 1) fun n83 =>
 J73 (decide ((n82 : Int) > (n83 : Int)), ()) w76) (
 J73 (false, ()) w76)) (
 J9 ((s5.len : Int), ()) w12)
theorem tie51 (a0 : Option Addr) (a1 : (Int × Int × Unit)) (R : List Value → World → Prop) (w : World) : compF Pg Try.f51 ⟨[(0, ⟨[(4, kI)], [15, 16, 17, 18, 19, 20, 21, 22, 23, 24, 25, 26, 27, 28, 29, 30, 31, 32]⟩), (2, ⟨[(4, kI)], [15, 16, 17, 18, 19, 20, 21, 22, 23, 24, 25, 26, 27, 28, 29, 30, 31, 32]⟩)], [(3, ⟨[(30, kB)], [15, 16, 17, 18, 19, 20, 21, 22, 23, 24, 25, 26, 27, 28, 29]⟩)], [(5, .t [(1, []), (2, []), (3, []), (4, []), (5, []), (6, []), (8, [])] 0 [] (.t [] 7 [0, 6, 4, 5, 3, 2, 1] (.l [(9, [8]), (10, [7, 9, 0, 6, 8, 4, 5, 3, 2, 1]), (11, [])]) 9 [8] (.l [(7, [0, 6, 4, 5, 3, 2, 1]), (10, [7, 9, 0, 6, 8, 4, 5, 3, 2, 1]), (11, [])])) 9 [8] (.l [(0, []), (7, [0, 6, 4, 5, 3, 2, 1]), (10, [7, 9, 0, 6, 8, 4, 5, 3, 2, 1]), (11, [])])), (3, .l [(0, []), (1, []), (2, []), (3, []), (4, []), (5, []), (6, []), (7, []), (8, []), (9, []), (10, []), (11, []), (12, []), (13, []), (14, []), (15, [])])], []⟩ [.pointer a0, .agg #[.int .i64 a1.1, .int .i64 a1.2.1]] R w = sh51 a0 a1 R w := by kernel_rfl
theorem call51 {a0 : Option Addr} {a1 : (Int × Int × Unit)} {w : World} {K : TK [] → World → Prop} (h : sh51 a0 a1 (fun vs w' => ∃ t, encK [] t = vs ∧ K t w') w) : cl Pg 51 [.pointer a0, .agg #[.int .i64 a1.1, .int .i64 a1.2.1]] [] w K := cl_of Try.func51 (tie51 ..) h
/-- detent/detentref4.Good -/
def sh67 (a0 : Int) (a1 : Int) (R : List Value → World → Prop) (w : World) : Prop :=
 jn [kB] w (fun (t2 : Bool × Unit) w3 =>
 jn [kB] w3 (fun (t6 : Bool × Unit) w7 =>
 jn [kB] w7 (fun (t10 : Bool × Unit) w11 =>
 R [.bool t10.1] w11) fun J9 w12 =>
 cs t6.1 (
 J9 (decide ((a1 : Int) ≤ (16 : Int)), ()) w12) (
 J9 (false, ()) w12)) fun J5 w8 =>
 cs t2.1 (
 J5 (decide ((a1 : Int) ≥ (1 : Int)), ()) w8) (
 J5 (false, ()) w8)) fun J1 w4 =>
 cs (decide ((a0 : Int) ≥ (1 : Int))) (
 J1 (decide ((a0 : Int) ≤ (16 : Int)), ()) w4) (
 J1 (false, ()) w4)
theorem tie67 (a0 : Int) (a1 : Int) (R : List Value → World → Prop) (w : World) : compF Pg Try.f67 ⟨[], [], [], [(1, [(3, 3, ⟨[(10, kB)], [8, 9]⟩), (7, 3, ⟨[(14, kB)], [12, 13]⟩), (11, 3, ⟨[(18, kB)], [16, 17]⟩)])]⟩ [.int .i64 a0, .int .i64 a1] R w = sh67 a0 a1 R w := by kernel_rfl
theorem call67 {a0 : Int} {a1 : Int} {w : World} {K : TK [kB] → World → Prop} (h : sh67 a0 a1 (fun vs w' => ∃ t, encK [kB] t = vs ∧ K t w') w) : cl Pg 67 [.int .i64 a0, .int .i64 a1] [kB] w K := cl_of Try.func67 (tie67 ..) h
/-- (*detent/detentref4.Queue).Add -/
def sh43 (a0 : Option Addr) (a1 : Int) (a2 : Int) (R : List Value → World → Prop) (w : World) : Prop :=
 cl Pg 67 [.int .i64 a1, .int .i64 a2] [kB] w fun (r1 : Bool × Unit) w2 =>
 cs (!r1.1) (
 R [.int .i64 (-17)] w2) (
 cl Pg 50 [.pointer a0, .int .i64 a1] [kI] w2 fun (r3 : Int × Unit) w4 =>
 cs (decide ((r3.1 : Int) ≥ (0 : Int))) (
 R [.int .i64 (-41)] w4) (
 cl Pg 51 [.pointer a0, .agg #[.int .i64 a1, .int .i64 a2]] [] w4 fun (r5 : Unit) w6 =>
 R [.int .i64 0] w6))
theorem tie43 (a0 : Option Addr) (a1 : Int) (a2 : Int) (R : List Value → World → Prop) (w : World) : compF Pg Try.f43 ⟨[], [], [], []⟩ [.pointer a0, .int .i64 a1, .int .i64 a2] R w = sh43 a0 a1 a2 R w := by kernel_rfl
theorem call43 {a0 : Option Addr} {a1 : Int} {a2 : Int} {w : World} {K : TK [kI] → World → Prop} (h : sh43 a0 a1 a2 (fun vs w' => ∃ t, encK [kI] t = vs ∧ K t w') w) : cl Pg 43 [.pointer a0, .int .i64 a1, .int .i64 a2] [kI] w K := cl_of Try.func43 (tie43 ..) h
/-- (*detent/detentref19.Pool).Get -/
def sh16 (a0 : Option Addr) (a1 : Int) (a2 : Int) (a3 : Int) (R : List Value → World → Prop) (w : World) : Prop :=
 cl Pg 41 [.pointer a0, .int .i64 a3] [kB] w fun (r1 : Bool × Unit) w2 =>
 cs (!r1.1) (
 R [.int .i64 0, .bool false, .int .i64 (-17)] w2) (
 nn a0 fun b3 o4 =>
 ldP w2 b3 o4 fun p5 =>
 nn p5 fun b6 o7 =>
 ldS w2 b6 (o7 + 1) fun s8 =>
 jn [] w2 (fun (t10 : Unit) w11 =>
 nn a0 fun b13 o14 =>
 ldP w11 b13 o14 fun p15 =>
 cl Pg 43 [.pointer p15, .int .i64 a1, .int .i64 a2] [kI] w11 fun (r16 : Int × Unit) w17 =>
 jn [] w17 (fun (t19 : Unit) w20 =>
 R [.int .i64 0, .bool false, .int .i64 r16.1] w20) fun J18 w21 =>
 cs ((r16.1 : Int) == (0 : Int)) (
 nn a0 fun b22 o23 =>
 ixA b22 (o23 + 1) 17 a1 1 fun b24 o25 =>
 st1 w21 b24 o25 (.int .i64 a3) fun w26 =>
 J18 () w26) (
 J18 () w21)) fun J9 w12 =>
 cs (((s8.len : Int) : Int) == (0 : Int)) (
 cl Pg 42 [.pointer a0, .int .i64 a3] [kI, kB] w12 fun (r27 : Int × Bool × Unit) w28 =>
 cs r27.2.1 (
 R [.int .i64 r27.1, .bool true, .int .i64 0] w28) (
 J9 () w28)) (
 J9 () w12))
theorem tie16 (a0 : Option Addr) (a1 : Int) (a2 : Int) (a3 : Int) (R : List Value → World → Prop) (w : World) : compF Pg Try.f16 ⟨[(1, ⟨[], [8, 9, 10, 11, 12, 27, 28, 29, 30, 31, 32, 33, 34]⟩), (3, ⟨[], [44, 45, 46, 47, 48, 49]⟩)], [], [], []⟩ [.pointer a0, .int .i64 a1, .int .i64 a2, .int .i64 a3] R w = sh16 a0 a1 a2 a3 R w := by kernel_rfl
theorem call16 {a0 : Option Addr} {a1 : Int} {a2 : Int} {a3 : Int} {w : World} {K : TK [kI, kB, kI] → World → Prop} (h : sh16 a0 a1 a2 a3 (fun vs w' => ∃ t, encK [kI, kB, kI] t = vs ∧ K t w') w) : cl Pg 16 [.pointer a0, .int .i64 a1, .int .i64 a2, .int .i64 a3] [kI, kB, kI] w K := cl_of Try.func16 (tie16 ..) h
/-- (*detent/detentref19.Pool).Poll -/
def sh17 (a0 : Option Addr) (a1 : Int) (R : List Value → World → Prop) (w : World) : Prop :=
 cl Pg 41 [.pointer a0, .int .i64 a1] [kB] w fun (r1 : Bool × Unit) w2 =>
 cs (!r1.1) (
 R [.int .i64 0, .bool false, .int .i64 (-17)] w2) (
 cl Pg 42 [.pointer a0, .int .i64 a1] [kI, kB] w2 fun (r3 : Int × Bool × Unit) w4 =>
 R [.int .i64 r3.1, .bool r3.2.1, .int .i64 0] w4)
theorem tie17 (a0 : Option Addr) (a1 : Int) (R : List Value → World → Prop) (w : World) : compF Pg Try.f17 ⟨[], [], [], []⟩ [.pointer a0, .int .i64 a1] R w = sh17 a0 a1 R w := by kernel_rfl
theorem call17 {a0 : Option Addr} {a1 : Int} {w : World} {K : TK [kI, kB, kI] → World → Prop} (h : sh17 a0 a1 (fun vs w' => ∃ t, encK [kI, kB, kI] t = vs ∧ K t w') w) : cl Pg 17 [.pointer a0, .int .i64 a1] [kI, kB, kI] w K := cl_of Try.func17 (tie17 ..) h
/-- (*detent/detentref4.Queue).Take -/
def sh68 (a0 : Option Addr) (R : List Value → World → Prop) (w : World) : Prop :=
 al w 108 [.int .i64 0, .int .i64 0] fun b1 w2 =>
 nn a0 fun b3 o4 =>
 ldS w2 b3 (o4 + 1) fun s5 =>
 cs (((s5.len : Int) : Int) == (0 : Int)) (
 st1 w2 b1 0 (.int .i64 0) fun w6 =>
 st1 w6 b1 (0 + 1) (.int .i64 0) fun w7 =>
 ldI w7 .i64 b1 0 fun n8 =>
 ldI w7 .i64 b1 (0 + 1) fun n9 =>
 R [.agg #[.int .i64 n8, .int .i64 n9], .bool false] w7) (
 nn a0 fun b10 o11 =>
 ldS w2 b10 (o11 + 1) fun s12 =>
 ix s12 0 2 fun b13 o14 =>
 ldI w2 .i64 b13 o14 fun n15 =>
 ldI w2 .i64 b13 (o14 + 1) fun n16 =>
 al w2 108 [.int .i64 0, .int .i64 0] fun b17 w18 =>
 st1 w18 b17 0 (.int .i64 n15) fun w19 =>
 st1 w19 b17 (0 + 1) (.int .i64 n16) fun w20 =>
 al w20 108 [] fun b21 w22 =>
 nn a0 fun b23 o24 =>
 ldS w22 b23 (o24 + 1) fun s25 =>
 sb s25 1 s25.len s25.cap 2 fun s26 =>
 ef Pg (Builtin.append_ #[97, 97] 97 #[vS ⟨some ⟨b21, 0, none⟩, 0, 0⟩, vS s26]) [kS] w22 fun (r27 : Sl × Unit) w28 =>
 nn a0 fun b29 o30 =>
 st1 w28 b29 (o30 + 1) (vS r27.1) fun w31 =>
 ldI w31 .i64 b17 0 fun n32 =>
 ldI w31 .i64 b17 (0 + 1) fun n33 =>
 st1 w31 b1 0 (.int .i64 n32) fun w34 =>
 st1 w34 b1 (0 + 1) (.int .i64 n33) fun w35 =>
 ldI w35 .i64 b1 0 fun n36 =>
 ldI w35 .i64 b1 (0 + 1) fun n37 =>
 R [.agg #[.int .i64 n36, .int .i64 n37], .bool true] w35)
theorem tie68 (a0 : Option Addr) (R : List Value → World → Prop) (w : World) : compF Pg Try.f68 ⟨[], [], [], []⟩ [.pointer a0] R w = sh68 a0 R w := by kernel_rfl
theorem call68 {a0 : Option Addr} {w : World} {K : TK [.a [(.i .i64), (.i .i64)], kB] → World → Prop} (h : sh68 a0 (fun vs w' => ∃ t, encK [.a [(.i .i64), (.i .i64)], kB] t = vs ∧ K t w') w) : cl Pg 68 [.pointer a0] [.a [(.i .i64), (.i .i64)], kB] w K := cl_of Try.func68 (tie68 ..) h
/-- (*detent/detentref19.Pool).fill -/
def sh44 (a0 : Option Addr) (R : List Value → World → Prop) (w : World) : Prop :=
 lp [kS] w (⟨none, 0, 0⟩, ()) fun (t1 : Sl × Unit) J2 w3 =>
 nn a0 fun b4 o5 =>
 ldP w3 b4 o5 fun p6 =>
 nn p6 fun b7 o8 =>
 ldS w3 b7 (o8 + 1) fun s9 =>
 cs (decide (((s9.len : Int) : Int) > (0 : Int))) (
 nn a0 fun b10 o11 =>
 ldP w3 b10 o11 fun p12 =>
 nn p12 fun b13 o14 =>
 ldS w3 b13 (o14 + 1) fun s15 =>
 ix s15 0 2 fun b16 o17 =>
 ldI w3 .i64 b16 o17 fun n18 =>
 nn a0 fun b19 o20 =>
 ixA b19 (o20 + 1) 17 n18 1 fun b21 o22 =>
 ldI w3 .i64 b21 o22 fun n23 =>
 cl Pg 42 [.pointer a0, .int .i64 n23] [kI, kB] w3 fun (r24 : Int × Bool × Unit) w25 =>
 cs (!r24.2.1) (
 R [vS t1.1] w25) (
 nn a0 fun b26 o27 =>
 ldP w25 b26 o27 fun p28 =>
 cl Pg 68 [.pointer p28] [.a [(.i .i64), (.i .i64)], kB] w25 fun (r29 : (Int × Int × Unit) × Bool × Unit) w30 =>
 al w30 102 [.int .i64 n18, .int .i64 r24.1] fun b31 w32 =>
 ef Pg (Builtin.append_ #[70, 70] 70 #[vS t1.1, vS ⟨some ⟨b31, 0, none⟩, 1, 1⟩]) [kS] w32 fun (r33 : Sl × Unit) w34 =>
 J2 (r33.1, ()) w34)) (
 R [vS t1.1] w3)
theorem tie44 (a0 : Option Addr) (R : List Value → World → Prop) (w : World) : compF Pg Try.f44 ⟨[(1, ⟨[(3, kS)], [2, 4, 5, 6, 7, 8, 9, 10, 11, 12, 13, 14, 15, 16, 17, 18, 19, 20, 21, 22, 23, 24, 25, 26, 27, 28, 29, 30, 31, 32, 33, 34, 35, 36, 37, 38, 39, 40, 41, 42, 43, 44, 45, 46, 47, 48, 49, 50]⟩)], [], [], []⟩ [.pointer a0] R w = sh44 a0 R w := by kernel_rfl
theorem call44 {a0 : Option Addr} {w : World} {K : TK [kS] → World → Prop} (h : sh44 a0 (fun vs w' => ∃ t, encK [kS] t = vs ∧ K t w') w) : cl Pg 44 [.pointer a0] [kS] w K := cl_of Try.func44 (tie44 ..) h
/-- (*detent/detentref19.Pool).Put -/
def sh18 (a0 : Option Addr) (a1 : Int) (R : List Value → World → Prop) (w : World) : Prop :=
 lp [kI] w ((0 : Int), ()) fun (t1 : Int × Unit) J2 w3 =>
 nn a0 fun b4 o5 =>
 ldS w3 b4 (o5 + 20) fun s6 =>
 cs (decide ((t1.1 : Int) < ((s6.len : Int) : Int))) (
 nn a0 fun b7 o8 =>
 ldS w3 b7 (o8 + 20) fun s9 =>
 ix s9 t1.1 2 fun b10 o11 =>
 ldI w3 .i64 b10 o11 fun n12 =>
 cs ((w64 (n12 + 8) : Int) != (a1 : Int)) (
 J2 (w64 (t1.1 + 1), ()) w3) (
 al w3 69 [] fun b13 w14 =>
 nn a0 fun b15 o16 =>
 ldS w14 b15 (o16 + 20) fun s17 =>
 sb s17 0 t1.1 s17.cap 2 fun s18 =>
 ef Pg (Builtin.append_ #[65, 65] 65 #[vS ⟨some ⟨b13, 0, none⟩, 0, 0⟩, vS s18]) [kS] w14 fun (r19 : Sl × Unit) w20 =>
 nn a0 fun b21 o22 =>
 ldS w20 b21 (o22 + 20) fun s23 =>
 sb s23 (w64 (t1.1 + 1)) s23.len s23.cap 2 fun s24 =>
 ef Pg (Builtin.append_ #[65, 65] 65 #[vS r19.1, vS s24]) [kS] w20 fun (r25 : Sl × Unit) w26 =>
 nn a0 fun b27 o28 =>
 st1 w26 b27 (o28 + 20) (vS r25.1) fun w29 =>
 cl Pg 44 [.pointer a0] [kS] w29 fun (r30 : Sl × Unit) w31 =>
 R [vS r30.1, .int .i64 0] w31)) (
 R [.slice none 0 0, .int .i64 (-17)] w3)
theorem tie18 (a0 : Option Addr) (a1 : Int) (R : List Value → World → Prop) (w : World) : compF Pg Try.f18 ⟨[(1, ⟨[(6, kI)], [4, 5, 7, 8, 9, 10, 11, 12, 13, 14, 15, 16, 17, 18, 19, 20, 21, 22, 23, 24, 25, 26, 27, 28, 29, 30, 31, 32, 33, 34, 35, 36, 37, 38, 39, 40, 41, 42, 43, 44, 45, 46, 47, 48, 49]⟩)], [], [], []⟩ [.pointer a0, .int .i64 a1] R w = sh18 a0 a1 R w := by kernel_rfl
theorem call18 {a0 : Option Addr} {a1 : Int} {w : World} {K : TK [kS, kI] → World → Prop} (h : sh18 a0 a1 (fun vs w' => ∃ t, encK [kS, kI] t = vs ∧ K t w') w) : cl Pg 18 [.pointer a0, .int .i64 a1] [kS, kI] w K := cl_of Try.func18 (tie18 ..) h
/-- detent/detentlaw19.woken -/
def sh19 (a0 : Sl) (a1 : Sl) (R : List Value → World → Prop) (w : World) : Prop :=
 cs (((a0.len : Int) : Int) != ((a1.len : Int) : Int)) (
 R [.bool false] w) (
 lp [kI] w ((0 : Int), ()) fun (t1 : Int × Unit) J2 w3 =>
 cs (decide ((t1.1 : Int) < ((a0.len : Int) : Int))) (
 dr w3 fun w4 =>
 jn [kB] w4 (fun (t6 : Bool × Unit) w7 =>
 cs t6.1 (
 R [.bool false] w7) (
 J2 (w64 (t1.1 + 1), ()) w7)) fun J5 w8 =>
 ix a0 t1.1 2 fun b9 o10 =>
 ldI w8 .i64 b9 o10 fun n11 =>
 ix a1 t1.1 2 fun b12 o13 =>
 ldI w8 .i64 b12 o13 fun n14 =>
 cs ((n11 : Int) != (n14 : Int)) (
 J5 (true, ()) w8) (
 ix a0 t1.1 2 fun b15 o16 =>
 ldI w8 .i64 b15 (o16 + 1) fun n17 =>
 ix a1 t1.1 2 fun b18 o19 =>
 ldI w8 .i64 b18 (o19 + 1) fun n20 =>
 J5 ((n17 : Int) != (n20 : Int), ()) w8)) (
 R [.bool true] w3))
theorem tie19 (a0 : Sl) (a1 : Sl) (R : List Value → World → Prop) (w : World) : compF Pg Try.f19 ⟨[(2, ⟨[(5, kI)], [4, 11, 12, 13, 14, 15, 16, 17, 18, 19, 20, 21, 22, 23, 24, 25, 26, 27, 28, 29, 30, 31, 32, 33, 34, 35, 36, 37, 38, 39, 40]⟩)], [(6, ⟨[(40, kB)], [17, 18, 19, 20, 21, 22, 23, 24, 25, 26, 27, 28, 29, 30, 31, 32, 33, 34, 35, 36, 37, 38, 39]⟩)], [(6, .l [(0, []), (1, []), (2, []), (3, []), (4, []), (5, []), (6, []), (7, []), (8, []), (9, []), (10, []), (11, []), (12, []), (13, []), (14, []), (15, []), (16, []), (17, []), (18, []), (19, []), (20, []), (21, []), (22, []), (23, [])])], []⟩ [vS a0, vS a1] R w = sh19 a0 a1 R w := by kernel_rfl
theorem call19 {a0 : Sl} {a1 : Sl} {w : World} {K : TK [kB] → World → Prop} (h : sh19 a0 a1 (fun vs w' => ∃ t, encK [kB] t = vs ∧ K t w') w) : cl Pg 19 [vS a0, vS a1] [kB] w K := cl_of Try.func19 (tie19 ..) h
/-- (*detent/mpl.Pool).Drop -/
def sh20 (a0 : Option Addr) (a1 : Int) (R : List Value → World → Prop) (w : World) : Prop :=
 nn a0 fun b1 o2 =>
 ldP w b1 o2 fun p3 =>
 nn p3 fun b4 o5 =>
 cl Pg 45 [.pointer (some ⟨b4, o5, none⟩), .int .i64 a1] [kB] w fun (r6 : Bool × Unit) w7 =>
 cs (!r6.1) (
 R [.slice none 0 0, .bool false] w7) (
 nn a0 fun b8 o9 =>
 ldM w7 b8 (o9 + 4) fun m10 =>
 ef Pg (Builtin.delete_ #[43, 3] 0 #[.map m10, .int .i64 a1]) [] w7 fun (r11 : Unit) w12 =>
 cl Pg 38 [.pointer a0] [kS] w12 fun (r13 : Sl × Unit) w14 =>
 R [vS r13.1, .bool true] w14)
theorem tie20 (a0 : Option Addr) (a1 : Int) (R : List Value → World → Prop) (w : World) : compF Pg Try.f20 ⟨[], [], [], []⟩ [.pointer a0, .int .i64 a1] R w = sh20 a0 a1 R w := by kernel_rfl
theorem call20 {a0 : Option Addr} {a1 : Int} {w : World} {K : TK [kS, kB] → World → Prop} (h : sh20 a0 a1 (fun vs w' => ∃ t, encK [kS, kB] t = vs ∧ K t w') w) : cl Pg 20 [.pointer a0, .int .i64 a1] [kS, kB] w K := cl_of Try.func20 (tie20 ..) h
/-- (*detent/detentref4.Queue).Remove -/
def sh46 (a0 : Option Addr) (a1 : Int) (R : List Value → World → Prop) (w : World) : Prop :=
 cl Pg 50 [.pointer a0, .int .i64 a1] [kI] w fun (r1 : Int × Unit) w2 =>
 cs (decide ((r1.1 : Int) < (0 : Int))) (
 R [.bool false] w2) (
 al w2 108 [] fun b3 w4 =>
 nn a0 fun b5 o6 =>
 ldS w4 b5 (o6 + 1) fun s7 =>
 sb s7 0 r1.1 s7.cap 2 fun s8 =>
 ef Pg (Builtin.append_ #[97, 97] 97 #[vS ⟨some ⟨b3, 0, none⟩, 0, 0⟩, vS s8]) [kS] w4 fun (r9 : Sl × Unit) w10 =>
 nn a0 fun b11 o12 =>
 ldS w10 b11 (o12 + 1) fun s13 =>
 sb s13 (w64 (r1.1 + 1)) s13.len s13.cap 2 fun s14 =>
 ef Pg (Builtin.append_ #[97, 97] 97 #[vS r9.1, vS s14]) [kS] w10 fun (r15 : Sl × Unit) w16 =>
 nn a0 fun b17 o18 =>
 st1 w16 b17 (o18 + 1) (vS r15.1) fun w19 =>
 R [.bool true] w19)
theorem tie46 (a0 : Option Addr) (a1 : Int) (R : List Value → World → Prop) (w : World) : compF Pg Try.f46 ⟨[], [], [], []⟩ [.pointer a0, .int .i64 a1] R w = sh46 a0 a1 R w := by kernel_rfl
theorem call46 {a0 : Option Addr} {a1 : Int} {w : World} {K : TK [kB] → World → Prop} (h : sh46 a0 a1 (fun vs w' => ∃ t, encK [kB] t = vs ∧ K t w') w) : cl Pg 46 [.pointer a0, .int .i64 a1] [kB] w K := cl_of Try.func46 (tie46 ..) h
/-- (*detent/detentref19.Pool).Drop -/
def sh21 (a0 : Option Addr) (a1 : Int) (R : List Value → World → Prop) (w : World) : Prop :=
 nn a0 fun b1 o2 =>
 ldP w b1 o2 fun p3 =>
 cl Pg 46 [.pointer p3, .int .i64 a1] [kB] w fun (r4 : Bool × Unit) w5 =>
 cs (!r4.1) (
 R [.slice none 0 0, .bool false] w5) (
 cl Pg 44 [.pointer a0] [kS] w5 fun (r6 : Sl × Unit) w7 =>
 R [vS r6.1, .bool true] w7)
theorem tie21 (a0 : Option Addr) (a1 : Int) (R : List Value → World → Prop) (w : World) : compF Pg Try.f21 ⟨[], [], [], []⟩ [.pointer a0, .int .i64 a1] R w = sh21 a0 a1 R w := by kernel_rfl
theorem call21 {a0 : Option Addr} {a1 : Int} {w : World} {K : TK [kS, kB] → World → Prop} (h : sh21 a0 a1 (fun vs w' => ∃ t, encK [kS, kB] t = vs ∧ K t w') w) : cl Pg 21 [.pointer a0, .int .i64 a1] [kS, kB] w K := cl_of Try.func21 (tie21 ..) h
/-- (*detent/order.Queue).Change -/
def sh22 (a0 : Option Addr) (a1 : Int) (a2 : Int) (R : List Value → World → Prop) (w : World) : Prop :=
 nn a0 fun b1 o2 =>
 cl Pg 47 [.pointer (some ⟨b1, o2, none⟩), .int .i64 a1] [kI] w fun (r3 : Int × Unit) w4 =>
 jn [kB] w4 (fun (t6 : Bool × Unit) w7 =>
 cs t6.1 (
 R [.bool false] w7) (
 nn a0 fun b9 o10 =>
 ldB w7 b9 (o10 + 1) fun b11 =>
 cs (!b11) (
 nn a0 fun b12 o13 =>
 ldS w7 b12 o13 fun s14 =>
 ix s14 r3.1 2 fun b15 o16 =>
 st1 w7 b15 (o16 + 1) (.int .i64 a2) fun w17 =>
 R [.bool true] w17) (
 nn a0 fun b18 o19 =>
 cl Pg 45 [.pointer (some ⟨b18, o19, none⟩), .int .i64 a1] [kB] w7 fun (r20 : Bool × Unit) w21 =>
 cl Pg 49 [.pointer a0, .agg #[.int .i64 a1, .int .i64 a2]] [] w21 fun (r22 : Unit) w23 =>
 R [.bool true] w23))) fun J5 w8 =>
 cs (decide ((r3.1 : Int) < (0 : Int))) (
 J5 (true, ()) w8) (
 cl Pg 48 [.int .i64 a2] [kB] w8 fun (r24 : Bool × Unit) w25 =>
 J5 (!r24.1, ()) w25)
theorem tie22 (a0 : Option Addr) (a1 : Int) (a2 : Int) (R : List Value → World → Prop) (w : World) : compF Pg Try.f22 ⟨[], [], [], [(2, [(3, 4, ⟨[(19, kB)], [16, 17, 18]⟩)])]⟩ [.pointer a0, .int .i64 a1, .int .i64 a2] R w = sh22 a0 a1 a2 R w := by kernel_rfl
theorem call22 {a0 : Option Addr} {a1 : Int} {a2 : Int} {w : World} {K : TK [kB] → World → Prop} (h : sh22 a0 a1 a2 (fun vs w' => ∃ t, encK [kB] t = vs ∧ K t w') w) : cl Pg 22 [.pointer a0, .int .i64 a1, .int .i64 a2] [kB] w K := cl_of Try.func22 (tie22 ..) h
/-- (*detent/detentref4.Queue).Change -/
def sh23 (a0 : Option Addr) (a1 : Int) (a2 : Int) (R : List Value → World → Prop) (w : World) : Prop :=
 cl Pg 50 [.pointer a0, .int .i64 a1] [kI] w fun (r1 : Int × Unit) w2 =>
 jn [kB] w2 (fun (t4 : Bool × Unit) w5 =>
 jn [kB] w5 (fun (t8 : Bool × Unit) w9 =>
 cs t8.1 (
 R [.bool false] w9) (
 nn a0 fun b11 o12 =>
 ldB w9 b11 o12 fun b13 =>
 cs b13 (
 cl Pg 46 [.pointer a0, .int .i64 a1] [kB] w9 fun (r14 : Bool × Unit) w15 =>
 cl Pg 51 [.pointer a0, .agg #[.int .i64 a1, .int .i64 a2]] [] w15 fun (r16 : Unit) w17 =>
 R [.bool true] w17) (
 al w9 108 [] fun b18 w19 =>
 nn a0 fun b20 o21 =>
 ldS w19 b20 (o21 + 1) fun s22 =>
 ef Pg (Builtin.append_ #[97, 97] 97 #[vS ⟨some ⟨b18, 0, none⟩, 0, 0⟩, vS s22]) [kS] w19 fun (r23 : Sl × Unit) w24 =>
 nn a0 fun b25 o26 =>
 st1 w24 b25 (o26 + 1) (vS r23.1) fun w27 =>
 nn a0 fun b28 o29 =>
 ldS w27 b28 (o29 + 1) fun s30 =>
 ix s30 r1.1 2 fun b31 o32 =>
 st1 w27 b31 (o32 + 1) (.int .i64 a2) fun w33 =>
 R [.bool true] w33))) fun J7 w10 =>
 cs t4.1 (
 J7 (true, ()) w10) (
 J7 (decide ((a2 : Int) > (16 : Int)), ()) w10)) fun J3 w6 =>
 cs (decide ((r1.1 : Int) < (0 : Int))) (
 J3 (true, ()) w6) (
 J3 (decide ((a2 : Int) < (1 : Int)), ()) w6)
theorem tie23 (a0 : Option Addr) (a1 : Int) (a2 : Int) (R : List Value → World → Prop) (w : World) : compF Pg Try.f23 ⟨[], [], [], [(2, [(3, 3, ⟨[(16, kB)], [14, 15]⟩), (7, 3, ⟨[(20, kB)], [18, 19]⟩)])]⟩ [.pointer a0, .int .i64 a1, .int .i64 a2] R w = sh23 a0 a1 a2 R w := by kernel_rfl
theorem call23 {a0 : Option Addr} {a1 : Int} {a2 : Int} {w : World} {K : TK [kB] → World → Prop} (h : sh23 a0 a1 a2 (fun vs w' => ∃ t, encK [kB] t = vs ∧ K t w') w) : cl Pg 23 [.pointer a0, .int .i64 a1, .int .i64 a2] [kB] w K := cl_of Try.func23 (tie23 ..) h
/-- slices.Clone[[]detent/order.Item,detent/order.Item] -/
def sh73 (a0 : Sl) (R : List Value → World → Prop) (w : World) : Prop :=
 cs a0.a.isNone (
 R [.slice none 0 0] w) (
 al w 105 [] fun b1 w2 =>
 ef Pg (Builtin.append_ #[46, 46] 46 #[vS ⟨some ⟨b1, 0, none⟩, 0, 0⟩, vS a0]) [kS] w2 fun (r3 : Sl × Unit) w4 =>
 R [vS r3.1] w4)
theorem tie73 (a0 : Sl) (R : List Value → World → Prop) (w : World) : compF Pg Try.f73 ⟨[], [], [], []⟩ [vS a0] R w = sh73 a0 R w := by kernel_rfl
theorem call73 {a0 : Sl} {w : World} {K : TK [kS] → World → Prop} (h : sh73 a0 (fun vs w' => ∃ t, encK [kS] t = vs ∧ K t w') w) : cl Pg 73 [vS a0] [kS] w K := cl_of Try.func73 (tie73 ..) h
/-- (*detent/order.Queue).Twin -/
def sh52 (a0 : Option Addr) (R : List Value → World → Prop) (w : World) : Prop :=
 dr w fun w1 =>
 nn a0 fun b2 o3 =>
 ldS w1 b2 o3 fun s4 =>
 nn a0 fun b5 o6 =>
 ldB w1 b5 (o6 + 1) fun b7 =>
 cl Pg 73 [vS s4] [kS] w1 fun (r8 : Sl × Unit) w9 =>
(w9.cell? ⟨b5, o6 + 1, none⟩ = some (.bool b7)) ∧ (
 al w9 50 [vS r8.1, .bool b7] fun b10 w11 =>
 R [.pointer (some ⟨b10, 0, none⟩)] w11)
theorem tie52 (a0 : Option Addr) (R : List Value → World → Prop) (w : World) : compF Pg Try.f52 ⟨[], [], [(1, .l [(0, []), (1, []), (2, []), (3, []), (4, []), (7, []), (8, []), (9, []), (10, []), (5, [4, 3, 2, 1, 0]), (6, []), (11, []), (12, [11, 6, 10, 5, 9, 4, 8, 3, 7, 2, 1, 0]), (13, [])])], []⟩ [.pointer a0] R w = sh52 a0 R w := by kernel_rfl
theorem call52 {a0 : Option Addr} {w : World} {K : TK [kP] → World → Prop} (h : sh52 a0 (fun vs w' => ∃ t, encK [kP] t = vs ∧ K t w') w) : cl Pg 52 [.pointer a0] [kP] w K := cl_of Try.func52 (tie52 ..) h
/-- slices.Clone[[]detent/mpl.block,detent/mpl.block] -/
def sh53 (a0 : Sl) (R : List Value → World → Prop) (w : World) : Prop :=
 cs a0.a.isNone (
 R [.slice none 0 0] w) (
 al w 90 [] fun b1 w2 =>
 ef Pg (Builtin.append_ #[42, 42] 42 #[vS ⟨some ⟨b1, 0, none⟩, 0, 0⟩, vS a0]) [kS] w2 fun (r3 : Sl × Unit) w4 =>
 R [vS r3.1] w4)
theorem tie53 (a0 : Sl) (R : List Value → World → Prop) (w : World) : compF Pg Try.f53 ⟨[], [], [], []⟩ [vS a0] R w = sh53 a0 R w := by kernel_rfl
theorem call53 {a0 : Sl} {w : World} {K : TK [kS] → World → Prop} (h : sh53 a0 (fun vs w' => ∃ t, encK [kS] t = vs ∧ K t w') w) : cl Pg 53 [vS a0] [kS] w K := cl_of Try.func53 (tie53 ..) h
/-- maps.Clone[map[int]int,int,int] -/
def sh54 (a0 : Option Nat) (R : List Value → World → Prop) (w : World) : Prop :=
 cs a0.isNone (
 R [.map none] w) (
 xt Pg 74 [.iface 43 (.map a0)] [.l .n] w fun (r1 : Iv × Unit) w2 =>
 ef Pg (Instr.typeAssert (.iface r1.1.t r1.1.v) 20 43 false) [kM] w2 fun (r3 : Option Nat × Unit) w4 =>
 R [.map r3.1] w4)
theorem tie54 (a0 : Option Nat) (R : List Value → World → Prop) (w : World) : compF Pg Try.f54 ⟨[], [], [], []⟩ [.map a0] R w = sh54 a0 R w := by kernel_rfl
theorem call54 {a0 : Option Nat} {w : World} {K : TK [kM] → World → Prop} (h : sh54 a0 (fun vs w' => ∃ t, encK [kM] t = vs ∧ K t w') w) : cl Pg 54 [.map a0] [kM] w K := cl_of Try.func54 (tie54 ..) h
/-- (*detent/mpl.Pool).Apart -/
def sh24 (a0 : Option Addr) (R : List Value → World → Prop) (w : World) : Prop :=
 dr w fun w1 =>
 nn a0 fun b2 o3 =>
 ldP w1 b2 o3 fun p4 =>
 nn a0 fun b5 o6 =>
 ldI w1 .i64 b5 (o6 + 1) fun n7 =>
 nn a0 fun b8 o9 =>
 ldI w1 .i64 b8 (o9 + 2) fun n10 =>
 nn a0 fun b11 o12 =>
 ldS w1 b11 (o12 + 3) fun s13 =>
 nn a0 fun b14 o15 =>
 ldM w1 b14 (o15 + 4) fun m16 =>
 cl Pg 52 [.pointer p4] [kP] w1 fun (r17 : Option Addr × Unit) w18 =>
(w18.cell? ⟨b14, o15 + 4, none⟩ = some (.map m16)) ∧ (
(w18.cell? ⟨b11, o12 + 3, none⟩ = some (vS s13)) ∧ (
(w18.cell? ⟨b8, o9 + 2, none⟩ = some (.int .i64 n10)) ∧ (
(w18.cell? ⟨b5, o6 + 1, none⟩ = some (.int .i64 n7)) ∧ (
 cl Pg 53 [vS s13] [kS] w18 fun (r19 : Sl × Unit) w20 =>
(w20.cell? ⟨b14, o15 + 4, none⟩ = some (.map m16)) ∧ (
(w20.cell? ⟨b8, o9 + 2, none⟩ = some (.int .i64 n10)) ∧ (
(w20.cell? ⟨b5, o6 + 1, none⟩ = some (.int .i64 n7)) ∧ (
 cl Pg 54 [.map m16] [kM] w20 fun (r21 : Option Nat × Unit) w22 =>
(w22.cell? ⟨b8, o9 + 2, none⟩ = some (.int .i64 n10)) ∧ (
(w22.cell? ⟨b5, o6 + 1, none⟩ = some (.int .i64 n7)) ∧ (
 al w22 45 [.pointer r17.1, .int .i64 n7, .int .i64 n10, vS r19.1, .map r21.1] fun b23 w24 =>
 R [.pointer (some ⟨b23, 0, none⟩)] w24)))))))))
theorem tie24 (a0 : Option Addr) (R : List Value → World → Prop) (w : World) : compF Pg Try.f24 ⟨[], [], [(1, .l [(0, []), (1, []), (2, []), (3, []), (5, []), (6, []), (7, []), (8, []), (9, []), (10, []), (11, []), (12, []), (13, []), (14, []), (15, []), (16, []), (18, []), (19, []), (20, []), (21, []), (4, [3, 2, 1, 0]), (17, [16, 4, 15, 3, 14, 2, 13, 1, 0]), (22, [21, 17, 20, 16, 4, 19, 15, 3, 18, 14, 2, 13, 1, 0]), (23, []), (24, [23, 4, 8, 12, 17, 22, 3, 7, 11, 16, 21, 2, 6, 10, 15, 20, 1, 5, 9, 14, 19, 0, 13, 18]), (25, [])])], []⟩ [.pointer a0] R w = sh24 a0 R w := by kernel_rfl
theorem call24 {a0 : Option Addr} {w : World} {K : TK [kP] → World → Prop} (h : sh24 a0 (fun vs w' => ∃ t, encK [kP] t = vs ∧ K t w') w) : cl Pg 24 [.pointer a0] [kP] w K := cl_of Try.func24 (tie24 ..) h
/-- (*detent/detentref19.Pool).Free -/
def sh25 (a0 : Option Addr) (R : List Value → World → Prop) (w : World) : Prop :=
 lp [kI, kI, kI] w ((0 : Int), (0 : Int), (0 : Int), ()) fun (t1 : Int × Int × Int × Unit) J2 w3 =>
 nn a0 fun b4 o5 =>
 ldS w3 b4 (o5 + 20) fun s6 =>
 cs (decide ((t1.2.2.1 : Int) ≤ ((s6.len : Int) : Int))) (
 cl Pg 55 [.pointer a0, .int .i64 t1.2.2.1] [kI, kI] w3 fun (r7 : Int × Int × Unit) w8 =>
 cs (decide ((w64 (r7.2.1 - 8) : Int) > (t1.2.1 : Int))) (
 J2 (w64 (t1.1 + r7.2.1), w64 (r7.2.1 - 8), w64 (t1.2.2.1 + 1), ()) w8) (
 J2 (w64 (t1.1 + r7.2.1), t1.2.1, w64 (t1.2.2.1 + 1), ()) w8)) (
 R [.int .i64 t1.1, .int .i64 t1.2.1] w3)
theorem tie25 (a0 : Option Addr) (R : List Value → World → Prop) (w : World) : compF Pg Try.f25 ⟨[(1, ⟨[(4, kI), (5, kI), (6, kI)], [7, 8, 9, 10, 11, 12, 13, 14, 15, 16, 17, 18, 19, 20, 21, 22, 23, 24, 25, 26, 27, 28, 29, 30, 31, 32]⟩)], [], [], []⟩ [.pointer a0] R w = sh25 a0 R w := by kernel_rfl
theorem call25 {a0 : Option Addr} {w : World} {K : TK [kI, kI] → World → Prop} (h : sh25 a0 (fun vs w' => ∃ t, encK [kI, kI] t = vs ∧ K t w') w) : cl Pg 25 [.pointer a0] [kI, kI] w K := cl_of Try.func25 (tie25 ..) h
/-- detent/detentlaw3.Same -/
def sh26 (a0 : Sl) (a1 : Sl) (R : List Value → World → Prop) (w : World) : Prop :=
 cs (((a0.len : Int) : Int) != ((a1.len : Int) : Int)) (
 R [.bool false] w) (
 lp [kI] w ((0 : Int), ()) fun (t1 : Int × Unit) J2 w3 =>
 cs (decide ((t1.1 : Int) < ((a0.len : Int) : Int))) (
 dr w3 fun w4 =>
 ix a0 t1.1 1 fun b5 o6 =>
 ldI w4 .i64 b5 o6 fun n7 =>
 ix a1 t1.1 1 fun b8 o9 =>
 ldI w4 .i64 b8 o9 fun n10 =>
 cs ((n7 : Int) != (n10 : Int)) (
 R [.bool false] w4) (
 J2 (w64 (t1.1 + 1), ()) w4)) (
 R [.bool true] w3))
theorem tie26 (a0 : Sl) (a1 : Sl) (R : List Value → World → Prop) (w : World) : compF Pg Try.f26 ⟨[(2, ⟨[(5, kI)], [4, 11, 12, 13, 14, 15, 16, 17, 18, 19, 20, 21, 22, 23, 24, 25]⟩)], [], [(6, .l [(0, []), (1, []), (2, []), (3, []), (4, []), (5, []), (6, []), (7, []), (8, [])])], []⟩ [vS a0, vS a1] R w = sh26 a0 a1 R w := by kernel_rfl
theorem call26 {a0 : Sl} {a1 : Sl} {w : World} {K : TK [kB] → World → Prop} (h : sh26 a0 a1 (fun vs w' => ∃ t, encK [kB] t = vs ∧ K t w') w) : cl Pg 26 [vS a0, vS a1] [kB] w K := cl_of Try.func26 (tie26 ..) h
/-- (*detent/detentref19.Pool).Held -/
def sh27 (a0 : Option Addr) (R : List Value → World → Prop) (w : World) : Prop :=
 lp [kS, kI] w (⟨none, 0, 0⟩, (0 : Int), ()) fun (t1 : Sl × Int × Unit) J2 w3 =>
 nn a0 fun b4 o5 =>
 ldS w3 b4 (o5 + 20) fun s6 =>
 cs (decide ((t1.2.1 : Int) < ((s6.len : Int) : Int))) (
 nn a0 fun b7 o8 =>
 ldS w3 b7 (o8 + 20) fun s9 =>
 ix s9 t1.2.1 2 fun b10 o11 =>
 ldI w3 .i64 b10 o11 fun n12 =>
 al w3 3 [.int .i64 (w64 (n12 + 8))] fun b13 w14 =>
 ef Pg (Builtin.append_ #[28, 28] 28 #[vS t1.1, vS ⟨some ⟨b13, 0, none⟩, 1, 1⟩]) [kS] w14 fun (r15 : Sl × Unit) w16 =>
 J2 (r15.1, w64 (t1.2.1 + 1), ()) w16) (
 R [vS t1.1] w3)
theorem tie27 (a0 : Option Addr) (R : List Value → World → Prop) (w : World) : compF Pg Try.f27 ⟨[(1, ⟨[(3, kS), (4, kI)], [5, 6, 7, 8, 9, 10, 11, 12, 13, 14, 15, 16, 17, 18, 19, 20, 21, 22, 23, 24, 25]⟩)], [], [], []⟩ [.pointer a0] R w = sh27 a0 R w := by kernel_rfl
theorem call27 {a0 : Option Addr} {w : World} {K : TK [kS] → World → Prop} (h : sh27 a0 (fun vs w' => ∃ t, encK [kS] t = vs ∧ K t w') w) : cl Pg 27 [.pointer a0] [kS] w K := cl_of Try.func27 (tie27 ..) h
/-- detent/detentlaw4.Row -/
def sh56 (a0 : Sl) (a1 : Sl) (R : List Value → World → Prop) (w : World) : Prop :=
 cs (((a0.len : Int) : Int) != ((a1.len : Int) : Int)) (
 R [.bool false] w) (
 lp [kI] w ((0 : Int), ()) fun (t1 : Int × Unit) J2 w3 =>
 cs (decide ((t1.1 : Int) < ((a0.len : Int) : Int))) (
 dr w3 fun w4 =>
 jn [kB] w4 (fun (t6 : Bool × Unit) w7 =>
 cs t6.1 (
 R [.bool false] w7) (
 J2 (w64 (t1.1 + 1), ()) w7)) fun J5 w8 =>
 ix a0 t1.1 2 fun b9 o10 =>
 ldI w8 .i64 b9 o10 fun n11 =>
 ix a1 t1.1 2 fun b12 o13 =>
 ldI w8 .i64 b12 o13 fun n14 =>
 cs ((n11 : Int) != (n14 : Int)) (
 J5 (true, ()) w8) (
 ix a0 t1.1 2 fun b15 o16 =>
 ldI w8 .i64 b15 (o16 + 1) fun n17 =>
 ix a1 t1.1 2 fun b18 o19 =>
 ldI w8 .i64 b18 (o19 + 1) fun n20 =>
 J5 ((n17 : Int) != (n20 : Int), ()) w8)) (
 R [.bool true] w3))
theorem tie56 (a0 : Sl) (a1 : Sl) (R : List Value → World → Prop) (w : World) : compF Pg Try.f56 ⟨[(2, ⟨[(5, kI)], [4, 11, 12, 13, 14, 15, 16, 17, 18, 19, 20, 21, 22, 23, 24, 25, 26, 27, 28, 29, 30, 31, 32, 33, 34, 35, 36, 37, 38, 39, 40]⟩)], [(6, ⟨[(40, kB)], [17, 18, 19, 20, 21, 22, 23, 24, 25, 26, 27, 28, 29, 30, 31, 32, 33, 34, 35, 36, 37, 38, 39]⟩)], [(6, .l [(0, []), (1, []), (2, []), (3, []), (4, []), (5, []), (6, []), (7, []), (8, []), (9, []), (10, []), (11, []), (12, []), (13, []), (14, []), (15, []), (16, []), (17, []), (18, []), (19, []), (20, []), (21, []), (22, []), (23, [])])], []⟩ [vS a0, vS a1] R w = sh56 a0 a1 R w := by kernel_rfl
theorem call56 {a0 : Sl} {a1 : Sl} {w : World} {K : TK [kB] → World → Prop} (h : sh56 a0 a1 (fun vs w' => ∃ t, encK [kB] t = vs ∧ K t w') w) : cl Pg 56 [vS a0, vS a1] [kB] w K := cl_of Try.func56 (tie56 ..) h
/-- slices.Clip[[]detent/order.Item,detent/order.Item] -/
def sh75 (a0 : Sl) (R : List Value → World → Prop) (w : World) : Prop :=
 sb a0 0 (a0.len : Int) (a0.len : Int) 2 fun s1 =>
 R [vS s1] w
theorem tie75 (a0 : Sl) (R : List Value → World → Prop) (w : World) : compF Pg Try.f75 ⟨[], [], [], []⟩ [vS a0] R w = sh75 a0 R w := by kernel_rfl
theorem call75 {a0 : Sl} {w : World} {K : TK [kS] → World → Prop} (h : sh75 a0 (fun vs w' => ∃ t, encK [kS] t = vs ∧ K t w') w) : cl Pg 75 [vS a0] [kS] w K := cl_of Try.func75 (tie75 ..) h
/-- (*detent/order.Line).Row -/
def sh57 (a0 : Option Addr) (R : List Value → World → Prop) (w : World) : Prop :=
 nn a0 fun b1 o2 =>
 ldS w b1 o2 fun s3 =>
 cl Pg 73 [vS s3] [kS] w fun (r4 : Sl × Unit) w5 =>
 cl Pg 75 [vS r4.1] [kS] w5 fun (r6 : Sl × Unit) w7 =>
 R [vS r6.1] w7
theorem tie57 (a0 : Option Addr) (R : List Value → World → Prop) (w : World) : compF Pg Try.f57 ⟨[], [], [], []⟩ [.pointer a0] R w = sh57 a0 R w := by kernel_rfl
theorem call57 {a0 : Option Addr} {w : World} {K : TK [kS] → World → Prop} (h : sh57 a0 (fun vs w' => ∃ t, encK [kS] t = vs ∧ K t w') w) : cl Pg 57 [.pointer a0] [kS] w K := cl_of Try.func57 (tie57 ..) h
/-- (*detent/order.Line).Pri -/
def sh59 (a0 : Option Addr) (a1 : Int) (R : List Value → World → Prop) (w : World) : Prop :=
 cl Pg 47 [.pointer a0, .int .i64 a1] [kI] w fun (r1 : Int × Unit) w2 =>
 cs (decide ((r1.1 : Int) < (0 : Int))) (
 R [.int .i64 0, .bool false] w2) (
 nn a0 fun b3 o4 =>
 ldS w2 b3 o4 fun s5 =>
 ix s5 r1.1 2 fun b6 o7 =>
 ldI w2 .i64 b6 (o7 + 1) fun n8 =>
 R [.int .i64 n8, .bool true] w2)
theorem tie59 (a0 : Option Addr) (a1 : Int) (R : List Value → World → Prop) (w : World) : compF Pg Try.f59 ⟨[], [], [], []⟩ [.pointer a0, .int .i64 a1] R w = sh59 a0 a1 R w := by kernel_rfl
theorem call59 {a0 : Option Addr} {a1 : Int} {w : World} {K : TK [kI, kB] → World → Prop} (h : sh59 a0 a1 (fun vs w' => ∃ t, encK [kI, kB] t = vs ∧ K t w') w) : cl Pg 59 [.pointer a0, .int .i64 a1] [kI, kB] w K := cl_of Try.func59 (tie59 ..) h
/-- detent/detentlaw4.Same -/
def sh28 (a0 : Option Addr) (a1 : Option Addr) (R : List Value → World → Prop) (w : World) : Prop :=
 dr w fun w1 =>
 jn [kB] w1 (fun (t3 : Bool × Unit) w4 =>
 cs t3.1 (
 R [.bool false] w4) (
 nn a0 fun b6 o7 =>
 cl Pg 58 [.pointer (some ⟨b6, o7, none⟩)] [.a [(.i .i64), (.i .i64)], kB] w4 fun (r8 : (Int × Int × Unit) × Bool × Unit) w9 =>
 al w9 105 [.int .i64 0, .int .i64 0] fun b10 w11 =>
 st1 w11 b10 0 (.int .i64 r8.1.1) fun w12 =>
 st1 w12 b10 (0 + 1) (.int .i64 r8.1.2.1) fun w13 =>
 dr w13 fun w14 =>
 jn [kB] w14 (fun (t16 : Bool × Unit) w17 =>
 cs t16.1 (
 R [.bool false] w17) (
 lp [kI] w17 ((0 : Int), ()) fun (t19 : Int × Unit) J20 w21 =>
 cs (decide ((t19.1 : Int) ≤ (17 : Int))) (
 cl Pg 50 [.pointer a1, .int .i64 t19.1] [kI] w21 fun (r22 : Int × Unit) w23 =>
 nn a0 fun b24 o25 =>
 cl Pg 59 [.pointer (some ⟨b24, o25, none⟩), .int .i64 t19.1] [kI, kB] w23 fun (r26 : Int × Bool × Unit) w27 =>
 nn a0 fun b28 o29 =>
 cl Pg 60 [.pointer (some ⟨b28, o29, none⟩), .int .i64 t19.1] [kB] w27 fun (r30 : Bool × Unit) w31 =>
 jn [kB] w31 (fun (t33 : Bool × Unit) w34 =>
 jn [kB] w34 (fun (t37 : Bool × Unit) w38 =>
 jn [kB] w38 (fun (t41 : Bool × Unit) w42 =>
 cs t41.1 (
 R [.bool false] w42) (
 J20 (w64 (t19.1 + 1), ()) w42)) fun J40 w43 =>
 cs t37.1 (
 J40 (true, ()) w43) (
 jn [kB] w43 (fun (t45 : Bool × Unit) w46 =>
 J40 (t45.1, ()) w46) fun J44 w47 =>
 cs (decide ((r22.1 : Int) < (0 : Int))) (
 J44 ((r26.1 : Int) != (0 : Int), ()) w47) (
 J44 (false, ()) w47))) fun J36 w39 =>
 cs t33.1 (
 J36 (true, ()) w39) (
 jn [kB] w39 (fun (t49 : Bool × Unit) w50 =>
 J36 (t49.1, ()) w50) fun J48 w51 =>
 cs (decide ((r22.1 : Int) ≥ (0 : Int))) (
 nn a1 fun b52 o53 =>
 ldS w51 b52 (o53 + 1) fun s54 =>
 ix s54 r22.1 2 fun b55 o56 =>
 ldI w51 .i64 b55 (o56 + 1) fun n57 =>
 J48 ((r26.1 : Int) != (n57 : Int), ()) w51) (
 J48 (false, ()) w51))) fun J32 w35 =>
 cs (!(r30.1 == (decide ((r22.1 : Int) ≥ (0 : Int))))) (
 J32 (true, ()) w35) (
 J32 (!(r26.2.1 == (decide ((r22.1 : Int) ≥ (0 : Int)))), ()) w35)) (
 R [.bool true] w21))) fun J15 w18 =>
 nn a1 fun b58 o59 =>
 ldS w18 b58 (o59 + 1) fun s60 =>
 cs (!(r8.2.1 == (decide (((s60.len : Int) : Int) > (0 : Int))))) (
 J15 (true, ()) w18) (
 cs r8.2.1 (
 ldI w18 .i64 b10 0 fun n61 =>
 nn a1 fun b62 o63 =>
 ldS w18 b62 (o63 + 1) fun s64 =>
 ix s64 0 2 fun b65 o66 =>
 ldI w18 .i64 b65 o66 fun n67 =>
 cs ((n61 : Int) != (n67 : Int)) (
 J15 (true, ()) w18) (
 ldI w18 .i64 b10 (0 + 1) fun n68 =>
 nn a1 fun b69 o70 =>
 ldS w18 b69 (o70 + 1) fun s71 =>
 ix s71 0 2 fun b72 o73 =>
 ldI w18 .i64 b72 (o73 + 1) fun n74 =>
 cs ((n68 : Int) != (n74 : Int)) (
 J15 (true, ()) w18) (
 cs (!r8.2.1) (
 ldI w18 .i64 b10 0 fun n75 =>
 cs ((n75 : Int) != (0 : Int)) (
 J15 (true, ()) w18) (
 ldI w18 .i64 b10 (0 + 1) fun n76 =>
 J15 ((n76 : Int) != (0 : Int), ()) w18)) (
 J15 (false, ()) w18)))) (
 cs (!r8.2.1) (
 ldI w18 .i64 b10 0 fun n77 =>
 cs ((n77 : Int) != (0 : Int)) (
 J15 (true, ()) w18) (
 ldI w18 .i64 b10 (0 + 1) fun n78 =>
 J15 ((n78 : Int) != (0 : Int), ()) w18)) (
 J15 (false, ()) w18))))) fun J2 w5 =>
 nn a0 fun b79 o80 =>
 nn a1 fun b81 o82 =>
 ldS w5 b81 (o82 + 1) fun s83 =>
 cl Pg 57 [.pointer (some ⟨b79, o80, none⟩)] [kS] w5 fun (r84 : Sl × Unit) w85 =>
(w85.cell? ⟨b81, o82 + 1, none⟩ = some (vS s83)) ∧ (
 cl Pg 56 [vS r84.1, vS s83] [kB] w85 fun (r86 : Bool × Unit) w87 =>
 cs (!r86.1) (
 J2 (true, ()) w87) (
 nn a0 fun b88 o89 =>
 nn a1 fun b90 o91 =>
 ldS w87 b90 (o91 + 1) fun s92 =>
 cl Pg 14 [.pointer (some ⟨b88, o89, none⟩)] [kI] w87 fun (r93 : Int × Unit) w94 =>
(w94.cell? ⟨b90, o91 + 1, none⟩ = some (vS s92)) ∧ (
 J2 ((r93.1 : Int) != ((s92.len : Int) : Int), ()) w94)))
theorem tie28 (a0 : Option Addr) (a1 : Option Addr) (R : List Value → World → Prop) (w : World) : compF Pg Try.f28 ⟨[(3, ⟨[(7, kI)], [4, 8, 9, 10, 89, 90, 91, 92, 93, 94, 95, 96, 97, 98, 99, 100, 101, 102, 103, 104, 105, 106, 107, 108, 109, 110, 111, 112, 113, 114, 115, 116, 117, 118, 119, 120, 121, 122, 123, 124, 125, 126, 127, 128, 129, 130, 131, 132, 133, 134, 135, 136, 137, 138, 139, 140, 141]⟩)], [(1, ⟨[(32, kB)], [11, 12, 13, 14, 15, 16, 17, 18, 19, 20, 21, 22, 23, 24, 25, 26, 27, 28, 29, 30, 31]⟩), (4, ⟨[(88, kB)], [40, 41, 42, 43, 44, 45, 46, 47, 48, 49, 50, 51, 52, 53, 54, 55, 56, 57, 58, 59, 60, 61, 62, 63, 64, 65, 66, 67, 68, 69, 70, 71, 72, 73, 74, 75, 76, 77, 78, 79, 80, 81, 82, 83, 84, 85, 86, 87]⟩)], [(1, .l [(0, []), (1, []), (2, []), (4, []), (5, []), (6, []), (7, []), (3, [2, 1, 0]), (8, [3, 7, 2, 6, 1, 5, 0, 4]), (9, []), (10, []), (11, []), (12, []), (13, []), (15, []), (16, []), (17, []), (18, []), (19, []), (14, [13, 10, 12, 9, 8, 11, 3, 7, 2, 6, 1, 5, 0, 4]), (20, []), (21, [])]), (4, .l [(0, []), (1, []), (2, []), (3, []), (4, []), (5, []), (6, []), (7, []), (8, []), (9, []), (10, []), (11, []), (12, []), (13, []), (14, []), (15, []), (16, []), (17, []), (18, []), (19, []), (20, []), (21, []), (22, []), (23, []), (24, []), (25, []), (26, []), (27, []), (28, []), (29, []), (30, []), (31, []), (32, []), (33, []), (34, []), (35, []), (36, []), (37, []), (38, []), (39, []), (40, []), (41, []), (42, []), (43, []), (44, []), (45, []), (46, []), (47, []), (48, [])])], [(11, [(9, 5, ⟨[(117, kB)], [113, 114, 115, 116]⟩), (15, 15, ⟨[(133, kB)], [119, 120, 121, 122, 123, 124, 125, 126, 127, 128, 129, 130, 131, 132]⟩), (18, 11, ⟨[(132, kB)], [122, 123, 124, 125, 126, 127, 128, 129, 130, 131]⟩), (31, 7, ⟨[(141, kB)], [135, 136, 137, 138, 139, 140]⟩), (34, 3, ⟨[(140, kB)], [138, 139]⟩)])]⟩ [.pointer a0, .pointer a1] R w = sh28 a0 a1 R w := by kernel_rfl
theorem call28 {a0 : Option Addr} {a1 : Option Addr} {w : World} {K : TK [kB] → World → Prop} (h : sh28 a0 a1 (fun vs w' => ∃ t, encK [kB] t = vs ∧ K t w') w) : cl Pg 28 [.pointer a0, .pointer a1] [kB] w K := cl_of Try.func28 (tie28 ..) h
/-- (*detent/detentref19.Pool).Holds -/
def sh30 (a0 : Option Addr) (a1 : Int) (a2 : Int) (R : List Value → World → Prop) (w : World) : Prop :=
 lp [kI] w ((0 : Int), ()) fun (t1 : Int × Unit) J2 w3 =>
 nn a0 fun b4 o5 =>
 ldS w3 b4 (o5 + 20) fun s6 =>
 cs (decide ((t1.1 : Int) < ((s6.len : Int) : Int))) (
 nn a0 fun b7 o8 =>
 ldS w3 b7 (o8 + 20) fun s9 =>
 ix s9 t1.1 2 fun b10 o11 =>
 ldI w3 .i64 b10 o11 fun n12 =>
 ldI w3 .i64 b10 (o11 + 1) fun n13 =>
 al w3 69 [.int .i64 0, .int .i64 0] fun b14 w15 =>
 st1 w15 b14 0 (.int .i64 n12) fun w16 =>
 st1 w16 b14 (0 + 1) (.int .i64 n13) fun w17 =>
 jn [kB] w17 (fun (t19 : Bool × Unit) w20 =>
 jn [kB] w20 (fun (t23 : Bool × Unit) w24 =>
 jn [kB] w24 (fun (t27 : Bool × Unit) w28 =>
 cs t27.1 (
 R [.bool true] w28) (
 J2 (w64 (t1.1 + 1), ()) w28)) fun J26 w29 =>
 cs t23.1 (
 ldI w29 .i64 b14 0 fun n30 =>
 ldI w29 .i64 b14 (0 + 1) fun n31 =>
 J26 (decide ((a1 : Int) ≤ (w64 ((w64 ((w64 (n30 + 8)) + n31)) - a2) : Int)), ()) w29) (
 J26 (false, ()) w29)) fun J22 w25 =>
 cs t19.1 (
 ldI w25 .i64 b14 0 fun n32 =>
 J22 (decide ((a1 : Int) ≥ (w64 (n32 + 8) : Int)), ()) w25) (
 J22 (false, ()) w25)) fun J18 w21 =>
 cs (decide ((a2 : Int) ≥ (1 : Int))) (
 ldI w21 .i64 b14 (0 + 1) fun n33 =>
 J18 (decide ((a2 : Int) ≤ (n33 : Int)), ()) w21) (
 J18 (false, ()) w21)) (
 R [.bool false] w3)
theorem tie30 (a0 : Option Addr) (a1 : Int) (a2 : Int) (R : List Value → World → Prop) (w : World) : compF Pg Try.f30 ⟨[(1, ⟨[(7, kI)], [6, 8, 9, 10, 11, 12, 13, 14, 15, 16, 17, 18, 19, 20, 21, 22, 23, 24, 25, 26, 27, 28, 29, 30, 31, 32, 33, 34, 35, 36, 37, 38, 39, 40, 41, 42, 43, 44, 45, 46, 47, 48, 49, 50, 51]⟩)], [], [], [(5, [(3, 5, ⟨[(32, kB)], [28, 29, 30, 31]⟩), (9, 6, ⟨[(39, kB)], [34, 35, 36, 37, 38]⟩), (16, 11, ⟨[(51, kB)], [41, 42, 43, 44, 45, 46, 47, 48, 49, 50]⟩)])]⟩ [.pointer a0, .int .i64 a1, .int .i64 a2] R w = sh30 a0 a1 a2 R w := by kernel_rfl
theorem call30 {a0 : Option Addr} {a1 : Int} {a2 : Int} {w : World} {K : TK [kB] → World → Prop} (h : sh30 a0 a1 a2 (fun vs w' => ∃ t, encK [kB] t = vs ∧ K t w') w) : cl Pg 30 [.pointer a0, .int .i64 a1, .int .i64 a2] [kB] w K := cl_of Try.func30 (tie30 ..) h
/-- detent/detentlaw19.HeapPlays -/
def sh6 (a0 : Bool) (a1 : Int) (a2 : Int) (a3 : Sl) (a4 : Int) (a5 : Int) (R : List Value → World → Prop) (w : World) : Prop :=
 cl Pg 7 [] [kB] w fun (r1 : Bool × Unit) w2 =>
 cs (!r1.1) (
 R [.bool false] w2) (
 cs (decide (((a3.len : Int) : Int) > (80 : Int))) (
 R [.bool true] w2) (
 cl Pg 8 [.bool a0, .int .i64 a1, .int .i64 a2] [kP, kI] w2 fun (r3 : Option Addr × Int × Unit) w4 =>
 cl Pg 15 [.bool a0, .int .i64 a1, .int .i64 a2] [kP, kI] w4 fun (r5 : Option Addr × Int × Unit) w6 =>
 jn [kB] w6 (fun (t8 : Bool × Unit) w9 =>
 cs t8.1 (
 R [.bool false] w9) (
 cs r5.1.isNone (
 R [.bool true] w9) (
 lp [kP, kI] w9 (r3.1, (0 : Int), ()) fun (t11 : Option Addr × Int × Unit) J12 w13 =>
 cs (decide ((t11.2.1 : Int) < ((a3.len : Int) : Int))) (
 ix a3 t11.2.1 6 fun b14 o15 =>
 ldI w13 .i64 b14 o15 fun n16 =>
 ldI w13 .i64 b14 (o15 + 1) fun n17 =>
 ldI w13 .i64 b14 (o15 + 2) fun n18 =>
 ldI w13 .i64 b14 (o15 + 3) fun n19 =>
 ldI w13 .i64 b14 (o15 + 4) fun n20 =>
 ldB w13 b14 (o15 + 5) fun b21 =>
 al w13 59 [.int .i64 0, .int .i64 0, .int .i64 0, .int .i64 0, .int .i64 0, .bool false] fun b22 w23 =>
 st1 w23 b22 0 (.int .i64 n16) fun w24 =>
 st1 w24 b22 (0 + 1) (.int .i64 n17) fun w25 =>
 st1 w25 b22 (0 + 2) (.int .i64 n18) fun w26 =>
 st1 w26 b22 (0 + 3) (.int .i64 n19) fun w27 =>
 st1 w27 b22 (0 + 4) (.int .i64 n20) fun w28 =>
 st1 w28 b22 (0 + 5) (.bool b21) fun w29 =>
 ldI w29 .i64 b22 0 fun n30 =>
 jn [kP] w29 (fun (t32 : Option Addr × Unit) w33 =>
 cl Pg 10 [.pointer t32.1] [kI, kI] w33 fun (r35 : Int × Int × Unit) w36 =>
 cl Pg 25 [.pointer r5.1] [kI, kI] w36 fun (r37 : Int × Int × Unit) w38 =>
 dr w38 fun w39 =>
 jn [kB] w39 (fun (t41 : Bool × Unit) w42 =>
 cs t41.1 (
 R [.bool false] w42) (
 J12 (t32.1, w64 (t11.2.1 + 1), ()) w42)) fun J40 w43 =>
 cs ((r35.1 : Int) != (r37.1 : Int)) (
 J40 (true, ()) w43) (
 cs ((r35.2.1 : Int) != (r37.2.1 : Int)) (
 J40 (true, ()) w43) (
 cl Pg 12 [.pointer t32.1] [kS] w43 fun (r44 : Sl × Unit) w45 =>
 cl Pg 27 [.pointer r5.1] [kS] w45 fun (r46 : Sl × Unit) w47 =>
 cl Pg 26 [vS r44.1, vS r46.1] [kB] w47 fun (r48 : Bool × Unit) w49 =>
 cs (!r48.1) (
 J40 (true, ()) w49) (
 nn t32.1 fun b50 o51 =>
 ldP w49 b50 o51 fun p52 =>
 nn r5.1 fun b53 o54 =>
 ldP w49 b53 o54 fun p55 =>
 cl Pg 28 [.pointer p52, .pointer p55] [kB] w49 fun (r56 : Bool × Unit) w57 =>
 cs (!r56.1) (
 J40 (true, ()) w57) (
 cl Pg 29 [.pointer t32.1, .int .i64 a4, .int .i64 a5] [kB] w57 fun (r58 : Bool × Unit) w59 =>
 cl Pg 30 [.pointer r5.1, .int .i64 a4, .int .i64 a5] [kB] w59 fun (r60 : Bool × Unit) w61 =>
 J40 (!(r58.1 == r60.1), ()) w61))))) fun J31 w34 =>
 cs ((n30 : Int) == (1 : Int)) (
 ldI w34 .i64 b22 (0 + 1) fun n62 =>
 ldI w34 .i64 b22 (0 + 2) fun n63 =>
 ldI w34 .i64 b22 (0 + 4) fun n64 =>
 cl Pg 13 [.pointer t11.1, .int .i64 n62, .int .i64 n63, .int .i64 n64] [kI, kB, kI] w34 fun (r65 : Int × Bool × Int × Unit) w66 =>
 ldI w66 .i64 b22 (0 + 1) fun n67 =>
 ldI w66 .i64 b22 (0 + 2) fun n68 =>
 ldI w66 .i64 b22 (0 + 4) fun n69 =>
 cl Pg 16 [.pointer r5.1, .int .i64 n67, .int .i64 n68, .int .i64 n69] [kI, kB, kI] w66 fun (r70 : Int × Bool × Int × Unit) w71 =>
 jn [kB] w71 (fun (t73 : Bool × Unit) w74 =>
 jn [kB] w74 (fun (t77 : Bool × Unit) w78 =>
 cs t77.1 (
 R [.bool false] w78) (
 J31 (t11.1, ()) w78)) fun J76 w79 =>
 cs t73.1 (
 J76 (true, ()) w79) (
 J76 ((r65.2.2.1 : Int) != (r70.2.2.1 : Int), ()) w79)) fun J72 w75 =>
 cs ((r65.1 : Int) != (r70.1 : Int)) (
 J72 (true, ()) w75) (
 J72 (!(r65.2.1 == r70.2.1), ()) w75)) (
 jn [kP] w34 (fun (t81 : Option Addr × Unit) w82 =>
 J31 (t81.1, ()) w82) fun J80 w83 =>
 cs ((n30 : Int) == (2 : Int)) (
 ldI w83 .i64 b22 (0 + 4) fun n84 =>
 cl Pg 9 [.pointer t11.1, .int .i64 n84] [kI, kB, kI] w83 fun (r85 : Int × Bool × Int × Unit) w86 =>
 ldI w86 .i64 b22 (0 + 4) fun n87 =>
 cl Pg 17 [.pointer r5.1, .int .i64 n87] [kI, kB, kI] w86 fun (r88 : Int × Bool × Int × Unit) w89 =>
 jn [kB] w89 (fun (t91 : Bool × Unit) w92 =>
 jn [kB] w92 (fun (t95 : Bool × Unit) w96 =>
 cs t95.1 (
 R [.bool false] w96) (
 J80 (t11.1, ()) w96)) fun J94 w97 =>
 cs t91.1 (
 J94 (true, ()) w97) (
 J94 ((r85.2.2.1 : Int) != (r88.2.2.1 : Int), ()) w97)) fun J90 w93 =>
 cs ((r85.1 : Int) != (r88.1 : Int)) (
 J90 (true, ()) w93) (
 J90 (!(r85.2.1 == r88.2.1), ()) w93)) (
 jn [kP] w83 (fun (t99 : Option Addr × Unit) w100 =>
 J80 (t99.1, ()) w100) fun J98 w101 =>
 cs ((n30 : Int) == (3 : Int)) (
 ldI w101 .i64 b22 (0 + 3) fun n102 =>
 ldB w101 b22 (0 + 5) fun b103 =>
 jn [kB] w101 (fun (t105 : Bool × Unit) w106 =>
 jn [kB] w106 (fun (t109 : Bool × Unit) w110 =>
 jn [kI] w110 (fun (t113 : Int × Unit) w114 =>
 cl Pg 11 [.pointer t11.1, .int .i64 t113.1] [kS, kI] w114 fun (r116 : Sl × Int × Unit) w117 =>
 cl Pg 18 [.pointer r5.1, .int .i64 t113.1] [kS, kI] w117 fun (r118 : Sl × Int × Unit) w119 =>
 cl Pg 19 [vS r116.1, vS r118.1] [kB] w119 fun (r120 : Bool × Unit) w121 =>
 jn [kB] w121 (fun (t123 : Bool × Unit) w124 =>
 cs t123.1 (
 R [.bool false] w124) (
 J98 (t11.1, ()) w124)) fun J122 w125 =>
 cs (!r120.1) (
 J122 (true, ()) w125) (
 J122 ((r116.2.1 : Int) != (r118.2.1 : Int), ()) w125)) fun J112 w115 =>
 cs t109.1 (
 dr w115 fun w126 =>
 nn r5.1 fun b127 o128 =>
 ldS w126 b127 (o128 + 20) fun s129 =>
 ldI w126 .i64 b22 (0 + 3) fun n130 =>
 nn r5.1 fun b131 o132 =>
 ldS w126 b131 (o132 + 20) fun s133 =>
 ob ((s133.len : Int) ≠ 0) (
 ix s129 (Int.tmod n130 (s133.len : Int)) 2 fun b134 o135 =>
 ldI w126 .i64 b134 o135 fun n136 =>
 J112 (w64 (n136 + 8), ()) w126)) (
 J112 (n102, ()) w115)) fun J108 w111 =>
 cs t105.1 (
 nn r5.1 fun b137 o138 =>
 ldS w111 b137 (o138 + 20) fun s139 =>
 J108 (decide (((s139.len : Int) : Int) > (0 : Int)), ()) w111) (
 J108 (false, ()) w111)) fun J104 w107 =>
 cs b103 (
 ldI w107 .i64 b22 (0 + 3) fun n140 =>
 J104 (decide ((n140 : Int) ≥ (0 : Int)), ()) w107) (
 J104 (false, ()) w107)) (
 jn [kP] w101 (fun (t142 : Option Addr × Unit) w143 =>
 J98 (t142.1, ()) w143) fun J141 w144 =>
 cs ((n30 : Int) == (4 : Int)) (
 ldI w144 .i64 b22 (0 + 1) fun n145 =>
 cl Pg 20 [.pointer t11.1, .int .i64 n145] [kS, kB] w144 fun (r146 : Sl × Bool × Unit) w147 =>
 ldI w147 .i64 b22 (0 + 1) fun n148 =>
 cl Pg 21 [.pointer r5.1, .int .i64 n148] [kS, kB] w147 fun (r149 : Sl × Bool × Unit) w150 =>
 cl Pg 19 [vS r146.1, vS r149.1] [kB] w150 fun (r151 : Bool × Unit) w152 =>
 jn [kB] w152 (fun (t154 : Bool × Unit) w155 =>
 cs t154.1 (
 R [.bool false] w155) (
 J141 (t11.1, ()) w155)) fun J153 w156 =>
 cs (!r151.1) (
 J153 (true, ()) w156) (
 J153 (!(r146.2.1 == r149.2.1), ()) w156)) (
 jn [kP] w144 (fun (t158 : Option Addr × Unit) w159 =>
 J141 (t158.1, ()) w159) fun J157 w160 =>
 cs ((n30 : Int) == (5 : Int)) (
 dr w160 fun w161 =>
 nn t11.1 fun b162 o163 =>
 ldP w161 b162 o163 fun p164 =>
 ldI w161 .i64 b22 (0 + 1) fun n165 =>
 ldI w161 .i64 b22 (0 + 2) fun n166 =>
 nn r5.1 fun b167 o168 =>
 ldP w161 b167 o168 fun p169 =>
 ldI w161 .i64 b22 (0 + 1) fun n170 =>
 ldI w161 .i64 b22 (0 + 2) fun n171 =>
 cl Pg 22 [.pointer p164, .int .i64 n165, .int .i64 n166] [kB] w161 fun (r172 : Bool × Unit) w173 =>
(w173.cell? ⟨b22, 0 + 2, none⟩ = some (.int .i64 n171)) ∧ (
(w173.cell? ⟨b22, 0 + 1, none⟩ = some (.int .i64 n170)) ∧ (
(w173.cell? ⟨b167, o168, none⟩ = some (.pointer p169)) ∧ (
 cl Pg 23 [.pointer p169, .int .i64 n170, .int .i64 n171] [kB] w173 fun (r174 : Bool × Unit) w175 =>
 cs (!(r172.1 == r174.1)) (
 R [.bool false] w175) (
 J157 (t11.1, ()) w175))))) (
 jn [kP] w160 (fun (t177 : Option Addr × Unit) w178 =>
 J157 (t177.1, ()) w178) fun J176 w179 =>
 cs ((n30 : Int) == (6 : Int)) (
 cl Pg 24 [.pointer t11.1] [kP] w179 fun (r180 : Option Addr × Unit) w181 =>
 cs r180.1.isNone (
 R [.bool false] w181) (
 cl Pg 12 [.pointer t11.1] [kS] w181 fun (r182 : Sl × Unit) w183 =>
 lp [kI] w183 ((0 : Int), ()) fun (t184 : Int × Unit) J185 w186 =>
 cs (decide ((t184.1 : Int) < ((r182.1.len : Int) : Int))) (
 ix r182.1 t184.1 1 fun b187 o188 =>
 ldI w186 .i64 b187 o188 fun n189 =>
 cl Pg 11 [.pointer t11.1, .int .i64 n189] [kS, kI] w186 fun (r190 : Sl × Int × Unit) w191 =>
 J185 (w64 (t184.1 + 1), ()) w191) (
 J176 (r180.1, ()) w186))) (
 J176 (t11.1, ()) w179))))))) (
 R [.bool true] w13)))) fun J7 w10 =>
 cs ((r3.2.1 : Int) != (r5.2.1 : Int)) (
 J7 (true, ()) w10) (
 J7 (!(r3.1.isNone == ((r5.2.1 : Int) != (0 : Int))), ()) w10)))
theorem tie6 (a0 : Bool) (a1 : Int) (a2 : Int) (a3 : Sl) (a4 : Int) (a5 : Int) (R : List Value → World → Prop) (w : World) : compF Pg Try.f6 ⟨[(5, ⟨[(13, kP), (17, kI)], [12, 18, 19, 20, 21, 22, 23, 24, 25, 26, 27, 28, 29, 30, 31, 32, 33, 34, 35, 36, 37, 38, 39, 40, 41, 42, 43, 44, 45, 46, 78, 79, 80, 81, 82, 83, 84, 85, 86, 87, 88, 89, 90, 91, 92, 93, 94, 95, 96, 97, 98, 99, 100, 101, 102, 103, 104, 105, 106, 107, 108, 109, 110, 111, 112, 113, 114, 115, 116, 117, 118, 119, 120, 121, 122, 123, 124, 125, 126, 127, 128, 129, 130, 131, 132, 133, 134, 135, 136, 137, 138, 139, 140, 141, 142, 143, 144, 145, 146, 147, 148, 149, 150, 151, 152, 153, 154, 155, 156, 157, 158, 159, 160, 161, 162, 163, 164, 165, 166, 167, 168, 169, 170, 171, 172, 173, 174, 175, 176, 177, 178, 179, 180, 181, 182, 183, 184, 185, 186, 187, 188, 189, 190, 191, 192, 193, 194, 195, 196, 197, 198, 199, 200, 201, 202, 203, 204, 205, 206, 207, 208, 209, 210, 211, 212, 213, 214, 215, 216, 217, 218, 219, 220, 221, 222, 223, 224, 225, 226, 227, 228, 229, 230, 231, 232, 233, 234, 235, 236, 237, 238, 239, 240, 241, 242, 243, 244, 245, 246, 247, 248, 249, 250, 251, 252, 253, 254, 255, 256, 257, 258, 259, 260, 261, 262, 263, 264, 265, 266, 267, 268, 269, 270, 271, 272, 273, 274, 275, 276, 277, 278, 279, 280, 281, 282, 283, 284, 285, 286, 287, 288, 289, 290, 291, 292, 293, 294, 295, 296, 297, 298, 299, 300, 301, 302, 303, 304, 305, 306, 307, 308, 309, 310, 311, 312, 313, 314, 315, 316, 317, 318, 319, 320, 321, 322, 323, 324, 325, 326, 327, 328, 329, 330, 331]⟩), (9, ⟨[(13, kP)], [12, 19, 20, 21, 22, 23, 24, 25, 26, 27, 28, 29, 30, 31, 32, 33, 34, 35, 36, 37, 38, 39, 40, 41, 42, 92, 93, 94, 95, 96, 97, 98, 99, 100, 101, 102, 103, 104, 105, 106, 107, 108, 109, 110, 111, 112, 113, 114, 115, 116, 117, 118, 119, 120, 121, 122, 123, 124, 125, 126, 127, 128, 129, 130, 131, 132, 133, 134, 135, 136, 137, 138, 139, 140, 141, 142, 143, 144, 145, 146, 147, 148, 149, 150, 151, 152, 153, 154, 155, 156, 157, 158, 159, 160, 161, 162, 163, 164, 165, 166, 167, 168, 169, 170, 171, 172, 173, 174, 175, 176, 177, 178, 179, 180, 181, 182, 183, 184, 185, 186, 187, 188, 189, 190, 191, 192, 193, 194, 195, 196, 197, 198, 199, 200, 201, 202, 203, 204, 205, 206, 207, 208, 209, 210, 211, 212, 213, 214, 215, 216, 217, 218, 219, 220, 221, 222, 223, 224, 225, 226, 227, 228, 229, 230, 231, 232, 233, 234, 235, 236, 237, 238, 239, 240, 241, 242, 243, 244, 245, 246, 247, 248, 249, 250, 251, 252, 253, 254, 255, 256, 257, 258, 259, 260, 261, 262, 263, 264, 265, 266, 267, 268, 269, 270, 271, 272, 273, 274, 275, 276, 277, 278, 279, 280, 281, 282]⟩), (11, ⟨[(13, kP)], [12, 25, 26, 27, 28, 29, 30, 31, 32, 33, 34, 35, 36, 37, 38, 39, 40, 41, 42, 131, 132, 133, 134, 135, 136, 137, 138, 139, 140, 141, 142, 143, 144, 145, 146, 147, 148, 149, 150, 151, 152, 153, 154, 155, 156, 157, 158, 159, 160, 161, 162, 163, 164, 165, 166, 167, 168, 169, 170, 171, 172, 173, 174, 175, 176, 177, 178, 179, 180, 181, 182, 183, 184, 185, 186, 187, 188, 189, 190, 191, 192, 193, 194, 195, 196, 197, 198, 199, 200, 201, 202, 203, 204, 205, 206, 207, 208, 209, 210, 211, 212, 213, 214, 215, 216, 217, 218, 219, 220, 221, 222, 223, 224, 225, 226, 227, 228, 229, 230, 231, 232, 233, 234, 235, 236, 237, 238, 239, 240, 241, 242, 243, 244, 245, 246, 247, 248, 249, 250, 251, 252, 253, 254, 255, 256, 257, 258, 259, 260, 261, 262, 263, 264, 265, 266, 267, 268, 269, 270, 271, 272, 273, 274, 275, 276, 277, 278, 279, 280, 281, 282]⟩), (13, ⟨[(13, kP)], [12, 31, 32, 33, 34, 35, 36, 37, 38, 39, 40, 41, 42, 162, 163, 164, 165, 166, 167, 168, 169, 170, 171, 172, 173, 174, 175, 176, 177, 178, 179, 180, 181, 182, 183, 184, 185, 186, 187, 188, 189, 190, 191, 192, 193, 194, 195, 196, 197, 198, 199, 200, 201, 202, 203, 204, 205, 206, 207, 208, 209, 210, 211, 212, 213, 214, 215, 216, 217, 218, 219, 220, 221, 222, 223, 224, 225, 226, 227, 228, 229, 230, 231, 232, 233, 234, 235, 236, 237, 238, 239, 240, 241, 242, 243, 244, 245, 246, 247, 248, 249, 250, 251, 252, 253, 254, 255, 256, 257, 258, 259, 260, 261, 262, 263, 264, 265, 266, 267, 268, 269, 270, 271, 272, 273, 274, 275, 276, 277, 278, 279, 280, 281, 282]⟩), (14, ⟨[(31, kI)], [179, 180, 181, 182, 183, 184, 185, 186, 187, 188, 189, 190, 191, 192, 193, 194]⟩), (16, ⟨[(13, kP)], [12, 36, 37, 38, 39, 40, 41, 42, 218, 219, 220, 221, 222, 223, 224, 225, 226, 227, 228, 229, 230, 231, 232, 233, 234, 235, 236, 237, 238, 239, 240, 241, 242, 243, 244, 245, 246, 247, 248, 249, 250, 251, 252, 253, 254, 255, 256, 257, 258, 259, 260, 261, 262, 263, 264, 265, 266, 267, 268, 269, 270, 271, 272, 273, 274, 275, 276, 277, 278, 279, 280, 281, 282]⟩), (18, ⟨[(13, kP)], [12, 40, 41, 42, 243, 244, 245, 246, 247, 248, 249, 250, 251, 252, 253, 254, 255, 256, 257, 258, 259, 260, 261, 262, 263, 264, 265, 266, 267, 268, 269, 270, 271, 272, 273, 274, 275, 276, 277, 278, 279, 280, 281, 282]⟩), (20, ⟨[(13, kP)], [12, 40, 41, 42, 264, 265, 266, 267, 268, 269, 270, 271, 272, 273, 274, 275, 276, 277, 278, 279, 280, 281, 282]⟩), (23, ⟨[(42, kI)], [270, 271, 272, 273, 274, 275, 276, 277, 278, 279, 280, 281]⟩)], [(54, ⟨[(331, kB)], [293, 294, 295, 296, 297, 298, 299, 300, 301, 302, 303, 304, 305, 306, 307, 308, 309, 310, 311, 312, 313, 314, 315, 316, 317, 318, 319, 320, 321, 322, 323, 324, 325, 326, 327, 328, 329, 330]⟩)], [(54, .l [(0, []), (1, []), (2, []), (3, []), (4, []), (5, []), (6, []), (7, []), (8, []), (9, []), (11, []), (10, [9, 8, 7, 3, 6, 2, 4, 5, 0, 1]), (12, [11, 10, 8, 9, 7, 3, 6, 2, 4, 5, 0, 1]), (13, [10, 12, 8, 9, 11, 7, 3, 6, 2, 4, 5, 0, 1]), (14, []), (15, []), (16, []), (17, []), (18, []), (19, []), (20, []), (21, []), (22, []), (23, []), (24, []), (25, [20, 24, 16, 19, 23, 15, 13, 18, 22, 8, 14, 10, 12, 17, 21, 7, 3, 9, 11, 6, 2, 4, 5, 0, 1]), (26, []), (27, []), (28, []), (29, []), (30, []), (31, []), (33, []), (34, []), (35, []), (32, [29, 30, 31, 28, 27, 25, 16, 26, 20, 24, 15, 13, 19, 23, 8, 14, 10, 12, 18, 22, 7, 3, 9, 11, 17, 21, 6, 2, 4, 5, 0, 1]), (36, [33, 34, 35, 32, 28, 29, 30, 31, 27, 25, 16, 26, 20, 24, 15, 13, 19, 23, 8, 14, 10, 12, 18, 22, 7, 3, 9, 11, 17, 21, 6, 2, 4, 5, 0, 1]), (37, []), (38, [])]), (29, .l [(0, []), (1, []), (2, []), (3, []), (4, []), (5, []), (6, []), (7, []), (8, []), (9, []), (10, []), (11, []), (12, []), (13, []), (14, []), (15, []), (16, [])]), (40, .l [(0, []), (1, []), (2, []), (3, []), (4, []), (5, []), (6, []), (7, []), (9, []), (10, []), (11, []), (12, []), (13, []), (14, []), (15, []), (16, []), (8, [3, 5, 7, 2, 4, 6, 1, 0]), (17, [12, 14, 16, 8, 11, 13, 15, 3, 5, 7, 10, 2, 4, 6, 9, 1, 0]), (18, [])])], [(7, [(4, 6, ⟨[(75, kB)], [70, 71, 72, 73, 74]⟩)]), (19, [(4, 4, ⟨[(123, kB)], [120, 121, 122]⟩), (9, 4, ⟨[(128, kB)], [125, 126, 127]⟩)]), (24, [(4, 4, ⟨[(154, kB)], [151, 152, 153]⟩), (9, 4, ⟨[(159, kB)], [156, 157, 158]⟩)]), (28, [(3, 4, ⟨[(170, kB)], [167, 168, 169]⟩), (8, 7, ⟨[(178, kB)], [172, 173, 174, 175, 176, 177]⟩)]), (32, [(5, 4, ⟨[(215, kB)], [212, 213, 214]⟩)]), (37, [(5, 4, ⟨[(240, kB)], [237, 238, 239]⟩)])]⟩ [.bool a0, .int .i64 a1, .int .i64 a2, vS a3, .int .i64 a4, .int .i64 a5] R w = sh6 a0 a1 a2 a3 a4 a5 R w := by kernel_rfl
theorem call6 {a0 : Bool} {a1 : Int} {a2 : Int} {a3 : Sl} {a4 : Int} {a5 : Int} {w : World} {K : TK [kB] → World → Prop} (h : sh6 a0 a1 a2 a3 a4 a5 (fun vs w' => ∃ t, encK [kB] t = vs ∧ K t w') w) : cl Pg 6 [.bool a0, .int .i64 a1, .int .i64 a2, vS a3, .int .i64 a4, .int .i64 a5] [kB] w K := cl_of Try.func6 (tie6 ..) h
end Go.Proofs.Ytnghegppcogdbaa.B
