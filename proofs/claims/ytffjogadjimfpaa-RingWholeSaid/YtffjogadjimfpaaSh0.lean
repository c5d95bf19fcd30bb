/- Printed by sh.py: each Go function as a typed shallow program, and its tie to the code. -/
import Derived.Test.YtffjogadjimfpaaSound4
import Derived.Test.YtffjogadjimfpaaProg
namespace Go.Proofs.Ytffjogadjimfpaa.B
open Go Go.Proofs
set_option linter.unusedVariables false
set_option maxRecDepth 100000
noncomputable abbrev Pg : Program := Try.prog
/-- detent/arena.New -/
def sh21 (a0 : Int) (R : List Value → World → Prop) (w : World) : Prop :=
 jn [kB] w (fun (t2 : Bool × Unit) w3 =>
 cs t2.1 (
 R [.pointer none, .int .i64 (-17)] w3) (
 ef Pg (Instr.makeSlice 27 (.int .i64 a0) (.int .i64 a0)) [kS] w3 fun (r5 : Sl × Unit) w6 =>
 al w6 61 [vS r5.1, .int .i64 0] fun b7 w8 =>
 R [.pointer (some ⟨b7, 0, none⟩), .int .i64 0] w8)) fun J1 w4 =>
 cs (decide ((a0 : Int) < (0 : Int))) (
 J1 (true, ()) w4) (
 J1 (decide ((a0 : Int) > (65536 : Int)), ()) w4)
theorem tie21 (a0 : Int) (R : List Value → World → Prop) (w : World) : compF Pg Try.f21 ⟨[], [], [], [(1, [(3, 3, ⟨[(9, kB)], [7, 8]⟩)])]⟩ [.int .i64 a0] R w = sh21 a0 R w := by kernel_rfl
theorem call21 {a0 : Int} {w : World} {K : TK [kP, kI] → World → Prop} (h : sh21 a0 (fun vs w' => ∃ t, encK [kP, kI] t = vs ∧ K t w') w) : cl Pg 21 [.int .i64 a0] [kP, kI] w K := cl_of Try.func21 (tie21 ..) h
/-- detent/ring.New -/
def sh8 (a0 : Int) (R : List Value → World → Prop) (w : World) : Prop :=
 cl Pg 21 [.int .i64 a0] [kP, kI] w fun (r1 : Option Addr × Int × Unit) w2 =>
 jn [kB] w2 (fun (t4 : Bool × Unit) w5 =>
 cs t4.1 (
 R [.pointer none, .int .i64 (-17)] w5) (
 al w5 47 [.pointer r1.1, .int .i64 0, .int .i64 0, .int .i64 0] fun b7 w8 =>
 R [.pointer (some ⟨b7, 0, none⟩), .int .i64 0] w8)) fun J3 w6 =>
 cs ((r1.2.1 : Int) != (0 : Int)) (
 J3 (true, ()) w6) (
 J3 ((Int.tmod a0 4 : Int) != (0 : Int), ()) w6)
theorem tie8 (a0 : Int) (R : List Value → World → Prop) (w : World) : compF Pg Try.f8 ⟨[], [], [], [(2, [(3, 4, ⟨[(17, kB)], [14, 15, 16]⟩)])]⟩ [.int .i64 a0] R w = sh8 a0 R w := by kernel_rfl
theorem call8 {a0 : Int} {w : World} {K : TK [kP, kI] → World → Prop} (h : sh8 a0 (fun vs w' => ∃ t, encK [kP, kI] t = vs ∧ K t w') w) : cl Pg 8 [.int .i64 a0] [kP, kI] w K := cl_of Try.func8 (tie8 ..) h
/-- (*detent/arena.Arena).Size -/
def sh20 (a0 : Option Addr) (R : List Value → World → Prop) (w : World) : Prop :=
 nn a0 fun b1 o2 =>
 ldS w b1 o2 fun s3 =>
 R [.int .i64 (s3.len : Int)] w
theorem tie20 (a0 : Option Addr) (R : List Value → World → Prop) (w : World) : compF Pg Try.f20 ⟨[], [], [], []⟩ [.pointer a0] R w = sh20 a0 R w := by kernel_rfl
theorem call20 {a0 : Option Addr} {w : World} {K : TK [kI] → World → Prop} (h : sh20 a0 (fun vs w' => ∃ t, encK [kI] t = vs ∧ K t w') w) : cl Pg 20 [.pointer a0] [kI] w K := cl_of Try.func20 (tie20 ..) h
/-- (*detent/ring.Ring).Free -/
def sh11 (a0 : Option Addr) (R : List Value → World → Prop) (w : World) : Prop :=
 dr w fun w1 =>
 nn a0 fun b2 o3 =>
 ldP w1 b2 o3 fun p4 =>
 nn a0 fun b5 o6 =>
 ldI w1 .i64 b5 (o6 + 2) fun n7 =>
 cl Pg 20 [.pointer p4] [kI] w1 fun (r8 : Int × Unit) w9 =>
(w9.cell? ⟨b5, o6 + 2, none⟩ = some (.int .i64 n7)) ∧ (
 R [.int .i64 (w64 (r8.1 - n7))] w9)
theorem tie11 (a0 : Option Addr) (R : List Value → World → Prop) (w : World) : compF Pg Try.f11 ⟨[], [], [(1, .l [(0, []), (1, []), (2, []), (3, []), (5, []), (6, []), (7, []), (8, []), (4, [3, 2, 1, 0]), (9, []), (10, [])])], []⟩ [.pointer a0] R w = sh11 a0 R w := by kernel_rfl
theorem call11 {a0 : Option Addr} {w : World} {K : TK [kI] → World → Prop} (h : sh11 a0 (fun vs w' => ∃ t, encK [kI] t = vs ∧ K t w') w) : cl Pg 11 [.pointer a0] [kI] w K := cl_of Try.func11 (tie11 ..) h
/-- detent/nums.Align -/
def sh24 (a0 : Int) (a1 : Int) (R : List Value → World → Prop) (w : World) : Prop :=
 jn [kB] w (fun (t2 : Bool × Unit) w3 =>
 jn [kB] w3 (fun (t6 : Bool × Unit) w7 =>
 jn [kB] w7 (fun (t10 : Bool × Unit) w11 =>
 cs t10.1 (
 R [.int .i64 a0] w11) (
 ob (a1 ≠ 0) (
 R [.int .i64 (w64 ((w64 (Int.tdiv (w64 ((w64 (a0 + a1)) - 1)) a1)) * a1))] w11))) fun J9 w12 =>
 cs t6.1 (
 J9 (true, ()) w12) (
 J9 (decide ((a1 : Int) > (4096 : Int)), ()) w12)) fun J5 w8 =>
 cs t2.1 (
 J5 (true, ()) w8) (
 J5 (decide ((a1 : Int) < (1 : Int)), ()) w8)) fun J1 w4 =>
 cs (decide ((a0 : Int) < (0 : Int))) (
 J1 (true, ()) w4) (
 J1 (decide ((a0 : Int) > (1073741824 : Int)), ()) w4)
theorem tie24 (a0 : Int) (a1 : Int) (R : List Value → World → Prop) (w : World) : compF Pg Try.f24 ⟨[], [], [], [(1, [(3, 3, ⟨[(10, kB)], [8, 9]⟩), (7, 3, ⟨[(14, kB)], [12, 13]⟩), (11, 3, ⟨[(18, kB)], [16, 17]⟩)])]⟩ [.int .i64 a0, .int .i64 a1] R w = sh24 a0 a1 R w := by kernel_rfl
theorem call24 {a0 : Int} {a1 : Int} {w : World} {K : TK [kI] → World → Prop} (h : sh24 a0 a1 (fun vs w' => ∃ t, encK [kI] t = vs ∧ K t w') w) : cl Pg 24 [.int .i64 a0, .int .i64 a1] [kI] w K := cl_of Try.func24 (tie24 ..) h
/-- (*detent/ring.Ring).Fits -/
def sh18 (a0 : Option Addr) (a1 : Int) (R : List Value → World → Prop) (w : World) : Prop :=
 jn [kB] w (fun (t2 : Bool × Unit) w3 =>
 jn [kB] w3 (fun (t6 : Bool × Unit) w7 =>
 R [.bool t6.1] w7) fun J5 w8 =>
 cs t2.1 (
 cl Pg 11 [.pointer a0] [kI] w8 fun (r9 : Int × Unit) w10 =>
 cl Pg 24 [.int .i64 a1, .int .i64 4] [kI] w10 fun (r11 : Int × Unit) w12 =>
 J5 (decide ((r9.1 : Int) ≥ (w64 (4 + r11.1) : Int)), ()) w12) (
 J5 (false, ()) w8)) fun J1 w4 =>
 cs (decide ((a1 : Int) ≥ (0 : Int))) (
 J1 (decide ((a1 : Int) ≤ (1024 : Int)), ()) w4) (
 J1 (false, ()) w4)
theorem tie18 (a0 : Option Addr) (a1 : Int) (R : List Value → World → Prop) (w : World) : compF Pg Try.f18 ⟨[], [], [], [(1, [(3, 3, ⟨[(10, kB)], [8, 9]⟩), (7, 7, ⟨[(18, kB)], [12, 13, 14, 15, 16, 17]⟩)])]⟩ [.pointer a0, .int .i64 a1] R w = sh18 a0 a1 R w := by kernel_rfl
theorem call18 {a0 : Option Addr} {a1 : Int} {w : World} {K : TK [kB] → World → Prop} (h : sh18 a0 a1 (fun vs w' => ∃ t, encK [kB] t = vs ∧ K t w') w) : cl Pg 18 [.pointer a0, .int .i64 a1] [kB] w K := cl_of Try.func18 (tie18 ..) h
/-- (*detent/arena.Arena).part -/
def sh34 (a0 : Option Addr) (a1 : Int) (a2 : Int) (R : List Value → World → Prop) (w : World) : Prop :=
 jn [kB] w (fun (t2 : Bool × Unit) w3 =>
 jn [kB] w3 (fun (t6 : Bool × Unit) w7 =>
 jn [kB] w7 (fun (t10 : Bool × Unit) w11 =>
 cs t10.1 (
 R [.slice none 0 0, .bool false] w11) (
 nn a0 fun b13 o14 =>
 ldI w11 .i64 b13 (o14 + 1) fun n15 =>
 nn a0 fun b16 o17 =>
 st1 w11 b16 (o17 + 1) (.int .i64 (w64 (n15 + a2))) fun w18 =>
 nn a0 fun b19 o20 =>
 ldS w18 b19 o20 fun s21 =>
 sb s21 a1 (w64 (a1 + a2)) s21.cap 1 fun s22 =>
 R [vS s22, .bool true] w18)) fun J9 w12 =>
 cs t6.1 (
 J9 (true, ()) w12) (
 nn a0 fun b23 o24 =>
 ldS w12 b23 o24 fun s25 =>
 J9 (decide ((a2 : Int) > (w64 ((s25.len : Int) - a1) : Int)), ()) w12)) fun J5 w8 =>
 cs t2.1 (
 J5 (true, ()) w8) (
 nn a0 fun b26 o27 =>
 ldS w8 b26 o27 fun s28 =>
 J5 (decide ((a1 : Int) > ((s28.len : Int) : Int)), ()) w8)) fun J1 w4 =>
 cs (decide ((a1 : Int) < (0 : Int))) (
 J1 (true, ()) w4) (
 J1 (decide ((a2 : Int) < (0 : Int)), ()) w4)
theorem tie34 (a0 : Option Addr) (a1 : Int) (a2 : Int) (R : List Value → World → Prop) (w : World) : compF Pg Try.f34 ⟨[], [], [], [(1, [(3, 3, ⟨[(13, kB)], [11, 12]⟩), (7, 8, ⟨[(22, kB)], [15, 16, 17, 18, 19, 20, 21]⟩), (16, 10, ⟨[(33, kB)], [24, 25, 26, 27, 28, 29, 30, 31, 32]⟩)])]⟩ [.pointer a0, .int .i64 a1, .int .i64 a2] R w = sh34 a0 a1 a2 R w := by kernel_rfl
theorem call34 {a0 : Option Addr} {a1 : Int} {a2 : Int} {w : World} {K : TK [kS, kB] → World → Prop} (h : sh34 a0 a1 a2 (fun vs w' => ∃ t, encK [kS, kB] t = vs ∧ K t w') w) : cl Pg 34 [.pointer a0, .int .i64 a1, .int .i64 a2] [kS, kB] w K := cl_of Try.func34 (tie34 ..) h
/-- (*detent/arena.Arena).word -/
def sh29 (a0 : Option Addr) (a1 : Int) (R : List Value → World → Prop) (w : World) : Prop :=
 jn [kB] w (fun (t2 : Bool × Unit) w3 =>
 cs t2.1 (
 R [.slice none 0 0, .bool false] w3) (
 cl Pg 34 [.pointer a0, .int .i64 a1, .int .i64 4] [kS, kB] w3 fun (r5 : Sl × Bool × Unit) w6 =>
 R [vS r5.1, .bool r5.2.1] w6)) fun J1 w4 =>
 cs (decide ((a1 : Int) < (0 : Int))) (
 J1 (true, ()) w4) (
 J1 ((Int.tmod a1 4 : Int) != (0 : Int), ()) w4)
theorem tie29 (a0 : Option Addr) (a1 : Int) (R : List Value → World → Prop) (w : World) : compF Pg Try.f29 ⟨[], [], [], [(1, [(3, 4, ⟨[(12, kB)], [9, 10, 11]⟩)])]⟩ [.pointer a0, .int .i64 a1] R w = sh29 a0 a1 R w := by kernel_rfl
theorem call29 {a0 : Option Addr} {a1 : Int} {w : World} {K : TK [kS, kB] → World → Prop} (h : sh29 a0 a1 (fun vs w' => ∃ t, encK [kS, kB] t = vs ∧ K t w') w) : cl Pg 29 [.pointer a0, .int .i64 a1] [kS, kB] w K := cl_of Try.func29 (tie29 ..) h
/-- (*detent/arena.Arena).PutWord -/
def sh22 (a0 : Option Addr) (a1 : Int) (a2 : Int) (R : List Value → World → Prop) (w : World) : Prop :=
 cl Pg 29 [.pointer a0, .int .i64 a1] [kS, kB] w fun (r1 : Sl × Bool × Unit) w2 =>
 cs (!r1.2.1) (
 R [.int .i64 (-17)] w2) (
 lp [kI] w2 ((0 : Int), ()) fun (t3 : Int × Unit) J4 w5 =>
 cs (decide ((t3.1 : Int) < ((r1.1.len : Int) : Int))) (
 ob (0 ≤ (w64 (8 * t3.1))) (
 ix r1.1 t3.1 1 fun b6 o7 =>
 st1 w5 b6 o7 (.int .u8 (IntKind.u8.wrap (Int.fdiv a2 (2 ^ (min (w64 (8 * t3.1)).toNat 32))))) fun w8 =>
 J4 (w64 (t3.1 + 1), ()) w8)) (
 R [.int .i64 0] w5))
theorem tie22 (a0 : Option Addr) (a1 : Int) (a2 : Int) (R : List Value → World → Prop) (w : World) : compF Pg Try.f22 ⟨[(2, ⟨[(20, kI)], [9, 21, 22, 23, 24, 25, 26, 27, 28, 29, 30, 31]⟩)], [], [], []⟩ [.pointer a0, .int .i64 a1, .int .u32 a2] R w = sh22 a0 a1 a2 R w := by kernel_rfl
theorem call22 {a0 : Option Addr} {a1 : Int} {a2 : Int} {w : World} {K : TK [kI] → World → Prop} (h : sh22 a0 a1 a2 (fun vs w' => ∃ t, encK [kI] t = vs ∧ K t w') w) : cl Pg 22 [.pointer a0, .int .i64 a1, .int .u32 a2] [kI] w K := cl_of Try.func22 (tie22 ..) h
/-- slices.Grow[[]byte,byte] -/
def sh37 (a0 : Sl) (a1 : Int) (R : List Value → World → Prop) (w : World) : Prop :=
 jn [] w (fun (t2 : Unit) w3 =>
 cs (decide ((w64 (a1 - (w64 ((a0.cap : Int) - (a0.len : Int)))) : Int) > (0 : Int))) (
 sb a0 0 (a0.cap : Int) a0.cap 1 fun s5 =>
 ef Pg (Builtin.append_ #[27, 3] 27 #[vS s5, .int .i64 (w64 (a1 - (w64 ((a0.cap : Int) - (a0.len : Int)))))]) [kS] w3 fun (r6 : Sl × Unit) w7 =>
 sb r6.1 0 (a0.len : Int) r6.1.cap 1 fun s8 =>
 R [vS s8] w7) (
 R [vS a0] w3)) fun J1 w4 =>
 cs (decide ((a1 : Int) < (0 : Int))) (
 False) (
 J1 () w4)
theorem tie37 (a0 : Sl) (a1 : Int) (R : List Value → World → Prop) (w : World) : compF Pg Try.f37 ⟨[(0, ⟨[], [7]⟩)], [], [], []⟩ [vS a0, .int .i64 a1] R w = sh37 a0 a1 R w := by kernel_rfl
theorem call37 {a0 : Sl} {a1 : Int} {w : World} {K : TK [kS] → World → Prop} (h : sh37 a0 a1 (fun vs w' => ∃ t, encK [kS] t = vs ∧ K t w') w) : cl Pg 37 [vS a0, .int .i64 a1] [kS] w K := cl_of Try.func37 (tie37 ..) h
/-- slices.Concat[[]byte,byte] -/
def sh35 (a0 : Sl) (R : List Value → World → Prop) (w : World) : Prop :=
 lp [kI, kI] w ((0 : Int), (0 : Int), ()) fun (t1 : Int × Int × Unit) J2 w3 =>
 cs (decide ((t1.2.1 : Int) < ((a0.len : Int) : Int))) (
 ix a0 t1.2.1 1 fun b4 o5 =>
 ldS w3 b4 o5 fun s6 =>
 cs (decide ((w64 (t1.1 + (s6.len : Int)) : Int) < (0 : Int))) (
 False) (
 J2 (w64 (t1.1 + (s6.len : Int)), w64 (t1.2.1 + 1), ()) w3)) (
 cl Pg 37 [.slice none 0 0, .int .i64 t1.1] [kS] w3 fun (r7 : Sl × Unit) w8 =>
 lp [kS, kI] w8 (r7.1, (0 : Int), ()) fun (t9 : Sl × Int × Unit) J10 w11 =>
 cs (decide ((t9.2.1 : Int) < ((a0.len : Int) : Int))) (
 ix a0 t9.2.1 1 fun b12 o13 =>
 ldS w11 b12 o13 fun s14 =>
 ef Pg (Builtin.append_ #[27, 27] 27 #[vS t9.1, vS s14]) [kS] w11 fun (r15 : Sl × Unit) w16 =>
 J10 (r15.1, w64 (t9.2.1 + 1), ()) w16) (
 R [vS t9.1] w11))
theorem tie35 (a0 : Sl) (R : List Value → World → Prop) (w : World) : compF Pg Try.f35 ⟨[(1, ⟨[(3, kI), (11, kI)], [5, 12, 13, 14, 15, 16, 17, 18, 19, 20, 21, 22]⟩), (6, ⟨[(6, kS), (27, kI)], [8, 28, 29, 30, 31, 32, 33, 34]⟩)], [], [], []⟩ [vS a0] R w = sh35 a0 R w := by kernel_rfl
theorem call35 {a0 : Sl} {w : World} {K : TK [kS] → World → Prop} (h : sh35 a0 (fun vs w' => ∃ t, encK [kS] t = vs ∧ K t w') w) : cl Pg 35 [vS a0] [kS] w K := cl_of Try.func35 (tie35 ..) h
/-- (*detent/arena.Arena).Write -/
def sh30 (a0 : Option Addr) (a1 : Int) (a2 : Sl) (R : List Value → World → Prop) (w : World) : Prop :=
 cl Pg 35 [vS a2] [kS] w fun (r1 : Sl × Unit) w2 =>
 cl Pg 34 [.pointer a0, .int .i64 a1, .int .i64 (r1.1.len : Int)] [kS, kB] w2 fun (r3 : Sl × Bool × Unit) w4 =>
 cs (!r3.2.1) (
 R [.int .i64 (-17)] w4) (
 ef Pg (Builtin.copy_ #[27, 27] 3 #[vS r3.1, vS r1.1]) [kI] w4 fun (r5 : Int × Unit) w6 =>
 R [.int .i64 0] w6)
theorem tie30 (a0 : Option Addr) (a1 : Int) (a2 : Sl) (R : List Value → World → Prop) (w : World) : compF Pg Try.f30 ⟨[], [], [], []⟩ [.pointer a0, .int .i64 a1, vS a2] R w = sh30 a0 a1 a2 R w := by kernel_rfl
theorem call30 {a0 : Option Addr} {a1 : Int} {a2 : Sl} {w : World} {K : TK [kI] → World → Prop} (h : sh30 a0 a1 a2 (fun vs w' => ∃ t, encK [kI] t = vs ∧ K t w') w) : cl Pg 30 [.pointer a0, .int .i64 a1, vS a2] [kI] w K := cl_of Try.func30 (tie30 ..) h
/-- (*detent/ring.Ring).put -/
def sh23 (a0 : Option Addr) (a1 : Int) (a2 : Sl) (R : List Value → World → Prop) (w : World) : Prop :=
 nn a0 fun b1 o2 =>
 ldP w b1 o2 fun p3 =>
 cl Pg 20 [.pointer p3] [kI] w fun (r4 : Int × Unit) w5 =>
 ob (r4.1 ≠ 0) (
 nn a0 fun b6 o7 =>
 ldP w5 b6 o7 fun p8 =>
 cl Pg 20 [.pointer p8] [kI] w5 fun (r9 : Int × Unit) w10 =>
 dr w10 fun w11 =>
 nn a0 fun b12 o13 =>
 ldP w11 b12 o13 fun p14 =>
 sb a2 0 (if (w64 (r9.1 - (Int.tmod a1 r4.1))) < (a2.len : Int) then w64 (r9.1 - (Int.tmod a1 r4.1)) else (a2.len : Int)) a2.cap 1 fun s15 =>
 al w11 27 [vS s15] fun b16 w17 =>
(w17.cell? ⟨b12, o13, none⟩ = some (.pointer p14)) ∧ (
 cl Pg 30 [.pointer p14, .int .i64 (Int.tmod a1 r4.1), vS ⟨some ⟨b16, 0, none⟩, 1, 1⟩] [kI] w17 fun (r18 : Int × Unit) w19 =>
 dr w19 fun w20 =>
 nn a0 fun b21 o22 =>
 ldP w20 b21 o22 fun p23 =>
 sb a2 (if (w64 (r9.1 - (Int.tmod a1 r4.1))) < (a2.len : Int) then w64 (r9.1 - (Int.tmod a1 r4.1)) else (a2.len : Int)) a2.len a2.cap 1 fun s24 =>
 al w20 27 [vS s24] fun b25 w26 =>
(w26.cell? ⟨b21, o22, none⟩ = some (.pointer p23)) ∧ (
 cl Pg 30 [.pointer p23, .int .i64 0, vS ⟨some ⟨b25, 0, none⟩, 1, 1⟩] [kI] w26 fun (r27 : Int × Unit) w28 =>
 R [] w28)))
theorem tie23 (a0 : Option Addr) (a1 : Int) (a2 : Sl) (R : List Value → World → Prop) (w : World) : compF Pg Try.f23 ⟨[], [], [(2, .l [(0, []), (1, []), (2, []), (3, []), (4, []), (5, []), (6, []), (7, []), (8, [7, 5, 6]), (9, [3, 4, 8, 2, 7, 1, 5, 6, 0])]), (3, .l [(0, []), (1, []), (2, []), (3, []), (4, []), (5, []), (6, []), (7, [6, 4, 5]), (8, [3, 7, 2, 6, 1, 4, 5, 0])])], []⟩ [.pointer a0, .int .i64 a1, vS a2] R w = sh23 a0 a1 a2 R w := by kernel_rfl
theorem call23 {a0 : Option Addr} {a1 : Int} {a2 : Sl} {w : World} {K : TK [] → World → Prop} (h : sh23 a0 a1 a2 (fun vs w' => ∃ t, encK [] t = vs ∧ K t w') w) : cl Pg 23 [.pointer a0, .int .i64 a1, vS a2] [] w K := cl_of Try.func23 (tie23 ..) h
/-- (*detent/ring.Ring).Put -/
def sh9 (a0 : Option Addr) (a1 : Sl) (R : List Value → World → Prop) (w : World) : Prop :=
 cl Pg 18 [.pointer a0, .int .i64 (a1.len : Int)] [kB] w fun (r1 : Bool × Unit) w2 =>
 cs (!r1.1) (
 R [.bool false] w2) (
 dr w2 fun w3 =>
 nn a0 fun b4 o5 =>
 ldI w3 .i64 b4 (o5 + 1) fun n6 =>
 nn a0 fun b7 o8 =>
 ldI w3 .i64 b7 (o8 + 2) fun n9 =>
 nn a0 fun b10 o11 =>
 ldP w3 b10 o11 fun p12 =>
 cl Pg 20 [.pointer p12] [kI] w3 fun (r13 : Int × Unit) w14 =>
(w14.cell? ⟨b7, o8 + 2, none⟩ = some (.int .i64 n9)) ∧ (
(w14.cell? ⟨b4, o5 + 1, none⟩ = some (.int .i64 n6)) ∧ (
 ob (r13.1 ≠ 0) (
 nn a0 fun b15 o16 =>
 ldP w14 b15 o16 fun p17 =>
 cl Pg 22 [.pointer p17, .int .i64 (Int.tmod (w64 (n6 + n9)) r13.1), .int .u32 (IntKind.u32.wrap ((a1.len : Int)))] [kI] w14 fun (r18 : Int × Unit) w19 =>
 cl Pg 23 [.pointer a0, .int .i64 (w64 ((Int.tmod (w64 (n6 + n9)) r13.1) + 4)), vS a1] [] w19 fun (r20 : Unit) w21 =>
 dr w21 fun w22 =>
 nn a0 fun b23 o24 =>
 ldI w22 .i64 b23 (o24 + 2) fun n25 =>
 cl Pg 24 [.int .i64 (a1.len : Int), .int .i64 4] [kI] w22 fun (r26 : Int × Unit) w27 =>
(w27.cell? ⟨b23, o24 + 2, none⟩ = some (.int .i64 n25)) ∧ (
 nn a0 fun b28 o29 =>
 st1 w27 b28 (o29 + 2) (.int .i64 (w64 (n25 + (w64 (4 + r26.1))))) fun w30 =>
 nn a0 fun b31 o32 =>
 ldI w30 .i64 b31 (o32 + 3) fun n33 =>
 nn a0 fun b34 o35 =>
 st1 w30 b34 (o35 + 3) (.int .i64 (w64 (n33 + 1))) fun w36 =>
 R [.bool true] w36)))))
theorem tie9 (a0 : Option Addr) (a1 : Sl) (R : List Value → World → Prop) (w : World) : compF Pg Try.f9 ⟨[], [], [(3, .l [(0, []), (1, []), (2, []), (3, []), (4, []), (5, []), (6, []), (7, []), (8, []), (9, []), (10, []), (11, []), (12, []), (13, [12, 11, 10, 9]), (14, []), (15, [])]), (6, .l [(0, []), (1, []), (2, []), (3, []), (4, []), (5, []), (6, [5, 4]), (7, []), (8, []), (9, []), (10, []), (11, [10, 8, 6, 0, 1, 2, 3, 4, 5, 7, 9])])], []⟩ [.pointer a0, vS a1] R w = sh9 a0 a1 R w := by kernel_rfl
theorem call9 {a0 : Option Addr} {a1 : Sl} {w : World} {K : TK [kB] → World → Prop} (h : sh9 a0 a1 (fun vs w' => ∃ t, encK [kB] t = vs ∧ K t w') w) : cl Pg 9 [.pointer a0, vS a1] [kB] w K := cl_of Try.func9 (tie9 ..) h
/-- (*detent/ring.Ring).Len -/
def sh10 (a0 : Option Addr) (R : List Value → World → Prop) (w : World) : Prop :=
 nn a0 fun b1 o2 =>
 ldI w .i64 b1 (o2 + 3) fun n3 =>
 R [.int .i64 n3] w
theorem tie10 (a0 : Option Addr) (R : List Value → World → Prop) (w : World) : compF Pg Try.f10 ⟨[], [], [], []⟩ [.pointer a0] R w = sh10 a0 R w := by kernel_rfl
theorem call10 {a0 : Option Addr} {w : World} {K : TK [kI] → World → Prop} (h : sh10 a0 (fun vs w' => ∃ t, encK [kI] t = vs ∧ K t w') w) : cl Pg 10 [.pointer a0] [kI] w K := cl_of Try.func10 (tie10 ..) h
/-- (*detent/arena.Arena).Word -/
def sh25 (a0 : Option Addr) (a1 : Int) (R : List Value → World → Prop) (w : World) : Prop :=
 cl Pg 29 [.pointer a0, .int .i64 a1] [kS, kB] w fun (r1 : Sl × Bool × Unit) w2 =>
 cs (!r1.2.1) (
 R [.int .u32 0, .int .i64 (-17)] w2) (
 dr w2 fun w3 =>
 ix r1.1 0 1 fun b4 o5 =>
 ldI w3 .u8 b4 o5 fun n6 =>
 ix r1.1 1 1 fun b7 o8 =>
 ldI w3 .u8 b7 o8 fun n9 =>
 ix r1.1 2 1 fun b10 o11 =>
 ldI w3 .u8 b10 o11 fun n12 =>
 ix r1.1 3 1 fun b13 o14 =>
 ldI w3 .u8 b13 o14 fun n15 =>
 R [.int .u32 (bOr .u32 (bOr .u32 (bOr .u32 (IntKind.u32.wrap (n6)) (IntKind.u32.wrap ((IntKind.u32.wrap (n9)) * 2 ^ 8))) (IntKind.u32.wrap ((IntKind.u32.wrap (n12)) * 2 ^ 16))) (IntKind.u32.wrap ((IntKind.u32.wrap (n15)) * 2 ^ 24))), .int .i64 0] w3)
theorem tie25 (a0 : Option Addr) (a1 : Int) (R : List Value → World → Prop) (w : World) : compF Pg Try.f25 ⟨[], [], [(4, .l [(0, []), (1, []), (2, []), (3, []), (4, []), (5, []), (6, []), (7, []), (8, []), (9, []), (10, []), (11, []), (12, []), (13, []), (14, []), (15, []), (16, []), (17, []), (18, []), (19, []), (20, []), (21, []), (22, []), (23, [])])], []⟩ [.pointer a0, .int .i64 a1] R w = sh25 a0 a1 R w := by kernel_rfl
theorem call25 {a0 : Option Addr} {a1 : Int} {w : World} {K : TK [.l (.i .u32), kI] → World → Prop} (h : sh25 a0 a1 (fun vs w' => ∃ t, encK [.l (.i .u32), kI] t = vs ∧ K t w') w) : cl Pg 25 [.pointer a0, .int .i64 a1] [.l (.i .u32), kI] w K := cl_of Try.func25 (tie25 ..) h
/-- slices.Clone[[]byte,byte] -/
def sh32 (a0 : Sl) (R : List Value → World → Prop) (w : World) : Prop :=
 cs a0.a.isNone (
 R [.slice none 0 0] w) (
 al w 5 [] fun b1 w2 =>
 ef Pg (Builtin.append_ #[27, 27] 27 #[vS ⟨some ⟨b1, 0, none⟩, 0, 0⟩, vS a0]) [kS] w2 fun (r3 : Sl × Unit) w4 =>
 R [vS r3.1] w4)
theorem tie32 (a0 : Sl) (R : List Value → World → Prop) (w : World) : compF Pg Try.f32 ⟨[], [], [], []⟩ [vS a0] R w = sh32 a0 R w := by kernel_rfl
theorem call32 {a0 : Sl} {w : World} {K : TK [kS] → World → Prop} (h : sh32 a0 (fun vs w' => ∃ t, encK [kS] t = vs ∧ K t w') w) : cl Pg 32 [vS a0] [kS] w K := cl_of Try.func32 (tie32 ..) h
/-- slices.Clip[[]byte,byte] -/
def sh36 (a0 : Sl) (R : List Value → World → Prop) (w : World) : Prop :=
 sb a0 0 (a0.len : Int) (a0.len : Int) 1 fun s1 =>
 R [vS s1] w
theorem tie36 (a0 : Sl) (R : List Value → World → Prop) (w : World) : compF Pg Try.f36 ⟨[], [], [], []⟩ [vS a0] R w = sh36 a0 R w := by kernel_rfl
theorem call36 {a0 : Sl} {w : World} {K : TK [kS] → World → Prop} (h : sh36 a0 (fun vs w' => ∃ t, encK [kS] t = vs ∧ K t w') w) : cl Pg 36 [vS a0] [kS] w K := cl_of Try.func36 (tie36 ..) h
/-- (*detent/arena.Arena).Read -/
def sh31 (a0 : Option Addr) (a1 : Int) (a2 : Int) (R : List Value → World → Prop) (w : World) : Prop :=
 cl Pg 34 [.pointer a0, .int .i64 a1, .int .i64 a2] [kS, kB] w fun (r1 : Sl × Bool × Unit) w2 =>
 cs (!r1.2.1) (
 R [.slice none 0 0, .int .i64 (-17)] w2) (
 cl Pg 32 [vS r1.1] [kS] w2 fun (r3 : Sl × Unit) w4 =>
 cl Pg 36 [vS r3.1] [kS] w4 fun (r5 : Sl × Unit) w6 =>
 R [vS r5.1, .int .i64 0] w6)
theorem tie31 (a0 : Option Addr) (a1 : Int) (a2 : Int) (R : List Value → World → Prop) (w : World) : compF Pg Try.f31 ⟨[], [], [], []⟩ [.pointer a0, .int .i64 a1, .int .i64 a2] R w = sh31 a0 a1 a2 R w := by kernel_rfl
theorem call31 {a0 : Option Addr} {a1 : Int} {a2 : Int} {w : World} {K : TK [kS, kI] → World → Prop} (h : sh31 a0 a1 a2 (fun vs w' => ∃ t, encK [kS, kI] t = vs ∧ K t w') w) : cl Pg 31 [.pointer a0, .int .i64 a1, .int .i64 a2] [kS, kI] w K := cl_of Try.func31 (tie31 ..) h
/-- (*detent/ring.Ring).get -/
def sh26 (a0 : Option Addr) (a1 : Int) (a2 : Int) (R : List Value → World → Prop) (w : World) : Prop :=
 nn a0 fun b1 o2 =>
 ldP w b1 o2 fun p3 =>
 cl Pg 20 [.pointer p3] [kI] w fun (r4 : Int × Unit) w5 =>
 ob (r4.1 ≠ 0) (
 nn a0 fun b6 o7 =>
 ldP w5 b6 o7 fun p8 =>
 cl Pg 20 [.pointer p8] [kI] w5 fun (r9 : Int × Unit) w10 =>
 nn a0 fun b11 o12 =>
 ldP w10 b11 o12 fun p13 =>
 cl Pg 31 [.pointer p13, .int .i64 (Int.tmod a1 r4.1), .int .i64 (if (w64 (r9.1 - (Int.tmod a1 r4.1))) < a2 then w64 (r9.1 - (Int.tmod a1 r4.1)) else a2)] [kS, kI] w10 fun (r14 : Sl × Int × Unit) w15 =>
 nn a0 fun b16 o17 =>
 ldP w15 b16 o17 fun p18 =>
 cl Pg 31 [.pointer p18, .int .i64 0, .int .i64 (w64 (a2 - (if (w64 (r9.1 - (Int.tmod a1 r4.1))) < a2 then w64 (r9.1 - (Int.tmod a1 r4.1)) else a2)))] [kS, kI] w15 fun (r19 : Sl × Int × Unit) w20 =>
 ef Pg (Builtin.append_ #[27, 27] 27 #[vS r14.1, vS r19.1]) [kS] w20 fun (r21 : Sl × Unit) w22 =>
 R [vS r21.1] w22)
theorem tie26 (a0 : Option Addr) (a1 : Int) (a2 : Int) (R : List Value → World → Prop) (w : World) : compF Pg Try.f26 ⟨[], [], [], []⟩ [.pointer a0, .int .i64 a1, .int .i64 a2] R w = sh26 a0 a1 a2 R w := by kernel_rfl
theorem call26 {a0 : Option Addr} {a1 : Int} {a2 : Int} {w : World} {K : TK [kS] → World → Prop} (h : sh26 a0 a1 a2 (fun vs w' => ∃ t, encK [kS] t = vs ∧ K t w') w) : cl Pg 26 [.pointer a0, .int .i64 a1, .int .i64 a2] [kS] w K := cl_of Try.func26 (tie26 ..) h
/-- (*detent/ring.Ring).Get -/
def sh12 (a0 : Option Addr) (R : List Value → World → Prop) (w : World) : Prop :=
 nn a0 fun b1 o2 =>
 ldI w .i64 b1 (o2 + 3) fun n3 =>
 cs ((n3 : Int) == (0 : Int)) (
 R [.slice none 0 0, .bool false] w) (
 dr w fun w4 =>
 nn a0 fun b5 o6 =>
 ldP w4 b5 o6 fun p7 =>
 nn a0 fun b8 o9 =>
 ldI w4 .i64 b8 (o9 + 1) fun n10 =>
 cl Pg 25 [.pointer p7, .int .i64 n10] [.l (.i .u32), kI] w4 fun (r11 : Int × Int × Unit) w12 =>
 nn a0 fun b13 o14 =>
 ldI w12 .i64 b13 (o14 + 1) fun n15 =>
 cl Pg 26 [.pointer a0, .int .i64 (w64 (n15 + 4)), .int .i64 (w64 (r11.1))] [kS] w12 fun (r16 : Sl × Unit) w17 =>
 cl Pg 24 [.int .i64 (w64 (r11.1)), .int .i64 4] [kI] w17 fun (r18 : Int × Unit) w19 =>
 dr w19 fun w20 =>
 nn a0 fun b21 o22 =>
 ldI w20 .i64 b21 (o22 + 1) fun n23 =>
 nn a0 fun b24 o25 =>
 ldP w20 b24 o25 fun p26 =>
 cl Pg 20 [.pointer p26] [kI] w20 fun (r27 : Int × Unit) w28 =>
(w28.cell? ⟨b21, o22 + 1, none⟩ = some (.int .i64 n23)) ∧ (
 ob (r27.1 ≠ 0) (
 nn a0 fun b29 o30 =>
 st1 w28 b29 (o30 + 1) (.int .i64 (Int.tmod (w64 (n23 + (w64 (4 + r18.1)))) r27.1)) fun w31 =>
 nn a0 fun b32 o33 =>
 ldI w31 .i64 b32 (o33 + 2) fun n34 =>
 nn a0 fun b35 o36 =>
 st1 w31 b35 (o36 + 2) (.int .i64 (w64 (n34 - (w64 (4 + r18.1))))) fun w37 =>
 nn a0 fun b38 o39 =>
 ldI w37 .i64 b38 (o39 + 3) fun n40 =>
 nn a0 fun b41 o42 =>
 st1 w37 b41 (o42 + 3) (.int .i64 (w64 (n40 - 1))) fun w43 =>
 R [vS r16.1, .bool true] w43)))
theorem tie12 (a0 : Option Addr) (R : List Value → World → Prop) (w : World) : compF Pg Try.f12 ⟨[], [], [(3, .l [(0, []), (1, []), (2, []), (3, []), (4, []), (5, []), (6, []), (7, []), (8, [3, 7, 2, 6, 1, 5, 0, 4]), (9, []), (10, []), (11, []), (12, []), (13, [])]), (7, .l [(0, []), (1, []), (2, []), (3, []), (4, []), (5, []), (6, []), (7, []), (8, []), (9, []), (10, []), (11, [10, 9, 8, 7]), (12, []), (13, []), (14, []), (15, [14, 12, 11, 0, 1, 2, 3, 4, 5, 6, 7, 8, 9, 10, 13])])], []⟩ [.pointer a0] R w = sh12 a0 R w := by kernel_rfl
theorem call12 {a0 : Option Addr} {w : World} {K : TK [kS, kB] → World → Prop} (h : sh12 a0 (fun vs w' => ∃ t, encK [kS, kB] t = vs ∧ K t w') w) : cl Pg 12 [.pointer a0] [kS, kB] w K := cl_of Try.func12 (tie12 ..) h
/-- detent/detentlaw6.known -/
def sh7  (R : List Value → World → Prop) (w : World) : Prop :=
 cl Pg 8 [.int .i64 24] [kP, kI] w fun (r1 : Option Addr × Int × Unit) w2 =>
 jn [kB] w2 (fun (t4 : Bool × Unit) w5 =>
 cs t4.1 (
 R [.bool false] w5) (
 al w5 5 [.int .u8 104, .int .u8 101, .int .u8 108, .int .u8 108, .int .u8 111] fun b7 w8 =>
 ef Pg (convert 27 27 (vS ⟨some ⟨b7, 0, none⟩, 5, 5⟩)) [kS] w8 fun (r9 : Sl × Unit) w10 =>
 cl Pg 9 [.pointer r1.1, vS r9.1] [kB] w10 fun (r11 : Bool × Unit) w12 =>
 al w12 5 [.int .u8 120] fun b13 w14 =>
 ef Pg (convert 27 27 (vS ⟨some ⟨b13, 0, none⟩, 1, 1⟩)) [kS] w14 fun (r15 : Sl × Unit) w16 =>
 cl Pg 9 [.pointer r1.1, vS r15.1] [kB] w16 fun (r17 : Bool × Unit) w18 =>
 al w18 5 [.int .u8 121] fun b19 w20 =>
 ef Pg (convert 27 27 (vS ⟨some ⟨b19, 0, none⟩, 1, 1⟩)) [kS] w20 fun (r21 : Sl × Unit) w22 =>
 cl Pg 9 [.pointer r1.1, vS r21.1] [kB] w22 fun (r23 : Bool × Unit) w24 =>
 cl Pg 12 [.pointer r1.1] [kS, kB] w24 fun (r25 : Sl × Bool × Unit) w26 =>
 jn [kB] w26 (fun (t28 : Bool × Unit) w29 =>
 jn [kB] w29 (fun (t32 : Bool × Unit) w33 =>
 jn [kB] w33 (fun (t36 : Bool × Unit) w37 =>
 jn [kB] w37 (fun (t40 : Bool × Unit) w41 =>
 jn [kB] w41 (fun (t44 : Bool × Unit) w45 =>
 jn [kB] w45 (fun (t48 : Bool × Unit) w49 =>
 jn [kB] w49 (fun (t52 : Bool × Unit) w53 =>
 jn [kB] w53 (fun (t56 : Bool × Unit) w57 =>
 jn [kB] w57 (fun (t60 : Bool × Unit) w61 =>
 R [.bool t60.1] w61) fun J59 w62 =>
 cs t56.1 (
 nn r1.1 fun b63 o64 =>
 ldP w62 b63 o64 fun p65 =>
 cl Pg 20 [.pointer p65] [kI] w62 fun (r66 : Int × Unit) w67 =>
 J59 ((r66.1 : Int) == (24 : Int), ()) w67) (
 J59 (false, ()) w62)) fun J55 w58 =>
 cs t52.1 (
 cl Pg 18 [.pointer r1.1, .int .i64 13] [kB] w58 fun (r68 : Bool × Unit) w69 =>
 J55 (!r68.1, ()) w69) (
 J55 (false, ()) w58)) fun J51 w54 =>
 cs t48.1 (
 cl Pg 18 [.pointer r1.1, .int .i64 12] [kB] w54 fun (r70 : Bool × Unit) w71 =>
 J51 (r70.1, ()) w71) (
 J51 (false, ()) w54)) fun J47 w50 =>
 cs t44.1 (
 cl Pg 11 [.pointer r1.1] [kI] w50 fun (r72 : Int × Unit) w73 =>
 J47 ((r72.1 : Int) == (16 : Int), ()) w73) (
 J47 (false, ()) w50)) fun J43 w46 =>
 cs t40.1 (
 cl Pg 10 [.pointer r1.1] [kI] w46 fun (r74 : Int × Unit) w75 =>
 J43 ((r74.1 : Int) == (1 : Int), ()) w75) (
 J43 (false, ()) w46)) fun J39 w42 =>
 cs t36.1 (
 J39 (r25.2.1, ()) w42) (
 J39 (false, ()) w42)) fun J35 w38 =>
 cs t32.1 (
 tx Pg 27 9 (vS r25.1) w38 fun g76 =>
 J35 (g76.toList == (bs [104, 101, 108, 108, 111]).toList, ()) w38) (
 J35 (false, ()) w38)) fun J31 w34 =>
 cs t28.1 (
 J31 (!r23.1, ()) w34) (
 J31 (false, ()) w34)) fun J27 w30 =>
 cs r11.1 (
 J27 (r17.1, ()) w30) (
 J27 (false, ()) w30))) fun J3 w6 =>
 cs ((r1.2.1 : Int) != (0 : Int)) (
 J3 (true, ()) w6) (
 J3 (r1.1.isNone, ()) w6)
theorem tie7  (R : List Value → World → Prop) (w : World) : compF Pg Try.f7 ⟨[], [], [], [(2, [(3, 3, ⟨[(17, kB)], [15, 16]⟩)]), (8, [(2, 2, ⟨[(38, kB)], [37]⟩), (5, 3, ⟨[(42, kB)], [40, 41]⟩), (9, 4, ⟨[(47, kB)], [44, 45, 46]⟩), (14, 2, ⟨[(50, kB)], [49]⟩), (17, 4, ⟨[(55, kB)], [52, 53, 54]⟩), (22, 4, ⟨[(60, kB)], [57, 58, 59]⟩), (27, 3, ⟨[(64, kB)], [62, 63]⟩), (31, 4, ⟨[(69, kB)], [66, 67, 68]⟩), (36, 7, ⟨[(77, kB)], [71, 72, 73, 74, 75, 76]⟩)])]⟩ [] R w = sh7  R w := by kernel_rfl
theorem call7  {w : World} {K : TK [kB] → World → Prop} (h : sh7  (fun vs w' => ∃ t, encK [kB] t = vs ∧ K t w') w) : cl Pg 7 [] [kB] w K := cl_of Try.func7 (tie7 ..) h
/-- detent/detentlaw6.RingFills -/
def sh3 (a0 : Int) (a1 : Int) (a2 : Int) (R : List Value → World → Prop) (w : World) : Prop :=
 cl Pg 7 [] [kB] w fun (r1 : Bool × Unit) w2 =>
 cs (!r1.1) (
 R [.bool false] w2) (
 jn [kB] w2 (fun (t4 : Bool × Unit) w5 =>
 jn [kB] w5 (fun (t8 : Bool × Unit) w9 =>
 jn [kB] w9 (fun (t12 : Bool × Unit) w13 =>
 jn [kB] w13 (fun (t16 : Bool × Unit) w17 =>
 jn [kB] w17 (fun (t20 : Bool × Unit) w21 =>
 jn [kB] w21 (fun (t24 : Bool × Unit) w25 =>
 cs t24.1 (
 R [.bool true] w25) (
 cl Pg 8 [.int .i64 a0] [kP, kI] w25 fun (r27 : Option Addr × Int × Unit) w28 =>
 cs r27.1.isNone (
 R [.bool false] w28) (
 ob ((w64 (4 + (w64 ((w64 (Int.tdiv (w64 (a1 + 3)) 4)) * 4)))) ≠ 0) (
 ef Pg (Instr.makeSlice 27 (.int .i64 a1) (.int .i64 a1)) [kS] w28 fun (r29 : Sl × Unit) w30 =>
 lp [kI] w30 ((0 : Int), ()) fun (t31 : Int × Unit) J32 w33 =>
 cs (decide ((t31.1 : Int) < (w64 (Int.tdiv a0 (w64 (4 + (w64 ((w64 (Int.tdiv (w64 (a1 + 3)) 4)) * 4))))) : Int))) (
 cl Pg 9 [.pointer r27.1, vS r29.1] [kB] w33 fun (r34 : Bool × Unit) w35 =>
 cs (!r34.1) (
 R [.bool false] w35) (
 J32 (w64 (t31.1 + 1), ()) w35)) (
 cl Pg 9 [.pointer r27.1, vS r29.1] [kB] w33 fun (r36 : Bool × Unit) w37 =>
 jn [kB] w37 (fun (t39 : Bool × Unit) w40 =>
 jn [kB] w40 (fun (t43 : Bool × Unit) w44 =>
 cs t43.1 (
 R [.bool false] w44) (
 lp [kI] w44 ((0 : Int), ()) fun (t46 : Int × Unit) J47 w48 =>
 jn [kB] w48 (fun (t50 : Bool × Unit) w51 =>
 cs t50.1 (
 cl Pg 12 [.pointer r27.1] [kS, kB] w51 fun (r53 : Sl × Bool × Unit) w54 =>
 jn [kB] w54 (fun (t56 : Bool × Unit) w57 =>
 jn [kB] w57 (fun (t60 : Bool × Unit) w61 =>
 jn [kB] w61 (fun (t64 : Bool × Unit) w65 =>
 cs t64.1 (
 R [.bool false] w65) (
 J47 (w64 (t46.1 + 1), ()) w65)) fun J63 w66 =>
 cs t60.1 (
 J63 (true, ()) w66) (
 cl Pg 9 [.pointer r27.1, vS r29.1] [kB] w66 fun (r67 : Bool × Unit) w68 =>
 J63 (r67.1, ()) w68)) fun J59 w62 =>
 cs t56.1 (
 J59 (true, ()) w62) (
 cl Pg 9 [.pointer r27.1, vS r29.1] [kB] w62 fun (r69 : Bool × Unit) w70 =>
 J59 (!r69.1, ()) w70)) fun J55 w58 =>
 cs (!r53.2.1) (
 J55 (true, ()) w58) (
 J55 (((r53.1.len : Int) : Int) != (a1 : Int), ()) w58)) (
 R [.bool true] w51)) fun J49 w52 =>
 cs (decide ((t46.1 : Int) < (a2 : Int))) (
 J49 (decide ((w64 (Int.tdiv a0 (w64 (4 + (w64 ((w64 (Int.tdiv (w64 (a1 + 3)) 4)) * 4))))) : Int) > (0 : Int)), ()) w52) (
 J49 (false, ()) w52))) fun J42 w45 =>
 cs t39.1 (
 J42 (true, ()) w45) (
 cl Pg 11 [.pointer r27.1] [kI] w45 fun (r71 : Int × Unit) w72 =>
 J42 ((r71.1 : Int) != (w64 (a0 - (w64 ((w64 (Int.tdiv a0 (w64 (4 + (w64 ((w64 (Int.tdiv (w64 (a1 + 3)) 4)) * 4)))))) * (w64 (4 + (w64 ((w64 (Int.tdiv (w64 (a1 + 3)) 4)) * 4))))))) : Int), ()) w72)) fun J38 w41 =>
 cs r36.1 (
 J38 (true, ()) w41) (
 cl Pg 10 [.pointer r27.1] [kI] w41 fun (r73 : Int × Unit) w74 =>
 J38 ((r73.1 : Int) != (w64 (Int.tdiv a0 (w64 (4 + (w64 ((w64 (Int.tdiv (w64 (a1 + 3)) 4)) * 4))))) : Int), ()) w74)))))) fun J23 w26 =>
 cs t20.1 (
 J23 (true, ()) w26) (
 J23 (decide ((a2 : Int) > (30 : Int)), ()) w26)) fun J19 w22 =>
 cs t16.1 (
 J19 (true, ()) w22) (
 J19 (decide ((a2 : Int) < (0 : Int)), ()) w22)) fun J15 w18 =>
 cs t12.1 (
 J15 (true, ()) w18) (
 J15 (decide ((a1 : Int) > (300 : Int)), ()) w18)) fun J11 w14 =>
 cs t8.1 (
 J11 (true, ()) w14) (
 J11 (decide ((a1 : Int) < (0 : Int)), ()) w14)) fun J7 w10 =>
 cs t4.1 (
 J7 (true, ()) w10) (
 J7 ((Int.tmod a0 4 : Int) != (0 : Int), ()) w10)) fun J3 w6 =>
 cs (decide ((a0 : Int) < (0 : Int))) (
 J3 (true, ()) w6) (
 J3 (decide ((a0 : Int) > (400 : Int)), ()) w6))
theorem tie3 (a0 : Int) (a1 : Int) (a2 : Int) (R : List Value → World → Prop) (w : World) : compF Pg Try.f3 ⟨[(4, ⟨[(12, kI)], [6, 62, 63, 64, 65, 66, 67, 68, 69, 70]⟩), (10, ⟨[(13, kI)], [6, 14, 15, 90, 91, 92, 93, 94, 95, 96, 97, 98, 99, 100, 101, 102, 103, 104, 105, 106, 107, 108, 109, 110, 111, 112, 113, 114, 115, 116, 117, 118, 119, 120, 121, 122]⟩)], [], [], [(3, [(3, 3, ⟨[(23, kB)], [21, 22]⟩), (7, 4, ⟨[(28, kB)], [25, 26, 27]⟩), (12, 3, ⟨[(32, kB)], [30, 31]⟩), (16, 3, ⟨[(36, kB)], [34, 35]⟩), (20, 3, ⟨[(40, kB)], [38, 39]⟩), (24, 3, ⟨[(44, kB)], [42, 43]⟩)]), (16, [(4, 5, ⟨[(79, kB)], [75, 76, 77, 78]⟩), (10, 9, ⟨[(89, kB)], [81, 82, 83, 84, 85, 86, 87, 88]⟩)]), (19, [(4, 3, ⟨[(96, kB)], [94, 95]⟩)]), (22, [(3, 5, ⟨[(111, kB)], [107, 108, 109, 110]⟩), (9, 5, ⟨[(117, kB)], [113, 114, 115, 116]⟩), (15, 4, ⟨[(122, kB)], [119, 120, 121]⟩)])]⟩ [.int .i64 a0, .int .i64 a1, .int .i64 a2] R w = sh3 a0 a1 a2 R w := by kernel_rfl
theorem call3 {a0 : Int} {a1 : Int} {a2 : Int} {w : World} {K : TK [kB] → World → Prop} (h : sh3 a0 a1 a2 (fun vs w' => ∃ t, encK [kB] t = vs ∧ K t w') w) : cl Pg 3 [.int .i64 a0, .int .i64 a1, .int .i64 a2] [kB] w K := cl_of Try.func3 (tie3 ..) h
/-- detent/detentlaw6.RingWhole -/
def sh4 (a0 : Sl) (a1 : Int) (R : List Value → World → Prop) (w : World) : Prop :=
 cl Pg 7 [] [kB] w fun (r1 : Bool × Unit) w2 =>
 cs (!r1.1) (
 R [.bool false] w2) (
 jn [kB] w2 (fun (t4 : Bool × Unit) w5 =>
 cs t4.1 (
 R [.bool true] w5) (
 cl Pg 8 [.int .i64 320] [kP, kI] w5 fun (r7 : Option Addr × Int × Unit) w8 =>
 lp [kI] w8 ((0 : Int), ()) fun (t9 : Int × Unit) J10 w11 =>
 cs (decide ((t9.1 : Int) ≤ (w64 (Int.tmod a1 8) : Int))) (
 lp [kI] w11 ((0 : Int), ()) fun (t12 : Int × Unit) J13 w14 =>
 cs (decide ((t12.1 : Int) < ((a0.len : Int) : Int))) (
 ix a0 t12.1 1 fun b15 o16 =>
 ldI w14 .u8 b15 o16 fun n17 =>
 ef Pg (Instr.makeSlice 27 (.int .i64 (w64 (n17))) (.int .i64 (w64 (n17)))) [kS] w14 fun (r18 : Sl × Unit) w19 =>
 lp [kI] w19 ((0 : Int), ()) fun (t20 : Int × Unit) J21 w22 =>
 cs (decide ((t20.1 : Int) < ((r18.1.len : Int) : Int))) (
 ix r18.1 t20.1 1 fun b23 o24 =>
 st1 w22 b23 o24 (.int .u8 (IntKind.u8.wrap (w64 ((w64 (t12.1 + t20.1)) + t9.1)))) fun w25 =>
 J21 (w64 (t20.1 + 1), ()) w25) (
 cl Pg 9 [.pointer r7.1, vS r18.1] [kB] w22 fun (r26 : Bool × Unit) w27 =>
 cs (!r26.1) (
 R [.bool false] w27) (
 cl Pg 12 [.pointer r7.1] [kS, kB] w27 fun (r28 : Sl × Bool × Unit) w29 =>
 jn [kB] w29 (fun (t31 : Bool × Unit) w32 =>
 cs t31.1 (
 R [.bool false] w32) (
 J13 (w64 (t12.1 + 1), ()) w32)) fun J30 w33 =>
 cs (!r28.2.1) (
 J30 (true, ()) w33) (
 tx Pg 27 9 (vS r28.1) w33 fun g34 =>
 tx Pg 27 9 (vS r18.1) w33 fun g35 =>
 J30 (!(g34.toList == g35.toList), ()) w33)))) (
 J10 (w64 (t9.1 + 1), ()) w14)) (
 cl Pg 10 [.pointer r7.1] [kI] w11 fun (r36 : Int × Unit) w37 =>
 jn [kB] w37 (fun (t39 : Bool × Unit) w40 =>
 R [.bool t39.1] w40) fun J38 w41 =>
 cs ((r36.1 : Int) == (0 : Int)) (
 cl Pg 11 [.pointer r7.1] [kI] w41 fun (r42 : Int × Unit) w43 =>
 J38 ((r42.1 : Int) == (320 : Int), ()) w43) (
 J38 (false, ()) w41)))) fun J3 w6 =>
 cs (((a0.len : Int) : Int) == (0 : Int)) (
 J3 (true, ()) w6) (
 J3 (decide (((a0.len : Int) : Int) > (40 : Int)), ()) w6))
theorem tie4 (a0 : Sl) (a1 : Int) (R : List Value → World → Prop) (w : World) : compF Pg Try.f4 ⟨[(3, ⟨[(7, kI)], [4, 8, 9, 10, 11, 12, 27, 28, 29, 30, 31, 32, 33, 34, 35, 36, 37, 38, 39, 40, 41, 42, 43, 44, 45, 46, 47, 48, 49, 50, 51, 52, 53, 54, 55, 56, 57, 58, 59, 60, 61, 62, 63, 64, 65, 66, 67, 68, 69, 70, 71, 72, 73, 74, 75, 76, 77, 78]⟩), (7, ⟨[(8, kI)], [4, 9, 10, 11, 12, 34, 35, 36, 37, 38, 39, 40, 41, 42, 43, 44, 45, 46, 47, 48, 49, 50, 51, 52, 53, 54, 55, 56, 57, 58, 59, 60, 61, 62, 63, 64, 65, 66, 67, 68, 69, 70, 71, 72, 73, 74, 75, 76, 77, 78]⟩), (11, ⟨[(10, kI)], [46, 47, 48, 49, 50, 51, 52, 53, 54, 55, 56, 57, 58, 59, 60]⟩)], [], [], [(3, [(4, 4, ⟨[(22, kB)], [19, 20, 21]⟩)]), (20, [(3, 6, ⟨[(78, kB)], [73, 74, 75, 76, 77]⟩)]), (22, [(4, 4, ⟨[(86, kB)], [83, 84, 85]⟩)])]⟩ [vS a0, .int .u8 a1] R w = sh4 a0 a1 R w := by kernel_rfl
theorem call4 {a0 : Sl} {a1 : Int} {w : World} {K : TK [kB] → World → Prop} (h : sh4 a0 a1 (fun vs w' => ∃ t, encK [kB] t = vs ∧ K t w') w) : cl Pg 4 [vS a0, .int .u8 a1] [kB] w K := cl_of Try.func4 (tie4 ..) h
/-- detent/detentlaw6.RingEmpty -/
def sh5 (a0 : Int) (R : List Value → World → Prop) (w : World) : Prop :=
 cl Pg 7 [] [kB] w fun (r1 : Bool × Unit) w2 =>
 cs (!r1.1) (
 R [.bool false] w2) (
 jn [kB] w2 (fun (t4 : Bool × Unit) w5 =>
 cs t4.1 (
 R [.bool true] w5) (
 cl Pg 8 [.int .i64 (w64 (4 * a0))] [kP, kI] w5 fun (r7 : Option Addr × Int × Unit) w8 =>
 lp [kI] w8 ((0 : Int), ()) fun (t9 : Int × Unit) J10 w11 =>
 cs (decide ((t9.1 : Int) < (a0 : Int))) (
 cl Pg 9 [.pointer r7.1, .slice none 0 0] [kB] w11 fun (r12 : Bool × Unit) w13 =>
 cs (!r12.1) (
 R [.bool false] w13) (
 J10 (w64 (t9.1 + 1), ()) w13)) (
 cl Pg 9 [.pointer r7.1, .slice none 0 0] [kB] w11 fun (r14 : Bool × Unit) w15 =>
 jn [kB] w15 (fun (t17 : Bool × Unit) w18 =>
 jn [kB] w18 (fun (t21 : Bool × Unit) w22 =>
 cs t21.1 (
 R [.bool false] w22) (
 lp [kI] w22 ((0 : Int), ()) fun (t24 : Int × Unit) J25 w26 =>
 cs (decide ((t24.1 : Int) < (a0 : Int))) (
 cl Pg 12 [.pointer r7.1] [kS, kB] w26 fun (r27 : Sl × Bool × Unit) w28 =>
 jn [kB] w28 (fun (t30 : Bool × Unit) w31 =>
 cs t30.1 (
 R [.bool false] w31) (
 J25 (w64 (t24.1 + 1), ()) w31)) fun J29 w32 =>
 cs (!r27.2.1) (
 J29 (true, ()) w32) (
 J29 (((r27.1.len : Int) : Int) != (0 : Int), ()) w32)) (
 cl Pg 12 [.pointer r7.1] [kS, kB] w26 fun (r33 : Sl × Bool × Unit) w34 =>
 R [.bool (!r33.2.1)] w34))) fun J20 w23 =>
 cs t17.1 (
 J20 (true, ()) w23) (
 cl Pg 11 [.pointer r7.1] [kI] w23 fun (r35 : Int × Unit) w36 =>
 J20 ((r35.1 : Int) != (0 : Int), ()) w36)) fun J16 w19 =>
 cs r14.1 (
 J16 (true, ()) w19) (
 cl Pg 10 [.pointer r7.1] [kI] w19 fun (r37 : Int × Unit) w38 =>
 J16 ((r37.1 : Int) != (a0 : Int), ()) w38)))) fun J3 w6 =>
 cs (decide ((a0 : Int) < (0 : Int))) (
 J3 (true, ()) w6) (
 J3 (decide ((a0 : Int) > (100 : Int)), ()) w6))
theorem tie5 (a0 : Int) (R : List Value → World → Prop) (w : World) : compF Pg Try.f5 ⟨[(3, ⟨[(5, kI)], [2, 25, 26, 27, 28, 29, 30, 31, 32]⟩), (9, ⟨[(6, kI)], [2, 7, 8, 46, 47, 48, 49, 50, 51, 52, 53, 54, 55, 56, 57, 58, 59, 60, 61, 62]⟩)], [], [], [(3, [(3, 3, ⟨[(18, kB)], [16, 17]⟩)]), (11, [(3, 5, ⟨[(40, kB)], [36, 37, 38, 39]⟩), (9, 4, ⟨[(45, kB)], [42, 43, 44]⟩)]), (17, [(3, 4, ⟨[(62, kB)], [59, 60, 61]⟩)])]⟩ [.int .i64 a0] R w = sh5 a0 R w := by kernel_rfl
theorem call5 {a0 : Int} {w : World} {K : TK [kB] → World → Prop} (h : sh5 a0 (fun vs w' => ∃ t, encK [kB] t = vs ∧ K t w') w) : cl Pg 5 [.int .i64 a0] [kB] w K := cl_of Try.func5 (tie5 ..) h
/-- detent/detentref6.New -/
def sh13 (a0 : Int) (R : List Value → World → Prop) (w : World) : Prop :=
 jn [kB] w (fun (t2 : Bool × Unit) w3 =>
 jn [kB] w3 (fun (t6 : Bool × Unit) w7 =>
 cs t6.1 (
 R [.pointer none, .int .i64 (-17)] w7) (
 al w7 44 [.int .i64 a0, .slice none 0 0] fun b9 w10 =>
 R [.pointer (some ⟨b9, 0, none⟩), .int .i64 0] w10)) fun J5 w8 =>
 cs t2.1 (
 J5 (true, ()) w8) (
 J5 ((Int.tmod a0 4 : Int) != (0 : Int), ()) w8)) fun J1 w4 =>
 cs (decide ((a0 : Int) < (0 : Int))) (
 J1 (true, ()) w4) (
 J1 (decide ((a0 : Int) > (65536 : Int)), ()) w4)
theorem tie13 (a0 : Int) (R : List Value → World → Prop) (w : World) : compF Pg Try.f13 ⟨[], [], [], [(1, [(3, 3, ⟨[(9, kB)], [7, 8]⟩), (7, 4, ⟨[(14, kB)], [11, 12, 13]⟩)])]⟩ [.int .i64 a0] R w = sh13 a0 R w := by kernel_rfl
theorem call13 {a0 : Int} {w : World} {K : TK [kP, kI] → World → Prop} (h : sh13 a0 (fun vs w' => ∃ t, encK [kP, kI] t = vs ∧ K t w') w) : cl Pg 13 [.int .i64 a0] [kP, kI] w K := cl_of Try.func13 (tie13 ..) h
/-- detent/detentref1.Align -/
def sh33 (a0 : Int) (a1 : Int) (R : List Value → World → Prop) (w : World) : Prop :=
 jn [kB] w (fun (t2 : Bool × Unit) w3 =>
 jn [kB] w3 (fun (t6 : Bool × Unit) w7 =>
 jn [kB] w7 (fun (t10 : Bool × Unit) w11 =>
 jn [kB] w11 (fun (t14 : Bool × Unit) w15 =>
 cs t14.1 (
 R [.int .i64 a0] w15) (
 ob (a1 ≠ 0) (
 R [.int .i64 (w64 ((w64 (a0 + a1)) - (Int.tmod a0 a1)))] w15))) fun J13 w16 =>
 cs t10.1 (
 J13 (true, ()) w16) (
 ob (a1 ≠ 0) (
 J13 ((Int.tmod a0 a1 : Int) == (0 : Int), ()) w16))) fun J9 w12 =>
 cs t6.1 (
 J9 (true, ()) w12) (
 J9 (decide ((a1 : Int) > (4096 : Int)), ()) w12)) fun J5 w8 =>
 cs t2.1 (
 J5 (true, ()) w8) (
 J5 (decide ((a1 : Int) < (1 : Int)), ()) w8)) fun J1 w4 =>
 cs (decide ((a0 : Int) < (0 : Int))) (
 J1 (true, ()) w4) (
 J1 (decide ((a0 : Int) > (1073741824 : Int)), ()) w4)
theorem tie33 (a0 : Int) (a1 : Int) (R : List Value → World → Prop) (w : World) : compF Pg Try.f33 ⟨[], [], [], [(1, [(3, 3, ⟨[(10, kB)], [8, 9]⟩), (7, 3, ⟨[(14, kB)], [12, 13]⟩), (11, 3, ⟨[(18, kB)], [16, 17]⟩), (15, 5, ⟨[(24, kB)], [20, 21, 22, 23]⟩)])]⟩ [.int .i64 a0, .int .i64 a1] R w = sh33 a0 a1 R w := by kernel_rfl
theorem call33 {a0 : Int} {a1 : Int} {w : World} {K : TK [kI] → World → Prop} (h : sh33 a0 a1 (fun vs w' => ∃ t, encK [kI] t = vs ∧ K t w') w) : cl Pg 33 [.int .i64 a0, .int .i64 a1] [kI] w K := cl_of Try.func33 (tie33 ..) h
/-- detent/detentref6.takes -/
def sh28 (a0 : Int) (R : List Value → World → Prop) (w : World) : Prop :=
 cl Pg 33 [.int .i64 a0, .int .i64 4] [kI] w fun (r1 : Int × Unit) w2 =>
 R [.int .i64 (w64 (4 + r1.1))] w2
theorem tie28 (a0 : Int) (R : List Value → World → Prop) (w : World) : compF Pg Try.f28 ⟨[], [], [], []⟩ [.int .i64 a0] R w = sh28 a0 R w := by kernel_rfl
theorem call28 {a0 : Int} {w : World} {K : TK [kI] → World → Prop} (h : sh28 a0 (fun vs w' => ∃ t, encK [kI] t = vs ∧ K t w') w) : cl Pg 28 [.int .i64 a0] [kI] w K := cl_of Try.func28 (tie28 ..) h
/-- (*detent/detentref6.Ring).Free -/
def sh17 (a0 : Option Addr) (R : List Value → World → Prop) (w : World) : Prop :=
 nn a0 fun b1 o2 =>
 ldI w .i64 b1 o2 fun n3 =>
 lp [kI, kI] w (n3, (0 : Int), ()) fun (t4 : Int × Int × Unit) J5 w6 =>
 nn a0 fun b7 o8 =>
 ldS w6 b7 (o8 + 1) fun s9 =>
 cs (decide ((t4.2.1 : Int) < ((s9.len : Int) : Int))) (
 nn a0 fun b10 o11 =>
 ldS w6 b10 (o11 + 1) fun s12 =>
 ix s12 t4.2.1 1 fun b13 o14 =>
 ldG w6 b13 o14 fun g15 =>
 cl Pg 28 [.int .i64 (g15.size : Int)] [kI] w6 fun (r16 : Int × Unit) w17 =>
 J5 (w64 (t4.1 - r16.1), w64 (t4.2.1 + 1), ()) w17) (
 R [.int .i64 t4.1] w6)
theorem tie17 (a0 : Option Addr) (R : List Value → World → Prop) (w : World) : compF Pg Try.f17 ⟨[(1, ⟨[(3, kI), (4, kI)], [9, 10, 11, 12, 13, 14, 15, 16, 17, 18, 19, 20, 21, 22, 23, 24, 25, 26, 27, 28]⟩)], [], [], []⟩ [.pointer a0] R w = sh17 a0 R w := by kernel_rfl
theorem call17 {a0 : Option Addr} {w : World} {K : TK [kI] → World → Prop} (h : sh17 a0 (fun vs w' => ∃ t, encK [kI] t = vs ∧ K t w') w) : cl Pg 17 [.pointer a0] [kI] w K := cl_of Try.func17 (tie17 ..) h
/-- (*detent/detentref6.Ring).Fits -/
def sh19 (a0 : Option Addr) (a1 : Int) (R : List Value → World → Prop) (w : World) : Prop :=
 jn [kB] w (fun (t2 : Bool × Unit) w3 =>
 jn [kB] w3 (fun (t6 : Bool × Unit) w7 =>
 R [.bool t6.1] w7) fun J5 w8 =>
 cs t2.1 (
 cl Pg 28 [.int .i64 a1] [kI] w8 fun (r9 : Int × Unit) w10 =>
 cl Pg 17 [.pointer a0] [kI] w10 fun (r11 : Int × Unit) w12 =>
 J5 (decide ((r9.1 : Int) ≤ (r11.1 : Int)), ()) w12) (
 J5 (false, ()) w8)) fun J1 w4 =>
 cs (decide ((a1 : Int) ≥ (0 : Int))) (
 J1 (decide ((a1 : Int) ≤ (1024 : Int)), ()) w4) (
 J1 (false, ()) w4)
theorem tie19 (a0 : Option Addr) (a1 : Int) (R : List Value → World → Prop) (w : World) : compF Pg Try.f19 ⟨[], [], [], [(1, [(3, 3, ⟨[(10, kB)], [8, 9]⟩), (7, 6, ⟨[(17, kB)], [12, 13, 14, 15, 16]⟩)])]⟩ [.pointer a0, .int .i64 a1] R w = sh19 a0 a1 R w := by kernel_rfl
theorem call19 {a0 : Option Addr} {a1 : Int} {w : World} {K : TK [kB] → World → Prop} (h : sh19 a0 a1 (fun vs w' => ∃ t, encK [kB] t = vs ∧ K t w') w) : cl Pg 19 [.pointer a0, .int .i64 a1] [kB] w K := cl_of Try.func19 (tie19 ..) h
/-- (*detent/detentref6.Ring).Put -/
def sh14 (a0 : Option Addr) (a1 : Sl) (R : List Value → World → Prop) (w : World) : Prop :=
 cl Pg 19 [.pointer a0, .int .i64 (a1.len : Int)] [kB] w fun (r1 : Bool × Unit) w2 =>
 cs (!r1.1) (
 R [.bool false] w2) (
 dr w2 fun w3 =>
 nn a0 fun b4 o5 =>
 ldS w3 b4 (o5 + 1) fun s6 =>
 tx Pg 27 9 (vS a1) w3 fun g7 =>
(
 al w3 9 [] fun b8 w9 =>
((convert 27 9 (vS a1)).run Pg w9 = .ok (.string g7) w9) ∧ (
(w9.cell? ⟨b4, o5 + 1, none⟩ = some (vS s6)) ∧ (
(
 ef Pg (Builtin.append_ #[42, 42] 42 #[vS ⟨some ⟨b8, 0, none⟩, 0, 0⟩, vS s6]) [kS] w9 fun (r10 : Sl × Unit) w11 =>
((convert 27 9 (vS a1)).run Pg w11 = .ok (.string g7) w11) ∧ (
 al w11 9 [.string g7] fun b12 w13 =>
(w13.cell? ⟨b4, o5 + 1, none⟩ = some (vS s6)) ∧ (
 ef Pg (Builtin.append_ #[42, 42] 42 #[vS r10.1, vS ⟨some ⟨b12, 0, none⟩, 1, 1⟩]) [kS] w13 fun (r14 : Sl × Unit) w15 =>
 nn a0 fun b16 o17 =>
 st1 w15 b16 (o17 + 1) (vS r14.1) fun w18 =>
 R [.bool true] w18))) ∧ (
 al w9 9 [.string g7] fun b19 w20 =>
(w20.cell? ⟨b4, o5 + 1, none⟩ = some (vS s6)) ∧ (
 ef Pg (Builtin.append_ #[42, 42] 42 #[vS ⟨some ⟨b8, 0, none⟩, 0, 0⟩, vS s6]) [kS] w20 fun (r21 : Sl × Unit) w22 =>
((convert 27 9 (vS a1)).run Pg w22 = .ok (.string g7) w22) ∧ (
 ef Pg (Builtin.append_ #[42, 42] 42 #[vS r21.1, vS ⟨some ⟨b19, 0, none⟩, 1, 1⟩]) [kS] w22 fun (r23 : Sl × Unit) w24 =>
 nn a0 fun b25 o26 =>
 st1 w24 b25 (o26 + 1) (vS r23.1) fun w27 =>
 R [.bool true] w27)))))) ∧ (
 al w3 9 [.string g7] fun b28 w29 =>
(w29.cell? ⟨b4, o5 + 1, none⟩ = some (vS s6)) ∧ (
 al w29 9 [] fun b30 w31 =>
((convert 27 9 (vS a1)).run Pg w31 = .ok (.string g7) w31) ∧ (
(w31.cell? ⟨b4, o5 + 1, none⟩ = some (vS s6)) ∧ (
 ef Pg (Builtin.append_ #[42, 42] 42 #[vS ⟨some ⟨b30, 0, none⟩, 0, 0⟩, vS s6]) [kS] w31 fun (r32 : Sl × Unit) w33 =>
((convert 27 9 (vS a1)).run Pg w33 = .ok (.string g7) w33) ∧ (
 ef Pg (Builtin.append_ #[42, 42] 42 #[vS r32.1, vS ⟨some ⟨b28, 0, none⟩, 1, 1⟩]) [kS] w33 fun (r34 : Sl × Unit) w35 =>
 nn a0 fun b36 o37 =>
 st1 w35 b36 (o37 + 1) (vS r34.1) fun w38 =>
 R [.bool true] w38))))))
theorem tie14 (a0 : Option Addr) (a1 : Sl) (R : List Value → World → Prop) (w : World) : compF Pg Try.f14 ⟨[], [], [(3, .t [(0, []), (2, []), (3, []), (4, []), (5, []), (7, []), (8, [])] 1 [] (.t [] 6 [1, 5, 4, 3, 2] (.l [(9, [8, 7]), (10, [6, 9, 1, 5, 8, 4, 7, 3, 2]), (11, []), (12, []), (13, [12, 10, 0, 1, 2, 3, 4, 5, 6, 7, 8, 9, 11])]) 9 [8, 7] (.l [(6, [1, 5, 4, 3, 2]), (10, [6, 9, 1, 5, 8, 4, 7, 3, 2]), (11, []), (12, []), (13, [12, 10, 0, 1, 2, 3, 4, 5, 6, 7, 8, 9, 11])])) 9 [8, 7] (.l [(1, []), (6, [1, 5, 4, 3, 2]), (10, [6, 9, 1, 5, 8, 4, 7, 3, 2]), (11, []), (12, []), (13, [12, 10, 0, 1, 2, 3, 4, 5, 6, 7, 8, 9, 11])]))], []⟩ [.pointer a0, vS a1] R w = sh14 a0 a1 R w := by kernel_rfl
theorem call14 {a0 : Option Addr} {a1 : Sl} {w : World} {K : TK [kB] → World → Prop} (h : sh14 a0 a1 (fun vs w' => ∃ t, encK [kB] t = vs ∧ K t w') w) : cl Pg 14 [.pointer a0, vS a1] [kB] w K := cl_of Try.func14 (tie14 ..) h
/-- (*detent/detentref6.Ring).Get -/
def sh15 (a0 : Option Addr) (R : List Value → World → Prop) (w : World) : Prop :=
 nn a0 fun b1 o2 =>
 ldS w b1 (o2 + 1) fun s3 =>
 cs (((s3.len : Int) : Int) == (0 : Int)) (
 R [.slice none 0 0, .bool false] w) (
 nn a0 fun b4 o5 =>
 ldS w b4 (o5 + 1) fun s6 =>
 ix s6 0 1 fun b7 o8 =>
 ldG w b7 o8 fun g9 =>
 ef Pg (convert 9 27 (.string g9)) [kS] w fun (r10 : Sl × Unit) w11 =>
 al w11 9 [] fun b12 w13 =>
 nn a0 fun b14 o15 =>
 ldS w13 b14 (o15 + 1) fun s16 =>
 sb s16 1 s16.len s16.cap 1 fun s17 =>
 ef Pg (Builtin.append_ #[42, 42] 42 #[vS ⟨some ⟨b12, 0, none⟩, 0, 0⟩, vS s17]) [kS] w13 fun (r18 : Sl × Unit) w19 =>
 nn a0 fun b20 o21 =>
 st1 w19 b20 (o21 + 1) (vS r18.1) fun w22 =>
 R [vS r10.1, .bool true] w22)
theorem tie15 (a0 : Option Addr) (R : List Value → World → Prop) (w : World) : compF Pg Try.f15 ⟨[], [], [], []⟩ [.pointer a0] R w = sh15 a0 R w := by kernel_rfl
theorem call15 {a0 : Option Addr} {w : World} {K : TK [kS, kB] → World → Prop} (h : sh15 a0 (fun vs w' => ∃ t, encK [kS, kB] t = vs ∧ K t w') w) : cl Pg 15 [.pointer a0] [kS, kB] w K := cl_of Try.func15 (tie15 ..) h
/-- (*detent/arena.Arena).Twin -/
def sh27 (a0 : Option Addr) (R : List Value → World → Prop) (w : World) : Prop :=
 dr w fun w1 =>
 nn a0 fun b2 o3 =>
 ldS w1 b2 o3 fun s4 =>
 nn a0 fun b5 o6 =>
 ldI w1 .i64 b5 (o6 + 1) fun n7 =>
 cl Pg 32 [vS s4] [kS] w1 fun (r8 : Sl × Unit) w9 =>
(w9.cell? ⟨b5, o6 + 1, none⟩ = some (.int .i64 n7)) ∧ (
 al w9 61 [vS r8.1, .int .i64 n7] fun b10 w11 =>
 R [.pointer (some ⟨b10, 0, none⟩)] w11)
theorem tie27 (a0 : Option Addr) (R : List Value → World → Prop) (w : World) : compF Pg Try.f27 ⟨[], [], [(1, .l [(0, []), (1, []), (2, []), (3, []), (5, []), (6, []), (7, []), (8, []), (4, [3, 2, 1, 0]), (9, []), (10, [9, 4, 8, 3, 7, 2, 6, 1, 5, 0]), (11, [])])], []⟩ [.pointer a0] R w = sh27 a0 R w := by kernel_rfl
theorem call27 {a0 : Option Addr} {w : World} {K : TK [kP] → World → Prop} (h : sh27 a0 (fun vs w' => ∃ t, encK [kP] t = vs ∧ K t w') w) : cl Pg 27 [.pointer a0] [kP] w K := cl_of Try.func27 (tie27 ..) h
/-- (*detent/ring.Ring).Twin -/
def sh16 (a0 : Option Addr) (R : List Value → World → Prop) (w : World) : Prop :=
 dr w fun w1 =>
 nn a0 fun b2 o3 =>
 ldP w1 b2 o3 fun p4 =>
 nn a0 fun b5 o6 =>
 ldI w1 .i64 b5 (o6 + 1) fun n7 =>
 nn a0 fun b8 o9 =>
 ldI w1 .i64 b8 (o9 + 2) fun n10 =>
 nn a0 fun b11 o12 =>
 ldI w1 .i64 b11 (o12 + 3) fun n13 =>
 cl Pg 27 [.pointer p4] [kP] w1 fun (r14 : Option Addr × Unit) w15 =>
(w15.cell? ⟨b11, o12 + 3, none⟩ = some (.int .i64 n13)) ∧ (
(w15.cell? ⟨b8, o9 + 2, none⟩ = some (.int .i64 n10)) ∧ (
(w15.cell? ⟨b5, o6 + 1, none⟩ = some (.int .i64 n7)) ∧ (
 al w15 47 [.pointer r14.1, .int .i64 n7, .int .i64 n10, .int .i64 n13] fun b16 w17 =>
 R [.pointer (some ⟨b16, 0, none⟩)] w17)))
theorem tie16 (a0 : Option Addr) (R : List Value → World → Prop) (w : World) : compF Pg Try.f16 ⟨[], [], [(1, .l [(0, []), (1, []), (2, []), (3, []), (5, []), (6, []), (7, []), (8, []), (9, []), (10, []), (11, []), (12, []), (13, []), (14, []), (15, []), (16, []), (4, [3, 2, 1, 0]), (17, []), (18, [17, 4, 8, 12, 16, 3, 7, 11, 15, 2, 6, 10, 14, 1, 5, 9, 13, 0]), (19, [])])], []⟩ [.pointer a0] R w = sh16 a0 R w := by kernel_rfl
theorem call16 {a0 : Option Addr} {w : World} {K : TK [kP] → World → Prop} (h : sh16 a0 (fun vs w' => ∃ t, encK [kP] t = vs ∧ K t w') w) : cl Pg 16 [.pointer a0] [kP] w K := cl_of Try.func16 (tie16 ..) h
/-- detent/detentlaw6.RingPlays -/
def sh6 (a0 : Int) (a1 : Sl) (a2 : Int) (R : List Value → World → Prop) (w : World) : Prop :=
 cl Pg 7 [] [kB] w fun (r1 : Bool × Unit) w2 =>
 cs (!r1.1) (
 R [.bool false] w2) (
 jn [kB] w2 (fun (t4 : Bool × Unit) w5 =>
 cs t4.1 (
 R [.bool true] w5) (
 cl Pg 8 [.int .i64 a0] [kP, kI] w5 fun (r7 : Option Addr × Int × Unit) w8 =>
 cl Pg 13 [.int .i64 a0] [kP, kI] w8 fun (r9 : Option Addr × Int × Unit) w10 =>
 jn [kB] w10 (fun (t12 : Bool × Unit) w13 =>
 cs t12.1 (
 R [.bool false] w13) (
 cs r9.1.isNone (
 R [.bool true] w13) (
 lp [kP, kI] w13 (r7.1, (0 : Int), ()) fun (t15 : Option Addr × Int × Unit) J16 w17 =>
 cs (decide ((t15.2.1 : Int) < ((a1.len : Int) : Int))) (
 ix a1 t15.2.1 2 fun b18 o19 =>
 ldS w17 b18 (o19 + 1) fun s20 =>
 cs (decide (((s20.len : Int) : Int) > (1100 : Int))) (
 R [.bool true] w17) (
 ix a1 t15.2.1 2 fun b21 o22 =>
 ldI w17 .i64 b21 o22 fun n23 =>
 jn [kP] w17 (fun (t25 : Option Addr × Unit) w26 =>
 dr w26 fun w28 =>
 jn [kB] w28 (fun (t30 : Bool × Unit) w31 =>
 cs t30.1 (
 R [.bool false] w31) (
 J16 (t25.1, w64 (t15.2.1 + 1), ()) w31)) fun J29 w32 =>
 nn r9.1 fun b33 o34 =>
 ldS w32 b33 (o34 + 1) fun s35 =>
 cl Pg 10 [.pointer t25.1] [kI] w32 fun (r36 : Int × Unit) w37 =>
(w37.cell? ⟨b33, o34 + 1, none⟩ = some (vS s35)) ∧ (
 cs ((r36.1 : Int) != ((s35.len : Int) : Int)) (
 J29 (true, ()) w37) (
 cl Pg 11 [.pointer t25.1] [kI] w37 fun (r38 : Int × Unit) w39 =>
 cl Pg 17 [.pointer r9.1] [kI] w39 fun (r40 : Int × Unit) w41 =>
 cs ((r38.1 : Int) != (r40.1 : Int)) (
 J29 (true, ()) w41) (
 cl Pg 18 [.pointer t25.1, .int .i64 a2] [kB] w41 fun (r42 : Bool × Unit) w43 =>
 cl Pg 19 [.pointer r9.1, .int .i64 a2] [kB] w43 fun (r44 : Bool × Unit) w45 =>
 cs (!(r42.1 == r44.1)) (
 J29 (true, ()) w45) (
 nn t25.1 fun b46 o47 =>
 ldP w45 b46 o47 fun p48 =>
 cl Pg 20 [.pointer p48] [kI] w45 fun (r49 : Int × Unit) w50 =>
 J29 ((r49.1 : Int) != (a0 : Int), ()) w50))))) fun J24 w27 =>
 cs ((n23 : Int) == (1 : Int)) (
 dr w27 fun w51 =>
 ix a1 t15.2.1 2 fun b52 o53 =>
 ldS w51 b52 (o53 + 1) fun s54 =>
 ix a1 t15.2.1 2 fun b55 o56 =>
 ldS w51 b55 (o56 + 1) fun s57 =>
 cl Pg 9 [.pointer t15.1, vS s54] [kB] w51 fun (r58 : Bool × Unit) w59 =>
(w59.cell? ⟨b55, o56 + 1, none⟩ = some (vS s57)) ∧ (
 cl Pg 14 [.pointer r9.1, vS s57] [kB] w59 fun (r60 : Bool × Unit) w61 =>
 cs (!(r58.1 == r60.1)) (
 R [.bool false] w61) (
 J24 (t15.1, ()) w61))) (
 jn [kP] w27 (fun (t63 : Option Addr × Unit) w65 =>
 J24 (t63.1, ()) w65) fun J62 w66 =>
 cs ((n23 : Int) == (2 : Int)) (
 cl Pg 12 [.pointer t15.1] [kS, kB] w66 fun (r67 : Sl × Bool × Unit) w68 =>
 cl Pg 15 [.pointer r9.1] [kS, kB] w68 fun (r69 : Sl × Bool × Unit) w70 =>
 tx Pg 27 9 (vS r67.1) w70 fun g71 =>
 tx Pg 27 9 (vS r69.1) w70 fun g72 =>
 jn [kB] w70 (fun (t74 : Bool × Unit) w75 =>
 cs t74.1 (
 R [.bool false] w75) (
 J62 (t15.1, ()) w75)) fun J73 w76 =>
 cs (!(g71.toList == g72.toList)) (
 J73 (true, ()) w76) (
 J73 (!(r67.2.1 == r69.2.1), ()) w76)) (
 jn [kP] w66 (fun (t78 : Option Addr × Unit) w79 =>
 J62 (t78.1, ()) w79) fun J77 w80 =>
 cs ((n23 : Int) == (3 : Int)) (
 cl Pg 16 [.pointer t15.1] [kP] w80 fun (r81 : Option Addr × Unit) w82 =>
 cs r81.1.isNone (
 R [.bool false] w82) (
 lp [kI] w82 ((0 : Int), ()) fun (t83 : Int × Unit) J84 w85 =>
 jn [kB] w85 (fun (t87 : Bool × Unit) w88 =>
 cs t87.1 (
 cl Pg 12 [.pointer t15.1] [kS, kB] w88 fun (r90 : Sl × Bool × Unit) w91 =>
 J84 (w64 (t83.1 + 1), ()) w91) (
 J77 (r81.1, ()) w88)) fun J86 w89 =>
 cs (decide ((t83.1 : Int) < (200 : Int))) (
 cl Pg 10 [.pointer t15.1] [kI] w89 fun (r92 : Int × Unit) w93 =>
 J86 (decide ((r92.1 : Int) > (0 : Int)), ()) w93) (
 J86 (false, ()) w89))) (
 J77 (t15.1, ()) w80))))) (
 R [.bool true] w17)))) fun J11 w14 =>
 cs ((r7.2.1 : Int) != (r9.2.1 : Int)) (
 J11 (true, ()) w14) (
 J11 (!(r7.1.isNone == ((r9.2.1 : Int) != (0 : Int))), ()) w14))) fun J3 w6 =>
 cs (decide (((a1.len : Int) : Int) > (80 : Int))) (
 J3 (true, ()) w6) (
 jn [kB] w6 (fun (t95 : Bool × Unit) w96 =>
 J3 (t95.1, ()) w96) fun J94 w97 =>
 cs (decide ((a0 : Int) > (4000 : Int))) (
 J94 (decide ((a0 : Int) ≤ (65536 : Int)), ()) w97) (
 J94 (false, ()) w97)))
theorem tie6 (a0 : Int) (a1 : Sl) (a2 : Int) (R : List Value → World → Prop) (w : World) : compF Pg Try.f6 ⟨[(5, ⟨[(7, kP), (11, kI)], [6, 12, 13, 14, 15, 16, 17, 53, 54, 55, 56, 57, 58, 59, 60, 61, 62, 63, 64, 65, 66, 67, 68, 69, 70, 71, 72, 73, 74, 75, 76, 77, 78, 79, 80, 81, 82, 83, 84, 85, 86, 87, 88, 89, 90, 91, 92, 93, 94, 95, 96, 97, 98, 99, 100, 101, 102, 103, 104, 105, 106, 107, 108, 109, 110, 111, 112, 113, 114, 115, 116, 117, 118, 119, 120, 121, 122, 123, 124, 125, 126, 127, 128, 129, 130, 131, 132, 133, 134, 135, 136, 137, 138, 139, 140, 141, 142, 143, 144, 145, 146, 147, 148, 149, 150, 151, 152, 153, 154, 155, 156, 157, 158, 159, 160]⟩), (10, ⟨[(7, kP)], [6, 12, 13, 14, 15, 16, 17, 73, 74, 75, 76, 77, 78, 79, 80, 81, 82, 83, 84, 85, 86, 87, 88, 89, 90, 91, 92, 93, 94, 95, 96, 97, 98, 99, 100, 101, 102, 103, 104, 105, 106, 107, 108, 109, 110, 111, 112, 113, 114, 115, 116, 117, 118, 119, 120, 121, 122, 123, 124, 125, 126, 127]⟩), (12, ⟨[(7, kP)], [6, 12, 13, 14, 15, 16, 17, 90, 91, 92, 93, 94, 95, 96, 97, 98, 99, 100, 101, 102, 103, 104, 105, 106, 107, 108, 109, 110, 111, 112, 113, 114, 115, 116, 117, 118, 119, 120, 121, 122, 123, 124, 125, 126, 127]⟩), (14, ⟨[(7, kP)], [6, 16, 17, 112, 113, 114, 115, 116, 117, 118, 119, 120, 121, 122, 123, 124, 125, 126, 127]⟩), (17, ⟨[(17, kI)], [116, 117, 118, 119, 120, 121, 122, 123, 124, 125, 126]⟩)], [(34, ⟨[(160, kB)], [128, 129, 130, 131, 132, 133, 134, 135, 136, 137, 138, 139, 140, 141, 142, 143, 144, 145, 146, 147, 148, 149, 150, 151, 152, 153, 154, 155, 156, 157, 158, 159]⟩)], [(34, .l [(0, []), (2, []), (3, []), (4, []), (5, []), (6, []), (1, [0]), (7, []), (8, []), (9, []), (11, []), (10, [9, 8, 7, 1, 6, 0, 5, 4, 3, 2]), (12, [11, 10, 8, 9, 7, 1, 6, 0, 5, 4, 3, 2]), (13, []), (14, []), (15, []), (16, []), (17, []), (19, []), (20, []), (18, [16, 17, 15, 14, 12, 8, 13, 11, 10, 7, 1, 9, 6, 0, 5, 4, 3, 2]), (21, [19, 20, 18, 15, 16, 17, 14, 12, 8, 13, 11, 10, 7, 1, 9, 6, 0, 5, 4, 3, 2]), (22, []), (23, []), (24, []), (25, []), (26, []), (27, []), (28, []), (30, []), (29, [28, 24, 27, 23, 21, 26, 15, 22, 19, 20, 18, 25, 14, 12, 16, 17, 8, 13, 11, 10, 7, 1, 9, 6, 0, 5, 4, 3, 2]), (31, []), (32, [])]), (18, .l [(0, []), (1, []), (2, []), (3, []), (4, []), (5, []), (7, []), (8, []), (9, []), (10, []), (11, []), (12, []), (6, [0, 5, 4, 3, 1, 2]), (13, [7, 12, 6, 11, 0, 5, 10, 4, 8, 9, 3, 1, 2]), (14, [])])], [(3, [(4, 7, ⟨[(30, kB)], [24, 25, 26, 27, 28, 29]⟩), (7, 3, ⟨[(29, kB)], [27, 28]⟩)]), (7, [(4, 6, ⟨[(50, kB)], [45, 46, 47, 48, 49]⟩)]), (23, [(6, 4, ⟨[(109, kB)], [106, 107, 108]⟩)]), (30, [(3, 4, ⟨[(122, kB)], [119, 120, 121]⟩)])]⟩ [.int .i64 a0, vS a1, .int .i64 a2] R w = sh6 a0 a1 a2 R w := by kernel_rfl
theorem call6 {a0 : Int} {a1 : Sl} {a2 : Int} {w : World} {K : TK [kB] → World → Prop} (h : sh6 a0 a1 a2 (fun vs w' => ∃ t, encK [kB] t = vs ∧ K t w') w) : cl Pg 6 [.int .i64 a0, vS a1, .int .i64 a2] [kB] w K := cl_of Try.func6 (tie6 ..) h
end Go.Proofs.Ytffjogadjimfpaa.B
