/- Printed by sh.py: each Go function as a typed shallow program, and its tie to the code. -/
import Derived.Test.YtlcmilmnecpokaaSound4
import Derived.Test.YtlcmilmnecpokaaProg
namespace Go.Proofs.Ytlcmilmnecpokaa.B
open Go Go.Proofs
set_option linter.unusedVariables false
set_option maxRecDepth 100000
noncomputable abbrev Pg : Program := Try.prog
/-- detent/arena.New -/
def sh9 (a0 : Int) (R : List Value → World → Prop) (w : World) : Prop :=
 jn [kB] w (fun (t2 : Bool × Unit) w3 =>
 cs t2.1 (
 R [.pointer none, .int .i64 (-17)] w3) (
 ef Pg (Instr.makeSlice 24 (.int .i64 a0) (.int .i64 a0)) [kS] w3 fun (r5 : Sl × Unit) w6 =>
 al w6 52 [vS r5.1, .int .i64 0] fun b7 w8 =>
 R [.pointer (some ⟨b7, 0, none⟩), .int .i64 0] w8)) fun J1 w4 =>
 cs (decide ((a0 : Int) < (0 : Int))) (
 J1 (true, ()) w4) (
 J1 (decide ((a0 : Int) > (65536 : Int)), ()) w4)
theorem tie9 (a0 : Int) (R : List Value → World → Prop) (w : World) : compF Pg Try.f9 ⟨[], [], [], [(1, [(3, 3, ⟨[(9, kB)], [7, 8]⟩)])]⟩ [.int .i64 a0] R w = sh9 a0 R w := by kernel_rfl
theorem call9 {a0 : Int} {w : World} {K : TK [kP, kI] → World → Prop} (h : sh9 a0 (fun vs w' => ∃ t, encK [kP, kI] t = vs ∧ K t w') w) : cl Pg 9 [.int .i64 a0] [kP, kI] w K := cl_of Try.func9 (tie9 ..) h
/-- slices.Grow[[]byte,byte] -/
def sh24 (a0 : Sl) (a1 : Int) (R : List Value → World → Prop) (w : World) : Prop :=
 jn [] w (fun (t2 : Unit) w3 =>
 cs (decide ((w64 (a1 - (w64 ((a0.cap : Int) - (a0.len : Int)))) : Int) > (0 : Int))) (
 sb a0 0 (a0.cap : Int) a0.cap 1 fun s5 =>
 ef Pg (Builtin.append_ #[24, 3] 24 #[vS s5, .int .i64 (w64 (a1 - (w64 ((a0.cap : Int) - (a0.len : Int)))))]) [kS] w3 fun (r6 : Sl × Unit) w7 =>
 sb r6.1 0 (a0.len : Int) r6.1.cap 1 fun s8 =>
 R [vS s8] w7) (
 R [vS a0] w3)) fun J1 w4 =>
 cs (decide ((a1 : Int) < (0 : Int))) (
 False) (
 J1 () w4)
theorem tie24 (a0 : Sl) (a1 : Int) (R : List Value → World → Prop) (w : World) : compF Pg Try.f24 ⟨[(0, ⟨[], [7]⟩)], [], [], []⟩ [vS a0, .int .i64 a1] R w = sh24 a0 a1 R w := by kernel_rfl
theorem call24 {a0 : Sl} {a1 : Int} {w : World} {K : TK [kS] → World → Prop} (h : sh24 a0 a1 (fun vs w' => ∃ t, encK [kS] t = vs ∧ K t w') w) : cl Pg 24 [vS a0, .int .i64 a1] [kS] w K := cl_of Try.func24 (tie24 ..) h
/-- slices.Concat[[]byte,byte] -/
def sh19 (a0 : Sl) (R : List Value → World → Prop) (w : World) : Prop :=
 lp [kI, kI] w ((0 : Int), (0 : Int), ()) fun (t1 : Int × Int × Unit) J2 w3 =>
 cs (decide ((t1.2.1 : Int) < ((a0.len : Int) : Int))) (
 ix a0 t1.2.1 1 fun b4 o5 =>
 ldS w3 b4 o5 fun s6 =>
 cs (decide ((w64 (t1.1 + (s6.len : Int)) : Int) < (0 : Int))) (
 False) (
 J2 (w64 (t1.1 + (s6.len : Int)), w64 (t1.2.1 + 1), ()) w3)) (
 cl Pg 24 [.slice none 0 0, .int .i64 t1.1] [kS] w3 fun (r7 : Sl × Unit) w8 =>
 lp [kS, kI] w8 (r7.1, (0 : Int), ()) fun (t9 : Sl × Int × Unit) J10 w11 =>
 cs (decide ((t9.2.1 : Int) < ((a0.len : Int) : Int))) (
 ix a0 t9.2.1 1 fun b12 o13 =>
 ldS w11 b12 o13 fun s14 =>
 ef Pg (Builtin.append_ #[24, 24] 24 #[vS t9.1, vS s14]) [kS] w11 fun (r15 : Sl × Unit) w16 =>
 J10 (r15.1, w64 (t9.2.1 + 1), ()) w16) (
 R [vS t9.1] w11))
theorem tie19 (a0 : Sl) (R : List Value → World → Prop) (w : World) : compF Pg Try.f19 ⟨[(1, ⟨[(3, kI), (11, kI)], [5, 12, 13, 14, 15, 16, 17, 18, 19, 20, 21, 22]⟩), (6, ⟨[(6, kS), (27, kI)], [8, 28, 29, 30, 31, 32, 33, 34]⟩)], [], [], []⟩ [vS a0] R w = sh19 a0 R w := by kernel_rfl
theorem call19 {a0 : Sl} {w : World} {K : TK [kS] → World → Prop} (h : sh19 a0 (fun vs w' => ∃ t, encK [kS] t = vs ∧ K t w') w) : cl Pg 19 [vS a0] [kS] w K := cl_of Try.func19 (tie19 ..) h
/-- (*detent/arena.Arena).part -/
def sh20 (a0 : Option Addr) (a1 : Int) (a2 : Int) (R : List Value → World → Prop) (w : World) : Prop :=
 jn [kB] w (fun (t2 : Bool × Unit) w3 =>
 jn [kB] w3 (fun (t6 : Bool × Unit) w7 =>
 jn [kB] w7 (fun (t10 : Bool × Unit) w11 =>
 cs t10.1 (
 R [.slice none 0 0, .bool false] w11) (
 nn a0 fun b13 o14 =>
 ldI w11 .i64 b13 (o14 + 1) fun n15 =>
 nn a0 fun b16 o17 =>
 st1 w11 b16 (o17 + 1) (.int .i64 (w64 (n15 + a2))) fun w18 =>
 nn a0 fun b19 o20 =>
 ldS w18 b19 o20 fun s21 =>
 sb s21 a1 (w64 (a1 + a2)) s21.cap 1 fun s22 =>
 R [vS s22, .bool true] w18)) fun J9 w12 =>
 cs t6.1 (
 J9 (true, ()) w12) (
 nn a0 fun b23 o24 =>
 ldS w12 b23 o24 fun s25 =>
 J9 (decide ((a2 : Int) > (w64 ((s25.len : Int) - a1) : Int)), ()) w12)) fun J5 w8 =>
 cs t2.1 (
 J5 (true, ()) w8) (
 nn a0 fun b26 o27 =>
 ldS w8 b26 o27 fun s28 =>
 J5 (decide ((a1 : Int) > ((s28.len : Int) : Int)), ()) w8)) fun J1 w4 =>
 cs (decide ((a1 : Int) < (0 : Int))) (
 J1 (true, ()) w4) (
 J1 (decide ((a2 : Int) < (0 : Int)), ()) w4)
theorem tie20 (a0 : Option Addr) (a1 : Int) (a2 : Int) (R : List Value → World → Prop) (w : World) : compF Pg Try.f20 ⟨[], [], [], [(1, [(3, 3, ⟨[(13, kB)], [11, 12]⟩), (7, 8, ⟨[(22, kB)], [15, 16, 17, 18, 19, 20, 21]⟩), (16, 10, ⟨[(33, kB)], [24, 25, 26, 27, 28, 29, 30, 31, 32]⟩)])]⟩ [.pointer a0, .int .i64 a1, .int .i64 a2] R w = sh20 a0 a1 a2 R w := by kernel_rfl
theorem call20 {a0 : Option Addr} {a1 : Int} {a2 : Int} {w : World} {K : TK [kS, kB] → World → Prop} (h : sh20 a0 a1 a2 (fun vs w' => ∃ t, encK [kS, kB] t = vs ∧ K t w') w) : cl Pg 20 [.pointer a0, .int .i64 a1, .int .i64 a2] [kS, kB] w K := cl_of Try.func20 (tie20 ..) h
/-- (*detent/arena.Arena).Write -/
def sh10 (a0 : Option Addr) (a1 : Int) (a2 : Sl) (R : List Value → World → Prop) (w : World) : Prop :=
 cl Pg 19 [vS a2] [kS] w fun (r1 : Sl × Unit) w2 =>
 cl Pg 20 [.pointer a0, .int .i64 a1, .int .i64 (r1.1.len : Int)] [kS, kB] w2 fun (r3 : Sl × Bool × Unit) w4 =>
 cs (!r3.2.1) (
 R [.int .i64 (-17)] w4) (
 ef Pg (Builtin.copy_ #[24, 24] 3 #[vS r3.1, vS r1.1]) [kI] w4 fun (r5 : Int × Unit) w6 =>
 R [.int .i64 0] w6)
theorem tie10 (a0 : Option Addr) (a1 : Int) (a2 : Sl) (R : List Value → World → Prop) (w : World) : compF Pg Try.f10 ⟨[], [], [], []⟩ [.pointer a0, .int .i64 a1, vS a2] R w = sh10 a0 a1 a2 R w := by kernel_rfl
theorem call10 {a0 : Option Addr} {a1 : Int} {a2 : Sl} {w : World} {K : TK [kI] → World → Prop} (h : sh10 a0 a1 a2 (fun vs w' => ∃ t, encK [kI] t = vs ∧ K t w') w) : cl Pg 10 [.pointer a0, .int .i64 a1, vS a2] [kI] w K := cl_of Try.func10 (tie10 ..) h
/-- (*detent/arena.Arena).Cost -/
def sh11 (a0 : Option Addr) (R : List Value → World → Prop) (w : World) : Prop :=
 nn a0 fun b1 o2 =>
 ldI w .i64 b1 (o2 + 1) fun n3 =>
 R [.int .i64 n3] w
theorem tie11 (a0 : Option Addr) (R : List Value → World → Prop) (w : World) : compF Pg Try.f11 ⟨[], [], [], []⟩ [.pointer a0] R w = sh11 a0 R w := by kernel_rfl
theorem call11 {a0 : Option Addr} {w : World} {K : TK [kI] → World → Prop} (h : sh11 a0 (fun vs w' => ∃ t, encK [kI] t = vs ∧ K t w') w) : cl Pg 11 [.pointer a0] [kI] w K := cl_of Try.func11 (tie11 ..) h
/-- slices.Clip[[]byte,byte] -/
def sh21 (a0 : Sl) (R : List Value → World → Prop) (w : World) : Prop :=
 sb a0 0 (a0.len : Int) (a0.len : Int) 1 fun s1 =>
 R [vS s1] w
theorem tie21 (a0 : Sl) (R : List Value → World → Prop) (w : World) : compF Pg Try.f21 ⟨[], [], [], []⟩ [vS a0] R w = sh21 a0 R w := by kernel_rfl
theorem call21 {a0 : Sl} {w : World} {K : TK [kS] → World → Prop} (h : sh21 a0 (fun vs w' => ∃ t, encK [kS] t = vs ∧ K t w') w) : cl Pg 21 [vS a0] [kS] w K := cl_of Try.func21 (tie21 ..) h
/-- slices.Clone[[]byte,byte] -/
def sh22 (a0 : Sl) (R : List Value → World → Prop) (w : World) : Prop :=
 cs a0.a.isNone (
 R [.slice none 0 0] w) (
 al w 5 [] fun b1 w2 =>
 ef Pg (Builtin.append_ #[24, 24] 24 #[vS ⟨some ⟨b1, 0, none⟩, 0, 0⟩, vS a0]) [kS] w2 fun (r3 : Sl × Unit) w4 =>
 R [vS r3.1] w4)
theorem tie22 (a0 : Sl) (R : List Value → World → Prop) (w : World) : compF Pg Try.f22 ⟨[], [], [], []⟩ [vS a0] R w = sh22 a0 R w := by kernel_rfl
theorem call22 {a0 : Sl} {w : World} {K : TK [kS] → World → Prop} (h : sh22 a0 (fun vs w' => ∃ t, encK [kS] t = vs ∧ K t w') w) : cl Pg 22 [vS a0] [kS] w K := cl_of Try.func22 (tie22 ..) h
/-- (*detent/arena.Arena).Read -/
def sh12 (a0 : Option Addr) (a1 : Int) (a2 : Int) (R : List Value → World → Prop) (w : World) : Prop :=
 cl Pg 20 [.pointer a0, .int .i64 a1, .int .i64 a2] [kS, kB] w fun (r1 : Sl × Bool × Unit) w2 =>
 cs (!r1.2.1) (
 R [.slice none 0 0, .int .i64 (-17)] w2) (
 cl Pg 22 [vS r1.1] [kS] w2 fun (r3 : Sl × Unit) w4 =>
 cl Pg 21 [vS r3.1] [kS] w4 fun (r5 : Sl × Unit) w6 =>
 R [vS r5.1, .int .i64 0] w6)
theorem tie12 (a0 : Option Addr) (a1 : Int) (a2 : Int) (R : List Value → World → Prop) (w : World) : compF Pg Try.f12 ⟨[], [], [], []⟩ [.pointer a0, .int .i64 a1, .int .i64 a2] R w = sh12 a0 a1 a2 R w := by kernel_rfl
theorem call12 {a0 : Option Addr} {a1 : Int} {a2 : Int} {w : World} {K : TK [kS, kI] → World → Prop} (h : sh12 a0 a1 a2 (fun vs w' => ∃ t, encK [kS, kI] t = vs ∧ K t w') w) : cl Pg 12 [.pointer a0, .int .i64 a1, .int .i64 a2] [kS, kI] w K := cl_of Try.func12 (tie12 ..) h
/-- (*detent/arena.Arena).word -/
def sh23 (a0 : Option Addr) (a1 : Int) (R : List Value → World → Prop) (w : World) : Prop :=
 jn [kB] w (fun (t2 : Bool × Unit) w3 =>
 cs t2.1 (
 R [.slice none 0 0, .bool false] w3) (
 cl Pg 20 [.pointer a0, .int .i64 a1, .int .i64 4] [kS, kB] w3 fun (r5 : Sl × Bool × Unit) w6 =>
 R [vS r5.1, .bool r5.2.1] w6)) fun J1 w4 =>
 cs (decide ((a1 : Int) < (0 : Int))) (
 J1 (true, ()) w4) (
 J1 ((Int.tmod a1 4 : Int) != (0 : Int), ()) w4)
theorem tie23 (a0 : Option Addr) (a1 : Int) (R : List Value → World → Prop) (w : World) : compF Pg Try.f23 ⟨[], [], [], [(1, [(3, 4, ⟨[(12, kB)], [9, 10, 11]⟩)])]⟩ [.pointer a0, .int .i64 a1] R w = sh23 a0 a1 R w := by kernel_rfl
theorem call23 {a0 : Option Addr} {a1 : Int} {w : World} {K : TK [kS, kB] → World → Prop} (h : sh23 a0 a1 (fun vs w' => ∃ t, encK [kS, kB] t = vs ∧ K t w') w) : cl Pg 23 [.pointer a0, .int .i64 a1] [kS, kB] w K := cl_of Try.func23 (tie23 ..) h
/-- (*detent/arena.Arena).PutWord -/
def sh13 (a0 : Option Addr) (a1 : Int) (a2 : Int) (R : List Value → World → Prop) (w : World) : Prop :=
 cl Pg 23 [.pointer a0, .int .i64 a1] [kS, kB] w fun (r1 : Sl × Bool × Unit) w2 =>
 cs (!r1.2.1) (
 R [.int .i64 (-17)] w2) (
 lp [kI] w2 ((0 : Int), ()) fun (t3 : Int × Unit) J4 w5 =>
 cs (decide ((t3.1 : Int) < ((r1.1.len : Int) : Int))) (
 ob (0 ≤ (w64 (8 * t3.1))) (
 ix r1.1 t3.1 1 fun b6 o7 =>
 st1 w5 b6 o7 (.int .u8 (IntKind.u8.wrap (Int.fdiv a2 (2 ^ (min (w64 (8 * t3.1)).toNat 32))))) fun w8 =>
 J4 (w64 (t3.1 + 1), ()) w8)) (
 R [.int .i64 0] w5))
theorem tie13 (a0 : Option Addr) (a1 : Int) (a2 : Int) (R : List Value → World → Prop) (w : World) : compF Pg Try.f13 ⟨[(2, ⟨[(20, kI)], [9, 21, 22, 23, 24, 25, 26, 27, 28, 29, 30, 31]⟩)], [], [], []⟩ [.pointer a0, .int .i64 a1, .int .u32 a2] R w = sh13 a0 a1 a2 R w := by kernel_rfl
theorem call13 {a0 : Option Addr} {a1 : Int} {a2 : Int} {w : World} {K : TK [kI] → World → Prop} (h : sh13 a0 a1 a2 (fun vs w' => ∃ t, encK [kI] t = vs ∧ K t w') w) : cl Pg 13 [.pointer a0, .int .i64 a1, .int .u32 a2] [kI] w K := cl_of Try.func13 (tie13 ..) h
/-- (*detent/arena.Arena).Word -/
def sh14 (a0 : Option Addr) (a1 : Int) (R : List Value → World → Prop) (w : World) : Prop :=
 cl Pg 23 [.pointer a0, .int .i64 a1] [kS, kB] w fun (r1 : Sl × Bool × Unit) w2 =>
 cs (!r1.2.1) (
 R [.int .u32 0, .int .i64 (-17)] w2) (
 dr w2 fun w3 =>
 ix r1.1 0 1 fun b4 o5 =>
 ldI w3 .u8 b4 o5 fun n6 =>
 ix r1.1 1 1 fun b7 o8 =>
 ldI w3 .u8 b7 o8 fun n9 =>
 ix r1.1 2 1 fun b10 o11 =>
 ldI w3 .u8 b10 o11 fun n12 =>
 ix r1.1 3 1 fun b13 o14 =>
 ldI w3 .u8 b13 o14 fun n15 =>
 R [.int .u32 (bOr .u32 (bOr .u32 (bOr .u32 (IntKind.u32.wrap (n6)) (IntKind.u32.wrap ((IntKind.u32.wrap (n9)) * 2 ^ 8))) (IntKind.u32.wrap ((IntKind.u32.wrap (n12)) * 2 ^ 16))) (IntKind.u32.wrap ((IntKind.u32.wrap (n15)) * 2 ^ 24))), .int .i64 0] w3)
theorem tie14 (a0 : Option Addr) (a1 : Int) (R : List Value → World → Prop) (w : World) : compF Pg Try.f14 ⟨[], [], [(4, .l [(0, []), (1, []), (2, []), (3, []), (4, []), (5, []), (6, []), (7, []), (8, []), (9, []), (10, []), (11, []), (12, []), (13, []), (14, []), (15, []), (16, []), (17, []), (18, []), (19, []), (20, []), (21, []), (22, []), (23, [])])], []⟩ [.pointer a0, .int .i64 a1] R w = sh14 a0 a1 R w := by kernel_rfl
theorem call14 {a0 : Option Addr} {a1 : Int} {w : World} {K : TK [.l (.i .u32), kI] → World → Prop} (h : sh14 a0 a1 (fun vs w' => ∃ t, encK [.l (.i .u32), kI] t = vs ∧ K t w') w) : cl Pg 14 [.pointer a0, .int .i64 a1] [.l (.i .u32), kI] w K := cl_of Try.func14 (tie14 ..) h
/-- (*detent/arena.Arena).Size -/
def sh18 (a0 : Option Addr) (R : List Value → World → Prop) (w : World) : Prop :=
 nn a0 fun b1 o2 =>
 ldS w b1 o2 fun s3 =>
 R [.int .i64 (s3.len : Int)] w
theorem tie18 (a0 : Option Addr) (R : List Value → World → Prop) (w : World) : compF Pg Try.f18 ⟨[], [], [], []⟩ [.pointer a0] R w = sh18 a0 R w := by kernel_rfl
theorem call18 {a0 : Option Addr} {w : World} {K : TK [kI] → World → Prop} (h : sh18 a0 (fun vs w' => ∃ t, encK [kI] t = vs ∧ K t w') w) : cl Pg 18 [.pointer a0] [kI] w K := cl_of Try.func18 (tie18 ..) h
/-- detent/detentlaw2.known -/
def sh8  (R : List Value → World → Prop) (w : World) : Prop :=
 cl Pg 9 [.int .i64 16] [kP, kI] w fun (r1 : Option Addr × Int × Unit) w2 =>
 jn [kB] w2 (fun (t4 : Bool × Unit) w5 =>
 cs t4.1 (
 R [.bool false] w5) (
 al w5 5 [.int .u8 97, .int .u8 98] fun b7 w8 =>
 ef Pg (convert 24 24 (vS ⟨some ⟨b7, 0, none⟩, 2, 2⟩)) [kS] w8 fun (r9 : Sl × Unit) w10 =>
 al w10 5 [.int .u8 99] fun b11 w12 =>
 ef Pg (convert 24 24 (vS ⟨some ⟨b11, 0, none⟩, 1, 1⟩)) [kS] w12 fun (r13 : Sl × Unit) w14 =>
 al w14 24 [vS r9.1, vS r13.1] fun b15 w16 =>
 cl Pg 10 [.pointer r1.1, .int .i64 4, vS ⟨some ⟨b15, 0, none⟩, 2, 2⟩] [kI] w16 fun (r17 : Int × Unit) w18 =>
 cl Pg 12 [.pointer r1.1, .int .i64 3, .int .i64 5] [kS, kI] w18 fun (r19 : Sl × Int × Unit) w20 =>
 cl Pg 13 [.pointer r1.1, .int .i64 8, .int .u32 16909060] [kI] w20 fun (r21 : Int × Unit) w22 =>
 cl Pg 14 [.pointer r1.1, .int .i64 8] [.l (.i .u32), kI] w22 fun (r23 : Int × Int × Unit) w24 =>
 cl Pg 14 [.pointer r1.1, .int .i64 9] [.l (.i .u32), kI] w24 fun (r25 : Int × Int × Unit) w26 =>
 jn [kB] w26 (fun (t28 : Bool × Unit) w29 =>
 jn [kB] w29 (fun (t32 : Bool × Unit) w33 =>
 jn [kB] w33 (fun (t36 : Bool × Unit) w37 =>
 jn [kB] w37 (fun (t40 : Bool × Unit) w41 =>
 jn [kB] w41 (fun (t44 : Bool × Unit) w45 =>
 R [.bool t44.1] w45) fun J43 w46 =>
 cs t40.1 (
 cl Pg 11 [.pointer r1.1] [kI] w46 fun (r47 : Int × Unit) w48 =>
 J43 ((r47.1 : Int) == (16 : Int), ()) w48) (
 J43 (false, ()) w46)) fun J39 w42 =>
 cs t36.1 (
 cl Pg 18 [.pointer r1.1] [kI] w42 fun (r49 : Int × Unit) w50 =>
 J39 ((r49.1 : Int) == (16 : Int), ()) w50) (
 J39 (false, ()) w42)) fun J35 w38 =>
 cs t32.1 (
 J35 ((r25.2.1 : Int) == ((-17) : Int), ()) w38) (
 J35 (false, ()) w38)) fun J31 w34 =>
 cs t28.1 (
 J31 ((r23.1 : Int) == (16909060 : Int), ()) w34) (
 J31 (false, ()) w34)) fun J27 w30 =>
 cs ((w64 ((w64 ((w64 (r17.1 + r19.2.1)) + r21.1)) + r23.2.1) : Int) == (0 : Int)) (
 tx Pg 24 9 (vS r19.1) w30 fun g51 =>
 J27 (g51.toList == (bs [0, 97, 98, 99, 0]).toList, ()) w30) (
 J27 (false, ()) w30))) fun J3 w6 =>
 cs ((r1.2.1 : Int) != (0 : Int)) (
 J3 (true, ()) w6) (
 J3 (r1.1.isNone, ()) w6)
theorem tie8  (R : List Value → World → Prop) (w : World) : compF Pg Try.f8 ⟨[], [], [], [(2, [(3, 3, ⟨[(20, kB)], [18, 19]⟩)]), (9, [(9, 4, ⟨[(57, kB)], [54, 55, 56]⟩), (14, 3, ⟨[(61, kB)], [59, 60]⟩), (18, 3, ⟨[(65, kB)], [63, 64]⟩), (22, 4, ⟨[(70, kB)], [67, 68, 69]⟩), (27, 4, ⟨[(75, kB)], [72, 73, 74]⟩)])]⟩ [] R w = sh8  R w := by kernel_rfl
theorem call8  {w : World} {K : TK [kB] → World → Prop} (h : sh8  (fun vs w' => ∃ t, encK [kB] t = vs ∧ K t w') w) : cl Pg 8 [] [kB] w K := cl_of Try.func8 (tie8 ..) h
/-- detent/detentlaw2.ArenaParts -/
def sh3 (a0 : Sl) (a1 : Int) (R : List Value → World → Prop) (w : World) : Prop :=
 cl Pg 8 [] [kB] w fun (r1 : Bool × Unit) w2 =>
 cs (!r1.1) (
 R [.bool false] w2) (
 jn [kB] w2 (fun (t4 : Bool × Unit) w5 =>
 jn [kB] w5 (fun (t8 : Bool × Unit) w9 =>
 cs t8.1 (
 R [.bool true] w9) (
 lp [kS, kI] w9 (⟨none, 0, 0⟩, (0 : Int), ()) fun (t11 : Sl × Int × Unit) J12 w13 =>
 cs (decide ((t11.2.1 : Int) < ((a0.len : Int) : Int))) (
 ix a0 t11.2.1 1 fun b14 o15 =>
 ldS w13 b14 o15 fun s16 =>
 cs (decide (((s16.len : Int) : Int) > (100 : Int))) (
 R [.bool true] w13) (
 ix a0 t11.2.1 1 fun b17 o18 =>
 ldS w13 b17 o18 fun s19 =>
 ef Pg (Builtin.append_ #[24, 24] 24 #[vS t11.1, vS s19]) [kS] w13 fun (r20 : Sl × Unit) w21 =>
 J12 (r20.1, w64 (t11.2.1 + 1), ()) w21)) (
 cl Pg 9 [.int .i64 2500] [kP, kI] w13 fun (r22 : Option Addr × Int × Unit) w23 =>
 cl Pg 9 [.int .i64 2500] [kP, kI] w23 fun (r24 : Option Addr × Int × Unit) w25 =>
 cl Pg 10 [.pointer r22.1, .int .i64 a1, vS a0] [kI] w25 fun (r26 : Int × Unit) w27 =>
 al w27 24 [vS t11.1] fun b28 w29 =>
 cl Pg 10 [.pointer r24.1, .int .i64 a1, vS ⟨some ⟨b28, 0, none⟩, 1, 1⟩] [kI] w29 fun (r30 : Int × Unit) w31 =>
 jn [kB] w31 (fun (t33 : Bool × Unit) w34 =>
 jn [kB] w34 (fun (t37 : Bool × Unit) w38 =>
 jn [kB] w38 (fun (t41 : Bool × Unit) w42 =>
 cs t41.1 (
 R [.bool false] w42) (
 cl Pg 12 [.pointer r22.1, .int .i64 0, .int .i64 2500] [kS, kI] w42 fun (r44 : Sl × Int × Unit) w45 =>
 cl Pg 12 [.pointer r24.1, .int .i64 0, .int .i64 2500] [kS, kI] w45 fun (r46 : Sl × Int × Unit) w47 =>
 dr w47 fun w48 =>
 jn [kB] w48 (fun (t50 : Bool × Unit) w51 =>
 R [.bool t50.1] w51) fun J49 w52 =>
 tx Pg 24 9 (vS r44.1) w52 fun g53 =>
 tx Pg 24 9 (vS r46.1) w52 fun g54 =>
 cs (g53.toList == g54.toList) (
 sb r44.1 a1 (w64 (a1 + (t11.1.len : Int))) r44.1.cap 1 fun s55 =>
 tx Pg 24 9 (vS s55) w52 fun g56 =>
 tx Pg 24 9 (vS t11.1) w52 fun g57 =>
 J49 (g56.toList == g57.toList, ()) w52) (
 J49 (false, ()) w52))) fun J40 w43 =>
 cs t37.1 (
 J40 (true, ()) w43) (
 cl Pg 11 [.pointer r22.1] [kI] w43 fun (r58 : Int × Unit) w59 =>
 J40 ((r58.1 : Int) != ((t11.1.len : Int) : Int), ()) w59)) fun J36 w39 =>
 cs t33.1 (
 J36 (true, ()) w39) (
 cl Pg 11 [.pointer r22.1] [kI] w39 fun (r60 : Int × Unit) w61 =>
 cl Pg 11 [.pointer r24.1] [kI] w61 fun (r62 : Int × Unit) w63 =>
 J36 ((r60.1 : Int) != (r62.1 : Int), ()) w63)) fun J32 w35 =>
 cs ((r26.1 : Int) != (0 : Int)) (
 J32 (true, ()) w35) (
 J32 ((r30.1 : Int) != (0 : Int), ()) w35)))) fun J7 w10 =>
 cs t4.1 (
 J7 (true, ()) w10) (
 J7 (decide ((a1 : Int) > (500 : Int)), ()) w10)) fun J3 w6 =>
 cs (decide (((a0.len : Int) : Int) > (20 : Int))) (
 J3 (true, ()) w6) (
 J3 (decide ((a1 : Int) < (0 : Int)), ()) w6))
theorem tie3 (a0 : Sl) (a1 : Int) (R : List Value → World → Prop) (w : World) : compF Pg Try.f3 ⟨[(3, ⟨[(5, kS), (6, kI)], [4, 30, 31, 32, 33, 34, 35, 36, 37, 38, 39, 40, 41, 42, 43, 44, 45, 46, 47]⟩)], [(20, ⟨[(4, kB)], [95, 96, 97, 98, 99, 100, 101, 102, 103, 104, 105, 106, 107, 108, 109, 110, 111, 112]⟩)], [(20, .l [(0, []), (1, []), (2, []), (3, []), (4, []), (5, []), (6, []), (7, []), (8, []), (9, []), (10, []), (11, []), (12, []), (13, []), (14, []), (15, []), (16, []), (17, []), (18, [])])], [(3, [(4, 3, ⟨[(25, kB)], [23, 24]⟩), (8, 3, ⟨[(29, kB)], [27, 28]⟩)]), (16, [(3, 3, ⟨[(70, kB)], [68, 69]⟩), (7, 6, ⟨[(77, kB)], [72, 73, 74, 75, 76]⟩), (14, 6, ⟨[(84, kB)], [79, 80, 81, 82, 83]⟩)])]⟩ [vS a0, .int .i64 a1] R w = sh3 a0 a1 R w := by kernel_rfl
theorem call3 {a0 : Sl} {a1 : Int} {w : World} {K : TK [kB] → World → Prop} (h : sh3 a0 a1 (fun vs w' => ∃ t, encK [kB] t = vs ∧ K t w') w) : cl Pg 3 [vS a0, .int .i64 a1] [kB] w K := cl_of Try.func3 (tie3 ..) h
/-- detent/detentlaw2.ArenaWords -/
def sh4 (a0 : Sl) (a1 : Sl) (R : List Value → World → Prop) (w : World) : Prop :=
 cl Pg 8 [] [kB] w fun (r1 : Bool × Unit) w2 =>
 cs (!r1.1) (
 R [.bool false] w2) (
 jn [kB] w2 (fun (t4 : Bool × Unit) w5 =>
 cs t4.1 (
 R [.bool true] w5) (
 cl Pg 9 [.int .i64 1024] [kP, kI] w5 fun (r7 : Option Addr × Int × Unit) w8 =>
 al w8 36 [.int .u32 0, .int .u32 0, .int .u32 0, .int .u32 0, .int .u32 0, .int .u32 0, .int .u32 0, .int .u32 0, .int .u32 0, .int .u32 0, .int .u32 0, .int .u32 0, .int .u32 0, .int .u32 0, .int .u32 0, .int .u32 0, .int .u32 0, .int .u32 0, .int .u32 0, .int .u32 0, .int .u32 0, .int .u32 0, .int .u32 0, .int .u32 0, .int .u32 0, .int .u32 0, .int .u32 0, .int .u32 0, .int .u32 0, .int .u32 0, .int .u32 0, .int .u32 0, .int .u32 0, .int .u32 0, .int .u32 0, .int .u32 0, .int .u32 0, .int .u32 0, .int .u32 0, .int .u32 0, .int .u32 0, .int .u32 0, .int .u32 0, .int .u32 0, .int .u32 0, .int .u32 0, .int .u32 0, .int .u32 0, .int .u32 0, .int .u32 0, .int .u32 0, .int .u32 0, .int .u32 0, .int .u32 0, .int .u32 0, .int .u32 0, .int .u32 0, .int .u32 0, .int .u32 0, .int .u32 0, .int .u32 0, .int .u32 0, .int .u32 0, .int .u32 0, .int .u32 0, .int .u32 0, .int .u32 0, .int .u32 0, .int .u32 0, .int .u32 0, .int .u32 0, .int .u32 0, .int .u32 0, .int .u32 0, .int .u32 0, .int .u32 0, .int .u32 0, .int .u32 0, .int .u32 0, .int .u32 0, .int .u32 0, .int .u32 0, .int .u32 0, .int .u32 0, .int .u32 0, .int .u32 0, .int .u32 0, .int .u32 0, .int .u32 0, .int .u32 0, .int .u32 0, .int .u32 0, .int .u32 0, .int .u32 0, .int .u32 0, .int .u32 0, .int .u32 0, .int .u32 0, .int .u32 0, .int .u32 0, .int .u32 0, .int .u32 0, .int .u32 0, .int .u32 0, .int .u32 0, .int .u32 0, .int .u32 0, .int .u32 0, .int .u32 0, .int .u32 0, .int .u32 0, .int .u32 0, .int .u32 0, .int .u32 0, .int .u32 0, .int .u32 0, .int .u32 0, .int .u32 0, .int .u32 0, .int .u32 0, .int .u32 0, .int .u32 0, .int .u32 0, .int .u32 0, .int .u32 0, .int .u32 0, .int .u32 0, .int .u32 0, .int .u32 0, .int .u32 0, .int .u32 0, .int .u32 0, .int .u32 0, .int .u32 0, .int .u32 0, .int .u32 0, .int .u32 0, .int .u32 0, .int .u32 0, .int .u32 0, .int .u32 0, .int .u32 0, .int .u32 0, .int .u32 0, .int .u32 0, .int .u32 0, .int .u32 0, .int .u32 0, .int .u32 0, .int .u32 0, .int .u32 0, .int .u32 0, .int .u32 0, .int .u32 0, .int .u32 0, .int .u32 0, .int .u32 0, .int .u32 0, .int .u32 0, .int .u32 0, .int .u32 0, .int .u32 0, .int .u32 0, .int .u32 0, .int .u32 0, .int .u32 0, .int .u32 0, .int .u32 0, .int .u32 0, .int .u32 0, .int .u32 0, .int .u32 0, .int .u32 0, .int .u32 0, .int .u32 0, .int .u32 0, .int .u32 0, .int .u32 0, .int .u32 0, .int .u32 0, .int .u32 0, .int .u32 0, .int .u32 0, .int .u32 0, .int .u32 0, .int .u32 0, .int .u32 0, .int .u32 0, .int .u32 0, .int .u32 0, .int .u32 0, .int .u32 0, .int .u32 0, .int .u32 0, .int .u32 0, .int .u32 0, .int .u32 0, .int .u32 0, .int .u32 0, .int .u32 0, .int .u32 0, .int .u32 0, .int .u32 0, .int .u32 0, .int .u32 0, .int .u32 0, .int .u32 0, .int .u32 0, .int .u32 0, .int .u32 0, .int .u32 0, .int .u32 0, .int .u32 0, .int .u32 0, .int .u32 0, .int .u32 0, .int .u32 0, .int .u32 0, .int .u32 0, .int .u32 0, .int .u32 0, .int .u32 0, .int .u32 0, .int .u32 0, .int .u32 0, .int .u32 0, .int .u32 0, .int .u32 0, .int .u32 0, .int .u32 0, .int .u32 0, .int .u32 0, .int .u32 0, .int .u32 0, .int .u32 0, .int .u32 0, .int .u32 0, .int .u32 0, .int .u32 0, .int .u32 0, .int .u32 0, .int .u32 0, .int .u32 0, .int .u32 0, .int .u32 0, .int .u32 0, .int .u32 0, .int .u32 0, .int .u32 0, .int .u32 0, .int .u32 0, .int .u32 0, .int .u32 0, .int .u32 0, .int .u32 0, .int .u32 0] fun b9 w10 =>
 lp [kI] w10 ((0 : Int), ()) fun (t11 : Int × Unit) J12 w13 =>
 cs (decide ((t11.1 : Int) < ((a0.len : Int) : Int))) (
 dr w13 fun w14 =>
 ix a0 t11.1 1 fun b15 o16 =>
 ldI w14 .u8 b15 o16 fun n17 =>
 ix a1 t11.1 1 fun b18 o19 =>
 ldI w14 .u32 b18 o19 fun n20 =>
 cl Pg 13 [.pointer r7.1, .int .i64 (w64 (4 * (w64 (n17)))), .int .u32 n20] [kI] w14 fun (r21 : Int × Unit) w22 =>
 cs ((r21.1 : Int) != (0 : Int)) (
 R [.bool false] w22) (
 dr w22 fun w23 =>
 ix a0 t11.1 1 fun b24 o25 =>
 ldI w23 .u8 b24 o25 fun n26 =>
 ix a1 t11.1 1 fun b27 o28 =>
 ldI w23 .u32 b27 o28 fun n29 =>
 ixA b9 0 256 n26 1 fun b30 o31 =>
 st1 w23 b30 o31 (.int .u32 n29) fun w32 =>
 J12 (w64 (t11.1 + 1), ()) w32)) (
 lp [kI] w13 ((0 : Int), ()) fun (t33 : Int × Unit) J34 w35 =>
 cs (decide ((t33.1 : Int) < (256 : Int))) (
 cl Pg 14 [.pointer r7.1, .int .i64 (w64 (4 * t33.1))] [.l (.i .u32), kI] w35 fun (r36 : Int × Int × Unit) w37 =>
 cl Pg 12 [.pointer r7.1, .int .i64 (w64 (4 * t33.1)), .int .i64 4] [kS, kI] w37 fun (r38 : Sl × Int × Unit) w39 =>
 jn [kB] w39 (fun (t41 : Bool × Unit) w42 =>
 jn [kB] w42 (fun (t45 : Bool × Unit) w46 =>
 jn [kB] w46 (fun (t49 : Bool × Unit) w50 =>
 jn [kB] w50 (fun (t53 : Bool × Unit) w54 =>
 cs t53.1 (
 R [.bool false] w54) (
 J34 (w64 (t33.1 + 1), ()) w54)) fun J52 w55 =>
 cs t49.1 (
 J52 (true, ()) w55) (
 ix r38.1 3 1 fun b56 o57 =>
 ldI w55 .u8 b56 o57 fun n58 =>
 J52 ((n58 : Int) != (IntKind.u8.wrap (Int.fdiv r36.1 (2 ^ 24)) : Int), ()) w55)) fun J48 w51 =>
 cs t45.1 (
 J48 (true, ()) w51) (
 ix r38.1 0 1 fun b59 o60 =>
 ldI w51 .u8 b59 o60 fun n61 =>
 J48 ((n61 : Int) != (IntKind.u8.wrap (r36.1) : Int), ()) w51)) fun J44 w47 =>
 cs t41.1 (
 J44 (true, ()) w47) (
 J44 (((r38.1.len : Int) : Int) != (4 : Int), ()) w47)) fun J40 w43 =>
 cs ((w64 (r36.2.1 + r38.2.1) : Int) != (0 : Int)) (
 J40 (true, ()) w43) (
 ixA b9 0 256 t33.1 1 fun b62 o63 =>
 ldI w43 .u32 b62 o63 fun n64 =>
 J40 ((r36.1 : Int) != (n64 : Int), ()) w43)) (
 R [.bool true] w35)))) fun J3 w6 =>
 cs (decide (((a0.len : Int) : Int) > (100 : Int))) (
 J3 (true, ()) w6) (
 J3 (decide (((a1.len : Int) : Int) < ((a0.len : Int) : Int)), ()) w6))
theorem tie4 (a0 : Sl) (a1 : Sl) (R : List Value → World → Prop) (w : World) : compF Pg Try.f4 ⟨[(3, ⟨[(8, kI)], [4, 30, 31, 32, 33, 34, 35, 36, 37, 38, 39, 40, 41, 42, 43, 44, 45, 46, 47, 48, 49, 50, 51, 52, 53, 54, 55, 56, 57]⟩), (8, ⟨[(9, kI)], [4, 10, 11, 12, 13, 58, 59, 60, 61, 62, 63, 64, 65, 66, 67, 68, 69, 70, 71, 72, 73, 74, 75, 76, 77, 78, 79, 80, 81, 82, 83, 84, 85, 86, 87, 88, 89, 90, 91, 92, 93, 94, 95, 96, 97, 98, 99, 100, 101, 102, 103, 104, 105, 106, 107, 108]⟩)], [], [(10, .l [(0, []), (1, []), (2, []), (3, []), (4, []), (5, []), (6, []), (7, []), (8, []), (9, []), (10, []), (11, [0, 6, 10, 5, 9, 4, 7, 8, 3, 1, 2]), (12, [])]), (12, .l [(0, []), (1, []), (2, []), (3, []), (4, []), (5, []), (6, []), (7, []), (8, []), (9, [8, 7, 0, 1, 2, 3, 4, 5, 6])])], [(3, [(4, 6, ⟨[(25, kB)], [20, 21, 22, 23, 24]⟩)]), (18, [(5, 6, ⟨[(86, kB)], [81, 82, 83, 84, 85]⟩), (12, 4, ⟨[(91, kB)], [88, 89, 90]⟩), (17, 7, ⟨[(99, kB)], [93, 94, 95, 96, 97, 98]⟩), (25, 8, ⟨[(108, kB)], [101, 102, 103, 104, 105, 106, 107]⟩)])]⟩ [vS a0, vS a1] R w = sh4 a0 a1 R w := by kernel_rfl
theorem call4 {a0 : Sl} {a1 : Sl} {w : World} {K : TK [kB] → World → Prop} (h : sh4 a0 a1 (fun vs w' => ∃ t, encK [kB] t = vs ∧ K t w') w) : cl Pg 4 [vS a0, vS a1] [kB] w K := cl_of Try.func4 (tie4 ..) h
/-- (*detent/arena.Arena).Fill -/
def sh15 (a0 : Option Addr) (a1 : Int) (a2 : Int) (a3 : Int) (R : List Value → World → Prop) (w : World) : Prop :=
 cl Pg 20 [.pointer a0, .int .i64 a1, .int .i64 a2] [kS, kB] w fun (r1 : Sl × Bool × Unit) w2 =>
 cs (!r1.2.1) (
 R [.int .i64 (-17)] w2) (
 lp [kI] w2 ((0 : Int), ()) fun (t3 : Int × Unit) J4 w5 =>
 cs (decide ((t3.1 : Int) < ((r1.1.len : Int) : Int))) (
 ix r1.1 t3.1 1 fun b6 o7 =>
 st1 w5 b6 o7 (.int .u8 a3) fun w8 =>
 J4 (w64 (t3.1 + 1), ()) w8) (
 R [.int .i64 0] w5))
theorem tie15 (a0 : Option Addr) (a1 : Int) (a2 : Int) (a3 : Int) (R : List Value → World → Prop) (w : World) : compF Pg Try.f15 ⟨[(2, ⟨[(23, kI)], [11, 24, 25, 26, 27, 28, 29, 30]⟩)], [], [], []⟩ [.pointer a0, .int .i64 a1, .int .i64 a2, .int .u8 a3] R w = sh15 a0 a1 a2 a3 R w := by kernel_rfl
theorem call15 {a0 : Option Addr} {a1 : Int} {a2 : Int} {a3 : Int} {w : World} {K : TK [kI] → World → Prop} (h : sh15 a0 a1 a2 a3 (fun vs w' => ∃ t, encK [kI] t = vs ∧ K t w') w) : cl Pg 15 [.pointer a0, .int .i64 a1, .int .i64 a2, .int .u8 a3] [kI] w K := cl_of Try.func15 (tie15 ..) h
/-- detent/detentlaw2.ArenaEdges -/
def sh5 (a0 : Int) (a1 : Int) (a2 : Int) (R : List Value → World → Prop) (w : World) : Prop :=
 cl Pg 8 [] [kB] w fun (r1 : Bool × Unit) w2 =>
 cs (!r1.1) (
 R [.bool false] w2) (
 jn [kB] w2 (fun (t4 : Bool × Unit) w5 =>
 jn [kB] w5 (fun (t8 : Bool × Unit) w9 =>
 jn [kB] w9 (fun (t12 : Bool × Unit) w13 =>
 cs t12.1 (
 R [.bool true] w13) (
 cl Pg 9 [.int .i64 a0] [kP, kI] w13 fun (r15 : Option Addr × Int × Unit) w16 =>
 ef Pg (Instr.makeSlice 24 (.int .i64 a1) (.int .i64 a1)) [kS] w16 fun (r17 : Sl × Unit) w18 =>
 lp [kI] w18 ((0 : Int), ()) fun (t19 : Int × Unit) J20 w21 =>
 cs (decide ((t19.1 : Int) < (a1 : Int))) (
 ix r17.1 t19.1 1 fun b22 o23 =>
 st1 w21 b22 o23 (.int .u8 (bOr .u8 a2 1)) fun w24 =>
 J20 (w64 (t19.1 + 1), ()) w24) (
 al w21 24 [vS r17.1] fun b25 w26 =>
 cl Pg 10 [.pointer r15.1, .int .i64 (w64 (a0 - a1)), vS ⟨some ⟨b25, 0, none⟩, 1, 1⟩] [kI] w26 fun (r27 : Int × Unit) w28 =>
 al w28 24 [vS r17.1] fun b29 w30 =>
 cl Pg 10 [.pointer r15.1, .int .i64 (w64 ((w64 (a0 - a1)) + 1)), vS ⟨some ⟨b29, 0, none⟩, 1, 1⟩] [kI] w30 fun (r31 : Int × Unit) w32 =>
 cl Pg 15 [.pointer r15.1, .int .i64 a0, .int .i64 0, .int .u8 a2] [kI] w32 fun (r33 : Int × Unit) w34 =>
 cl Pg 15 [.pointer r15.1, .int .i64 a0, .int .i64 1, .int .u8 a2] [kI] w34 fun (r35 : Int × Unit) w36 =>
 cs (decide ((a1 : Int) > (a0 : Int))) (
 jn [kB] w36 (fun (t38 : Bool × Unit) w39 =>
 R [.bool t38.1] w39) fun J37 w40 =>
 cs ((r27.1 : Int) == ((-17) : Int)) (
 cl Pg 11 [.pointer r15.1] [kI] w40 fun (r41 : Int × Unit) w42 =>
 J37 ((r41.1 : Int) == (0 : Int), ()) w42) (
 J37 (false, ()) w40)) (
 jn [kB] w36 (fun (t44 : Bool × Unit) w45 =>
 jn [kB] w45 (fun (t48 : Bool × Unit) w49 =>
 jn [kB] w49 (fun (t52 : Bool × Unit) w53 =>
 cs t52.1 (
 R [.bool false] w53) (
 cl Pg 12 [.pointer r15.1, .int .i64 (w64 (a0 - a1)), .int .i64 a1] [kS, kI] w53 fun (r55 : Sl × Int × Unit) w56 =>
 jn [kB] w56 (fun (t58 : Bool × Unit) w59 =>
 R [.bool t58.1] w59) fun J57 w60 =>
 cs ((r55.2.1 : Int) == (0 : Int)) (
 tx Pg 24 9 (vS r55.1) w60 fun g61 =>
 tx Pg 24 9 (vS r17.1) w60 fun g62 =>
 J57 (g61.toList == g62.toList, ()) w60) (
 J57 (false, ()) w60))) fun J51 w54 =>
 cs t48.1 (
 J51 (true, ()) w54) (
 J51 ((r35.1 : Int) != ((-17) : Int), ()) w54)) fun J47 w50 =>
 cs t44.1 (
 J47 (true, ()) w50) (
 J47 ((r33.1 : Int) != (0 : Int), ()) w50)) fun J43 w46 =>
 cs ((r27.1 : Int) != (0 : Int)) (
 J43 (true, ()) w46) (
 J43 ((r31.1 : Int) != ((-17) : Int), ()) w46))))) fun J11 w14 =>
 cs t8.1 (
 J11 (true, ()) w14) (
 J11 (decide ((a1 : Int) > (500 : Int)), ()) w14)) fun J7 w10 =>
 cs t4.1 (
 J7 (true, ()) w10) (
 J7 (decide ((a1 : Int) < (0 : Int)), ()) w10)) fun J3 w6 =>
 cs (decide ((a0 : Int) < (0 : Int))) (
 J3 (true, ()) w6) (
 J3 (decide ((a0 : Int) > (500 : Int)), ()) w6))
theorem tie5 (a0 : Int) (a1 : Int) (a2 : Int) (R : List Value → World → Prop) (w : World) : compF Pg Try.f5 ⟨[(3, ⟨[(10, kI)], [40, 41, 42, 43, 44, 45, 46, 47, 48, 49]⟩)], [], [], [(3, [(3, 3, ⟨[(24, kB)], [22, 23]⟩), (7, 3, ⟨[(28, kB)], [26, 27]⟩), (11, 3, ⟨[(32, kB)], [30, 31]⟩)]), (16, [(3, 4, ⟨[(82, kB)], [79, 80, 81]⟩)]), (17, [(3, 3, ⟨[(88, kB)], [86, 87]⟩), (7, 3, ⟨[(92, kB)], [90, 91]⟩), (11, 3, ⟨[(96, kB)], [94, 95]⟩)]), (20, [(3, 6, ⟨[(114, kB)], [109, 110, 111, 112, 113]⟩)])]⟩ [.int .i64 a0, .int .i64 a1, .int .u8 a2] R w = sh5 a0 a1 a2 R w := by kernel_rfl
theorem call5 {a0 : Int} {a1 : Int} {a2 : Int} {w : World} {K : TK [kB] → World → Prop} (h : sh5 a0 a1 a2 (fun vs w' => ∃ t, encK [kB] t = vs ∧ K t w') w) : cl Pg 5 [.int .i64 a0, .int .i64 a1, .int .u8 a2] [kB] w K := cl_of Try.func5 (tie5 ..) h
/-- detent/detentlaw2.in -/
def sh16 (a0 : Int) (a1 : Int) (a2 : Int) (R : List Value → World → Prop) (w : World) : Prop :=
 jn [kB] w (fun (t2 : Bool × Unit) w3 =>
 jn [kB] w3 (fun (t6 : Bool × Unit) w7 =>
 jn [kB] w7 (fun (t10 : Bool × Unit) w11 =>
 R [.bool t10.1] w11) fun J9 w12 =>
 cs t6.1 (
 J9 (decide ((a1 : Int) ≤ (w64 (a2 - a0) : Int)), ()) w12) (
 J9 (false, ()) w12)) fun J5 w8 =>
 cs t2.1 (
 J5 (decide ((a0 : Int) ≤ (a2 : Int)), ()) w8) (
 J5 (false, ()) w8)) fun J1 w4 =>
 cs (decide ((a0 : Int) ≥ (0 : Int))) (
 J1 (decide ((a1 : Int) ≥ (0 : Int)), ()) w4) (
 J1 (false, ()) w4)
theorem tie16 (a0 : Int) (a1 : Int) (a2 : Int) (R : List Value → World → Prop) (w : World) : compF Pg Try.f16 ⟨[], [], [], [(1, [(3, 3, ⟨[(12, kB)], [10, 11]⟩), (7, 4, ⟨[(17, kB)], [14, 15, 16]⟩), (12, 6, ⟨[(24, kB)], [19, 20, 21, 22, 23]⟩)])]⟩ [.int .i64 a0, .int .i64 a1, .int .i64 a2] R w = sh16 a0 a1 a2 R w := by kernel_rfl
theorem call16 {a0 : Int} {a1 : Int} {a2 : Int} {w : World} {K : TK [kB] → World → Prop} (h : sh16 a0 a1 a2 (fun vs w' => ∃ t, encK [kB] t = vs ∧ K t w') w) : cl Pg 16 [.int .i64 a0, .int .i64 a1, .int .i64 a2] [kB] w K := cl_of Try.func16 (tie16 ..) h
/-- (*detent/arena.Arena).Twin -/
def sh17 (a0 : Option Addr) (R : List Value → World → Prop) (w : World) : Prop :=
 dr w fun w1 =>
 nn a0 fun b2 o3 =>
 ldS w1 b2 o3 fun s4 =>
 nn a0 fun b5 o6 =>
 ldI w1 .i64 b5 (o6 + 1) fun n7 =>
 cl Pg 22 [vS s4] [kS] w1 fun (r8 : Sl × Unit) w9 =>
(w9.cell? ⟨b5, o6 + 1, none⟩ = some (.int .i64 n7)) ∧ (
 al w9 52 [vS r8.1, .int .i64 n7] fun b10 w11 =>
 R [.pointer (some ⟨b10, 0, none⟩)] w11)
theorem tie17 (a0 : Option Addr) (R : List Value → World → Prop) (w : World) : compF Pg Try.f17 ⟨[], [], [(1, .l [(0, []), (1, []), (2, []), (3, []), (5, []), (6, []), (7, []), (8, []), (4, [3, 2, 1, 0]), (9, []), (10, [9, 4, 8, 3, 7, 2, 6, 1, 5, 0]), (11, [])])], []⟩ [.pointer a0] R w = sh17 a0 R w := by kernel_rfl
theorem call17 {a0 : Option Addr} {w : World} {K : TK [kP] → World → Prop} (h : sh17 a0 (fun vs w' => ∃ t, encK [kP] t = vs ∧ K t w') w) : cl Pg 17 [.pointer a0] [kP] w K := cl_of Try.func17 (tie17 ..) h
/-- detent/detentlaw2.ArenaPlays -/
def sh6 (a0 : Int) (a1 : Sl) (R : List Value → World → Prop) (w : World) : Prop :=
 cl Pg 8 [] [kB] w fun (r1 : Bool × Unit) w2 =>
 cs (!r1.1) (
 R [.bool false] w2) (
 jn [kB] w2 (fun (t4 : Bool × Unit) w5 =>
 cs t4.1 (
 R [.bool true] w5) (
 cl Pg 9 [.int .i64 a0] [kP, kI] w5 fun (r7 : Option Addr × Int × Unit) w8 =>
 jn [kB] w8 (fun (t10 : Bool × Unit) w11 =>
 jn [kB] w11 (fun (t14 : Bool × Unit) w15 =>
 cs t14.1 (
 R [.bool false] w15) (
 cs r7.1.isNone (
 R [.bool ((r7.2.1 : Int) == ((-17) : Int))] w15) (
 ef Pg (Instr.makeSlice 24 (.int .i64 a0) (.int .i64 a0)) [kS] w15 fun (r17 : Sl × Unit) w18 =>
 lp [kP, kI, kI] w18 (r7.1, (0 : Int), (0 : Int), ()) fun (t19 : Option Addr × Int × Int × Unit) J20 w21 =>
 cs (decide ((t19.2.2.1 : Int) < ((a1.len : Int) : Int))) (
 ix a1 t19.2.2.1 5 fun b22 o23 =>
 ldI w21 .i64 b22 o23 fun n24 =>
 ldI w21 .i64 b22 (o23 + 1) fun n25 =>
 ldI w21 .i64 b22 (o23 + 2) fun n26 =>
 ldS w21 b22 (o23 + 3) fun s27 =>
 ldI w21 .u32 b22 (o23 + 4) fun n28 =>
 al w21 46 [.int .i64 0, .int .i64 0, .int .i64 0, .slice none 0 0, .int .u32 0] fun b29 w30 =>
 st1 w30 b29 0 (.int .i64 n24) fun w31 =>
 st1 w31 b29 (0 + 1) (.int .i64 n25) fun w32 =>
 st1 w32 b29 (0 + 2) (.int .i64 n26) fun w33 =>
 st1 w33 b29 (0 + 3) (vS s27) fun w34 =>
 st1 w34 b29 (0 + 4) (.int .u32 n28) fun w35 =>
 ldI w35 .i64 b29 0 fun n36 =>
 jn [kP, kI] w35 (fun (t38 : Option Addr × Int × Unit) w39 =>
 cl Pg 11 [.pointer t38.1] [kI] w39 fun (r41 : Int × Unit) w42 =>
 jn [kB] w42 (fun (t44 : Bool × Unit) w45 =>
 cs t44.1 (
 R [.bool false] w45) (
 J20 (t38.1, t38.2.1, w64 (t19.2.2.1 + 1), ()) w45)) fun J43 w46 =>
 cs ((r41.1 : Int) != (t38.2.1 : Int)) (
 J43 (true, ()) w46) (
 cl Pg 18 [.pointer t38.1] [kI] w46 fun (r47 : Int × Unit) w48 =>
 J43 ((r47.1 : Int) != (a0 : Int), ()) w48)) fun J37 w40 =>
 cs ((n36 : Int) == (1 : Int)) (
 ldI w40 .i64 b29 (0 + 1) fun n49 =>
 ldI w40 .i64 b29 (0 + 2) fun n50 =>
 cl Pg 12 [.pointer t19.1, .int .i64 n49, .int .i64 n50] [kS, kI] w40 fun (r51 : Sl × Int × Unit) w52 =>
 ldI w52 .i64 b29 (0 + 1) fun n53 =>
 ldI w52 .i64 b29 (0 + 2) fun n54 =>
 cl Pg 16 [.int .i64 n53, .int .i64 n54, .int .i64 a0] [kB] w52 fun (r55 : Bool × Unit) w56 =>
 jn [kB] w56 (fun (t58 : Bool × Unit) w59 =>
 cs t58.1 (
 R [.bool false] w59) (
 jn [kI] w59 (fun (t62 : Int × Unit) w63 =>
 J37 (t19.1, t62.1, ()) w63) fun J61 w65 =>
 cs ((r51.2.1 : Int) == (0 : Int)) (
 ldI w65 .i64 b29 (0 + 2) fun n66 =>
 dr w65 fun w67 =>
 tx Pg 24 9 (vS r51.1) w67 fun g68 =>
 ldI w67 .i64 b29 (0 + 1) fun n69 =>
 ldI w67 .i64 b29 (0 + 1) fun n70 =>
 ldI w67 .i64 b29 (0 + 2) fun n71 =>
 sb r17.1 n69 (w64 (n70 + n71)) r17.1.cap 1 fun s72 =>
 tx Pg 24 9 (vS s72) w67 fun g73 =>
 cs (!(g68.toList == g73.toList)) (
 R [.bool false] w67) (
 J61 (w64 (t19.2.1 + n66), ()) w67)) (
 J61 (t19.2.1, ()) w65))) fun J57 w60 =>
 cs (!(((r51.2.1 : Int) == (0 : Int)) == r55.1)) (
 J57 (true, ()) w60) (
 jn [kB] w60 (fun (t75 : Bool × Unit) w76 =>
 J57 (t75.1, ()) w76) fun J74 w77 =>
 cs ((r51.2.1 : Int) != (0 : Int)) (
 jn [kB] w77 (fun (t79 : Bool × Unit) w80 =>
 J74 (t79.1, ()) w80) fun J78 w81 =>
 cs ((r51.2.1 : Int) != ((-17) : Int)) (
 J78 (true, ()) w81) (
 J78 (decide (((r51.1.len : Int) : Int) > (0 : Int)), ()) w81)) (
 J74 (false, ()) w77))) (
 jn [kP, kI] w40 (fun (t83 : Option Addr × Int × Unit) w84 =>
 J37 (t83.1, t83.2.1, ()) w84) fun J82 w85 =>
 cs ((n36 : Int) == (2 : Int)) (
 lp [kS, kI] w85 (⟨none, 0, 0⟩, (0 : Int), ()) fun (t86 : Sl × Int × Unit) J87 w88 =>
 ldS w88 b29 (0 + 3) fun s89 =>
 cs (decide ((t86.2.1 : Int) < ((s89.len : Int) : Int))) (
 ldS w88 b29 (0 + 3) fun s90 =>
 ix s90 t86.2.1 1 fun b91 o92 =>
 ldS w88 b91 o92 fun s93 =>
 ef Pg (Builtin.append_ #[24, 24] 24 #[vS t86.1, vS s93]) [kS] w88 fun (r94 : Sl × Unit) w95 =>
 J87 (r94.1, w64 (t86.2.1 + 1), ()) w95) (
 cs (decide (((t86.1.len : Int) : Int) > (3000 : Int))) (
 R [.bool true] w88) (
 ldI w88 .i64 b29 (0 + 1) fun n96 =>
 ldS w88 b29 (0 + 3) fun s97 =>
 cl Pg 10 [.pointer t19.1, .int .i64 n96, vS s97] [kI] w88 fun (r98 : Int × Unit) w99 =>
 ldI w99 .i64 b29 (0 + 1) fun n100 =>
 cl Pg 16 [.int .i64 n100, .int .i64 (t86.1.len : Int), .int .i64 a0] [kB] w99 fun (r101 : Bool × Unit) w102 =>
 cs (!(((r98.1 : Int) == (0 : Int)) == r101.1)) (
 R [.bool false] w102) (
 jn [kI] w102 (fun (t104 : Int × Unit) w105 =>
 J82 (t19.1, t104.1, ()) w105) fun J103 w106 =>
 cs ((r98.1 : Int) == (0 : Int)) (
 lp [kI] w106 ((0 : Int), ()) fun (t107 : Int × Unit) J108 w109 =>
 cs (decide ((t107.1 : Int) < ((t86.1.len : Int) : Int))) (
 dr w109 fun w110 =>
 ldI w110 .i64 b29 (0 + 1) fun n111 =>
 ix t86.1 t107.1 1 fun b112 o113 =>
 ldI w110 .u8 b112 o113 fun n114 =>
 ix r17.1 (w64 (n111 + t107.1)) 1 fun b115 o116 =>
 st1 w110 b115 o116 (.int .u8 n114) fun w117 =>
 J108 (w64 (t107.1 + 1), ()) w117) (
 J103 (w64 (t19.2.1 + (t86.1.len : Int)), ()) w109)) (
 J103 (t19.2.1, ()) w106))))) (
 jn [kB] w85 (fun (t119 : Bool × Unit) w120 =>
 jn [kP, kI] w120 (fun (t123 : Option Addr × Int × Unit) w124 =>
 J82 (t123.1, t123.2.1, ()) w124) fun J122 w125 =>
 cs t119.1 (
 ldI w125 .i64 b29 (0 + 1) fun n126 =>
 cl Pg 16 [.int .i64 n126, .int .i64 4, .int .i64 a0] [kB] w125 fun (r127 : Bool × Unit) w128 =>
 jn [kB] w128 (fun (t130 : Bool × Unit) w131 =>
 ldI w131 .i64 b29 0 fun n133 =>
 jn [.l (.i .u32), kI] w131 (fun (t135 : Int × Int × Unit) w136 =>
 jn [kB] w136 (fun (t139 : Bool × Unit) w140 =>
 cs t139.1 (
 R [.bool false] w140) (
 cs (!t130.1) (
 J20 (t19.1, t19.2.1, w64 (t19.2.2.1 + 1), ()) w140) (
 ldI w140 .i64 b29 0 fun n142 =>
 jn [] w140 (fun (t144 : Unit) w145 =>
 J122 (t19.1, w64 (t19.2.1 + 4), ()) w145) fun J143 w146 =>
 cs ((n142 : Int) == (4 : Int)) (
 lp [kI] w146 ((0 : Int), ()) fun (t147 : Int × Unit) J148 w149 =>
 cs (decide ((t147.1 : Int) < (4 : Int))) (
 ldI w149 .i64 b29 (0 + 1) fun n150 =>
 ldI w149 .u32 b29 (0 + 4) fun n151 =>
 ob (0 ≤ (IntKind.u64.wrap (w64 (8 * t147.1)))) (
 ix r17.1 (w64 (n150 + t147.1)) 1 fun b152 o153 =>
 st1 w149 b152 o153 (.int .u8 (IntKind.u8.wrap (Int.fdiv n151 (2 ^ (min (IntKind.u64.wrap (w64 (8 * t147.1))).toNat 32))))) fun w154 =>
 J148 (w64 (t147.1 + 1), ()) w154)) (
 J143 () w149)) (
 dr w146 fun w155 =>
 ldI w155 .i64 b29 (0 + 1) fun n156 =>
 ix r17.1 n156 1 fun b157 o158 =>
 ldI w155 .u8 b157 o158 fun n159 =>
 ldI w155 .i64 b29 (0 + 1) fun n160 =>
 ix r17.1 (w64 (n160 + 1)) 1 fun b161 o162 =>
 ldI w155 .u8 b161 o162 fun n163 =>
 ldI w155 .i64 b29 (0 + 1) fun n164 =>
 ix r17.1 (w64 (n164 + 2)) 1 fun b165 o166 =>
 ldI w155 .u8 b165 o166 fun n167 =>
 ldI w155 .i64 b29 (0 + 1) fun n168 =>
 ix r17.1 (w64 (n168 + 3)) 1 fun b169 o170 =>
 ldI w155 .u8 b169 o170 fun n171 =>
 cs ((t135.1 : Int) != (bOr .u32 (bOr .u32 (bOr .u32 (IntKind.u32.wrap (n159)) (IntKind.u32.wrap ((IntKind.u32.wrap (n163)) * 2 ^ 8))) (IntKind.u32.wrap ((IntKind.u32.wrap (n167)) * 2 ^ 16))) (IntKind.u32.wrap ((IntKind.u32.wrap (n171)) * 2 ^ 24)) : Int)) (
 R [.bool false] w155) (
 J143 () w155))))) fun J138 w141 =>
 cs (!(((t135.2.1 : Int) == (0 : Int)) == t130.1)) (
 J138 (true, ()) w141) (
 jn [kB] w141 (fun (t173 : Bool × Unit) w174 =>
 J138 (t173.1, ()) w174) fun J172 w175 =>
 cs (!t130.1) (
 J172 ((t135.1 : Int) != (0 : Int), ()) w175) (
 J172 (false, ()) w175))) fun J134 w137 =>
 cs ((n133 : Int) == (3 : Int)) (
 ldI w137 .i64 b29 (0 + 1) fun n176 =>
 cl Pg 14 [.pointer t19.1, .int .i64 n176] [.l (.i .u32), kI] w137 fun (r177 : Int × Int × Unit) w178 =>
 J134 (r177.1, r177.2.1, ()) w178) (
 ldI w137 .i64 b29 (0 + 1) fun n179 =>
 ldI w137 .u32 b29 (0 + 4) fun n180 =>
 cl Pg 13 [.pointer t19.1, .int .i64 n179, .int .u32 n180] [kI] w137 fun (r181 : Int × Unit) w182 =>
 J134 ((0 : Int), r181.1, ()) w182)) fun J129 w132 =>
 cs r127.1 (
 ldI w132 .i64 b29 (0 + 1) fun n183 =>
 J129 ((Int.tmod n183 4 : Int) == (0 : Int), ()) w132) (
 J129 (false, ()) w132)) (
 jn [kP, kI] w125 (fun (t185 : Option Addr × Int × Unit) w186 =>
 J122 (t185.1, t185.2.1, ()) w186) fun J184 w187 =>
 cs ((n36 : Int) == (5 : Int)) (
 ldI w187 .i64 b29 (0 + 1) fun n188 =>
 ldI w187 .i64 b29 (0 + 2) fun n189 =>
 ldI w187 .u32 b29 (0 + 4) fun n190 =>
 cl Pg 15 [.pointer t19.1, .int .i64 n188, .int .i64 n189, .int .u8 (IntKind.u8.wrap (n190))] [kI] w187 fun (r191 : Int × Unit) w192 =>
 ldI w192 .i64 b29 (0 + 1) fun n193 =>
 ldI w192 .i64 b29 (0 + 2) fun n194 =>
 cl Pg 16 [.int .i64 n193, .int .i64 n194, .int .i64 a0] [kB] w192 fun (r195 : Bool × Unit) w196 =>
 cs (!(((r191.1 : Int) == (0 : Int)) == r195.1)) (
 R [.bool false] w196) (
 lp [kI] w196 ((0 : Int), ()) fun (t197 : Int × Unit) J198 w199 =>
 ldI w199 .i64 b29 (0 + 2) fun n200 =>
 jn [kB] w199 (fun (t202 : Bool × Unit) w203 =>
 cs t202.1 (
 ldI w203 .i64 b29 (0 + 1) fun n205 =>
 ldI w203 .u32 b29 (0 + 4) fun n206 =>
 ix r17.1 (w64 (n205 + t197.1)) 1 fun b207 o208 =>
 st1 w203 b207 o208 (.int .u8 (IntKind.u8.wrap (n206))) fun w209 =>
 J198 (w64 (t197.1 + 1), ()) w209) (
 jn [kI] w203 (fun (t211 : Int × Unit) w212 =>
 J184 (t19.1, t211.1, ()) w212) fun J210 w213 =>
 cs ((r191.1 : Int) == (0 : Int)) (
 ldI w213 .i64 b29 (0 + 2) fun n214 =>
 J210 (w64 (t19.2.1 + n214), ()) w213) (
 J210 (t19.2.1, ()) w213))) fun J201 w204 =>
 cs (decide ((t197.1 : Int) < (n200 : Int))) (
 J201 ((r191.1 : Int) == (0 : Int), ()) w204) (
 J201 (false, ()) w204))) (
 jn [kP] w187 (fun (t216 : Option Addr × Unit) w217 =>
 J184 (t216.1, t19.2.1, ()) w217) fun J215 w218 =>
 cs ((n36 : Int) == (6 : Int)) (
 cl Pg 17 [.pointer t19.1] [kP] w218 fun (r219 : Option Addr × Unit) w220 =>
 cs r219.1.isNone (
 R [.bool false] w220) (
 cl Pg 15 [.pointer t19.1, .int .i64 0, .int .i64 a0, .int .u8 99] [kI] w220 fun (r221 : Int × Unit) w222 =>
 J215 (r219.1, ()) w222)) (
 J215 (t19.1, ()) w218)))) fun J118 w121 =>
 cs ((n36 : Int) == (3 : Int)) (
 J118 (true, ()) w121) (
 J118 ((n36 : Int) == (4 : Int), ()) w121)))) (
 cl Pg 12 [.pointer t19.1, .int .i64 0, .int .i64 a0] [kS, kI] w21 fun (r223 : Sl × Int × Unit) w224 =>
 jn [kB] w224 (fun (t226 : Bool × Unit) w227 =>
 R [.bool t226.1] w227) fun J225 w228 =>
 cs ((r223.2.1 : Int) == (0 : Int)) (
 tx Pg 24 9 (vS r223.1) w228 fun g229 =>
 tx Pg 24 9 (vS r17.1) w228 fun g230 =>
 J225 (g229.toList == g230.toList, ()) w228) (
 J225 (false, ()) w228))))) fun J13 w16 =>
 cs (!(((r7.2.1 : Int) == (0 : Int)) == t10.1)) (
 J13 (true, ()) w16) (
 J13 (!(r7.1.isNone == ((r7.2.1 : Int) != (0 : Int))), ()) w16)) fun J9 w12 =>
 cs (decide ((a0 : Int) ≥ (0 : Int))) (
 J9 (decide ((a0 : Int) ≤ (65536 : Int)), ()) w12) (
 J9 (false, ()) w12))) fun J3 w6 =>
 cs (decide (((a1.len : Int) : Int) > (100 : Int))) (
 J3 (true, ()) w6) (
 jn [kB] w6 (fun (t232 : Bool × Unit) w233 =>
 J3 (t232.1, ()) w233) fun J231 w234 =>
 cs (decide ((a0 : Int) > (2000 : Int))) (
 J231 (decide ((a0 : Int) ≤ (65536 : Int)), ()) w234) (
 J231 (false, ()) w234)))
theorem tie6 (a0 : Int) (a1 : Sl) (R : List Value → World → Prop) (w : World) : compF Pg Try.f6 ⟨[(5, ⟨[(5, kP), (8, kI), (9, kI)], [4, 10, 11, 12, 13, 14, 15, 16, 17, 18, 19, 20, 21, 22, 23, 24, 25, 68, 69, 70, 71, 72, 73, 74, 75, 76, 77, 78, 79, 80, 81, 82, 83, 84, 85, 86, 87, 88, 89, 90, 91, 92, 93, 94, 95, 96, 97, 98, 99, 100, 101, 102, 103, 104, 105, 106, 107, 108, 109, 110, 111, 112, 113, 114, 115, 116, 117, 118, 119, 120, 121, 122, 123, 124, 125, 126, 127, 128, 129, 130, 131, 132, 133, 134, 135, 136, 137, 138, 139, 140, 141, 142, 143, 144, 145, 146, 147, 148, 149, 150, 151, 152, 153, 154, 155, 156, 157, 158, 159, 160, 161, 162, 163, 164, 165, 166, 167, 168, 169, 170, 171, 172, 173, 174, 175, 176, 177, 178, 179, 180, 181, 182, 183, 184, 185, 186, 187, 188, 189, 190, 191, 192, 193, 194, 195, 196, 197, 198, 199, 200, 201, 202, 203, 204, 205, 206, 207, 208, 209, 210, 211, 212, 213, 214, 215, 216, 217, 218, 219, 220, 221, 222, 223, 224, 225, 226, 227, 228, 229, 230, 231, 232, 233, 234, 235, 236, 237, 238, 239, 240, 241, 242, 243, 244, 245, 246, 247, 248, 249, 250, 251, 252, 253, 254, 255, 256, 257, 258, 259, 260, 261, 262, 263, 264, 265, 266, 267, 268, 269, 270, 271, 272, 273, 274, 275, 276, 277, 278, 279, 280, 281, 282, 283, 284, 285, 286, 287, 288, 289, 290, 291, 292, 293, 294, 295, 296, 297, 298, 299, 300, 301, 302, 303, 304, 305, 306, 307, 308, 309, 310, 311, 312, 313, 314, 315, 316, 317, 318, 319, 320, 321, 322, 323, 324, 325, 326, 327, 328, 329, 330, 331, 332, 333, 334, 335, 336, 337, 338, 339, 340, 341, 342, 343, 344, 345, 346, 347, 348, 349, 350, 351, 352, 353, 354]⟩), (9, ⟨[(5, kP), (8, kI)], [4, 11, 12, 13, 14, 15, 16, 17, 18, 19, 20, 21, 22, 23, 24, 25, 82, 83, 84, 85, 86, 87, 88, 89, 90, 91, 92, 93, 94, 95, 96, 97, 98, 99, 100, 101, 102, 103, 104, 105, 106, 107, 108, 109, 110, 111, 112, 113, 114, 115, 116, 117, 118, 119, 120, 121, 122, 123, 124, 125, 126, 127, 128, 129, 130, 131, 132, 133, 134, 135, 136, 137, 138, 139, 140, 141, 142, 143, 144, 145, 146, 147, 148, 149, 150, 151, 152, 153, 154, 155, 156, 157, 158, 159, 160, 161, 162, 163, 164, 165, 166, 167, 168, 169, 170, 171, 172, 173, 174, 175, 176, 177, 178, 179, 180, 181, 182, 183, 184, 185, 186, 187, 188, 189, 190, 191, 192, 193, 194, 195, 196, 197, 198, 199, 200, 201, 202, 203, 204, 205, 206, 207, 208, 209, 210, 211, 212, 213, 214, 215, 216, 217, 218, 219, 220, 221, 222, 223, 224, 225, 226, 227, 228, 229, 230, 231, 232, 233, 234, 235, 236, 237, 238, 239, 240, 241, 242, 243, 244, 245, 246, 247, 248, 249, 250, 251, 252, 253, 254, 255, 256, 257, 258, 259, 260, 261, 262, 263, 264, 265, 266, 267, 268, 269, 270, 271, 272, 273, 274, 275, 276, 277, 278, 279, 280, 281, 282, 283, 284, 285, 286, 287, 288, 289, 290, 291, 292, 293, 294, 295, 296, 297, 298, 299, 300, 301, 302, 303, 304, 305, 306, 307, 308, 309, 310, 311, 312, 313, 314, 315, 316, 317, 318, 319, 320, 321, 322, 323, 324, 325, 326, 327, 328, 329, 330, 331, 332, 333, 334, 335, 336, 337, 338, 339, 340, 341, 342, 343, 344]⟩), (11, ⟨[(8, kI)], [4, 115, 116, 117, 118, 119, 120, 121, 122, 123, 124, 125, 126, 127, 128, 129, 130, 131]⟩), (13, ⟨[(5, kP), (8, kI)], [4, 13, 14, 15, 16, 17, 18, 19, 20, 21, 22, 23, 24, 25, 134, 135, 136, 137, 138, 139, 140, 141, 142, 143, 144, 145, 146, 147, 148, 149, 150, 151, 152, 153, 154, 155, 156, 157, 158, 159, 160, 161, 162, 163, 164, 165, 166, 167, 168, 169, 170, 171, 172, 173, 174, 175, 176, 177, 178, 179, 180, 181, 182, 183, 184, 185, 186, 187, 188, 189, 190, 191, 192, 193, 194, 195, 196, 197, 198, 199, 200, 201, 202, 203, 204, 205, 206, 207, 208, 209, 210, 211, 212, 213, 214, 215, 216, 217, 218, 219, 220, 221, 222, 223, 224, 225, 226, 227, 228, 229, 230, 231, 232, 233, 234, 235, 236, 237, 238, 239, 240, 241, 242, 243, 244, 245, 246, 247, 248, 249, 250, 251, 252, 253, 254, 255, 256, 257, 258, 259, 260, 261, 262, 263, 264, 265, 266, 267, 268, 269, 270, 271, 272, 273, 274, 275, 276, 277, 278, 279, 280, 281, 282, 283, 284, 285, 286, 287, 288, 289, 290, 291, 292, 293, 294, 295, 296, 297, 298, 299, 300, 301, 302, 303, 304, 305, 306, 307, 308, 309, 310, 311, 312, 313, 314, 315, 316, 317, 318, 319, 320, 321, 322, 323, 324, 325, 326, 327, 328, 329, 330, 331, 332, 333, 334, 335, 336, 337, 338, 339, 340, 341, 342, 343, 344]⟩), (15, ⟨[(13, kS), (14, kI)], [134, 135, 136, 137, 138, 139, 140, 141, 142, 143, 144, 145, 146, 147]⟩), (20, ⟨[(8, kI)], [16, 168, 169, 170, 171, 172, 173, 174, 175, 176, 177, 178, 179, 180, 181, 182, 183, 184, 185, 186, 187]⟩), (22, ⟨[(16, kI)], [172, 173, 174, 175, 176, 177, 178, 179, 180, 181, 182, 183, 184, 185, 186, 187]⟩), (25, ⟨[(188, kB)], [190]⟩), (26, ⟨[(5, kP), (8, kI)], [4, 17, 18, 19, 20, 21, 22, 23, 24, 25, 191, 192, 193, 194, 195, 196, 197, 198, 199, 200, 201, 202, 203, 204, 205, 206, 207, 208, 209, 210, 211, 212, 213, 214, 215, 216, 217, 218, 219, 220, 221, 222, 223, 224, 225, 226, 227, 228, 229, 230, 231, 232, 233, 234, 235, 236, 237, 238, 239, 240, 241, 242, 243, 244, 245, 246, 247, 248, 249, 250, 251, 252, 253, 254, 255, 256, 257, 258, 259, 260, 261, 262, 263, 264, 265, 266, 267, 268, 269, 270, 271, 272, 273, 274, 275, 276, 277, 278, 279, 280, 281, 282, 283, 284, 285, 286, 287, 288, 289, 290, 291, 292, 293, 294, 295, 296, 297, 298, 299, 300, 301, 302, 303, 304, 305, 306, 307, 308, 309, 310, 311, 312, 313, 314, 315, 316, 317, 318, 319, 320, 321, 322, 323, 324, 325, 326, 327, 328, 329, 330, 331, 332, 333, 334, 335, 336, 337, 338, 339, 340, 341, 342, 343, 344]⟩), (27, ⟨[(18, .l (.i .u32)), (19, kI)], [20, 21, 204, 205, 206, 207, 208, 209, 210, 211, 212, 213, 214, 215, 216, 217, 218]⟩), (30, ⟨[], [4, 22, 238, 239, 240, 241, 242, 243, 244, 245, 246, 247, 248, 249, 250, 251, 252, 253, 254, 255, 256, 257, 258, 259, 260, 261, 262, 263, 264, 265, 266, 267, 268, 269, 270, 271, 272, 273, 274, 275, 276, 277, 278, 279, 280, 281, 282, 283, 284, 285, 286, 287, 288, 289]⟩), (32, ⟨[(22, kI)], [238, 239, 240, 241, 242, 243, 244, 245, 246, 247, 248, 249, 250, 251, 252, 253, 254]⟩), (36, ⟨[(5, kP), (8, kI)], [4, 23, 24, 25, 292, 293, 294, 295, 296, 297, 298, 299, 300, 301, 302, 303, 304, 305, 306, 307, 308, 309, 310, 311, 312, 313, 314, 315, 316, 317, 318, 319, 320, 321, 322, 323, 324, 325, 326, 327, 328, 329, 330, 331, 332, 333, 334, 335, 336, 337, 338, 339, 340, 341, 342, 343, 344]⟩), (39, ⟨[(24, kI)], [310, 311, 312, 313, 314, 315, 316, 317, 318, 319, 320, 321, 322, 323, 324, 325, 326, 327, 328]⟩), (42, ⟨[(8, kI)], [331, 332, 333, 334]⟩), (43, ⟨[(5, kP)], [4, 25, 337, 338, 339, 340, 341, 342, 343, 344]⟩)], [], [(23, .l [(0, []), (1, []), (2, []), (3, []), (4, []), (5, []), (6, []), (7, []), (8, []), (9, []), (10, []), (11, []), (12, [])]), (41, .l [(0, []), (1, []), (2, []), (3, []), (4, []), (5, []), (6, []), (7, []), (8, []), (9, []), (10, [9, 8, 0, 1, 2, 3, 4, 5, 6, 7])]), (61, .l [(0, []), (1, []), (2, []), (3, []), (4, []), (5, []), (6, []), (7, []), (8, []), (9, []), (10, []), (11, []), (12, []), (13, []), (14, []), (15, []), (16, []), (17, []), (18, []), (19, []), (20, []), (21, []), (22, []), (23, []), (24, []), (25, []), (26, []), (27, []), (28, []), (29, []), (30, []), (31, []), (32, []), (33, []), (34, [])])], [(3, [(4, 7, ⟨[(40, kB)], [34, 35, 36, 37, 38, 39]⟩), (7, 3, ⟨[(39, kB)], [37, 38]⟩)]), (6, [(5, 3, ⟨[(53, kB)], [51, 52]⟩), (10, 6, ⟨[(61, kB)], [56, 57, 58, 59, 60]⟩)]), (79, [(5, 5, ⟨[(354, kB)], [350, 351, 352, 353]⟩)]), (19, [(10, 12, ⟨[(112, kB)], [101, 102, 103, 104, 105, 106, 107, 108, 109, 110, 111]⟩), (13, 8, ⟨[(111, kB)], [104, 105, 106, 107, 108, 109, 110]⟩), (16, 4, ⟨[(110, kB)], [107, 108, 109]⟩)]), (44, [(5, 5, ⟨[(200, kB)], [196, 197, 198, 199]⟩)]), (52, [(5, 7, ⟨[(230, kB)], [224, 225, 226, 227, 228, 229]⟩), (8, 3, ⟨[(229, kB)], [227, 228]⟩)]), (68, [(5, 3, ⟨[(317, kB)], [315, 316]⟩)]), (82, [(3, 6, ⟨[(369, kB)], [364, 365, 366, 367, 368]⟩)])]⟩ [.int .i64 a0, vS a1] R w = sh6 a0 a1 R w := by kernel_rfl
theorem call6 {a0 : Int} {a1 : Sl} {w : World} {K : TK [kB] → World → Prop} (h : sh6 a0 a1 (fun vs w' => ∃ t, encK [kB] t = vs ∧ K t w') w) : cl Pg 6 [.int .i64 a0, vS a1] [kB] w K := cl_of Try.func6 (tie6 ..) h
/-- detent/detentlaw2.ArenaTwins -/
def sh7 (a0 : Sl) (a1 : Int) (a2 : Int) (R : List Value → World → Prop) (w : World) : Prop :=
 cl Pg 8 [] [kB] w fun (r1 : Bool × Unit) w2 =>
 cs (!r1.1) (
 R [.bool false] w2) (
 jn [kB] w2 (fun (t4 : Bool × Unit) w5 =>
 jn [kB] w5 (fun (t8 : Bool × Unit) w9 =>
 cs t8.1 (
 R [.bool true] w9) (
 cl Pg 9 [.int .i64 200] [kP, kI] w9 fun (r11 : Option Addr × Int × Unit) w12 =>
 al w12 24 [vS a0] fun b13 w14 =>
 cl Pg 10 [.pointer r11.1, .int .i64 a1, vS ⟨some ⟨b13, 0, none⟩, 1, 1⟩] [kI] w14 fun (r15 : Int × Unit) w16 =>
 cl Pg 17 [.pointer r11.1] [kP] w16 fun (r17 : Option Addr × Unit) w18 =>
 jn [kB] w18 (fun (t20 : Bool × Unit) w21 =>
 jn [kB] w21 (fun (t24 : Bool × Unit) w25 =>
 cs t24.1 (
 R [.bool false] w25) (
 cl Pg 15 [.pointer r17.1, .int .i64 0, .int .i64 200, .int .u8 a2] [kI] w25 fun (r27 : Int × Unit) w28 =>
 cl Pg 12 [.pointer r11.1, .int .i64 a1, .int .i64 (a0.len : Int)] [kS, kI] w28 fun (r29 : Sl × Int × Unit) w30 =>
 cl Pg 12 [.pointer r17.1, .int .i64 0, .int .i64 200] [kS, kI] w30 fun (r31 : Sl × Int × Unit) w32 =>
 lp [kI] w32 ((0 : Int), ()) fun (t33 : Int × Unit) J34 w35 =>
 cs (decide ((t33.1 : Int) < ((r31.1.len : Int) : Int))) (
 ix r31.1 t33.1 1 fun b36 o37 =>
 ldI w35 .u8 b36 o37 fun n38 =>
 cs ((n38 : Int) != (a2 : Int)) (
 R [.bool false] w35) (
 J34 (w64 (t33.1 + 1), ()) w35)) (
 tx Pg 24 9 (vS r29.1) w35 fun g39 =>
 tx Pg 24 9 (vS a0) w35 fun g40 =>
 jn [kB] w35 (fun (t42 : Bool × Unit) w43 =>
 R [.bool t42.1] w43) fun J41 w44 =>
 cs (g39.toList == g40.toList) (
 J41 (((r31.1.len : Int) : Int) == (200 : Int), ()) w44) (
 J41 (false, ()) w44)))) fun J23 w26 =>
 cs t20.1 (
 J23 (true, ()) w26) (
 cl Pg 18 [.pointer r17.1] [kI] w26 fun (r45 : Int × Unit) w46 =>
 J23 ((r45.1 : Int) != (200 : Int), ()) w46)) fun J19 w22 =>
 cs r17.1.isNone (
 J19 (true, ()) w22) (
 cl Pg 11 [.pointer r17.1] [kI] w22 fun (r47 : Int × Unit) w48 =>
 cl Pg 11 [.pointer r11.1] [kI] w48 fun (r49 : Int × Unit) w50 =>
 J19 ((r47.1 : Int) != (r49.1 : Int), ()) w50))) fun J7 w10 =>
 cs t4.1 (
 J7 (true, ()) w10) (
 J7 (decide ((a1 : Int) > (100 : Int)), ()) w10)) fun J3 w6 =>
 cs (decide (((a0.len : Int) : Int) > (100 : Int))) (
 J3 (true, ()) w6) (
 J3 (decide ((a1 : Int) < (0 : Int)), ()) w6))
theorem tie7 (a0 : Sl) (a1 : Int) (a2 : Int) (R : List Value → World → Prop) (w : World) : compF Pg Try.f7 ⟨[(4, ⟨[(14, kI)], [6, 69, 70, 71, 72, 73, 74, 75, 76, 77, 78, 79, 80]⟩)], [], [], [(3, [(4, 3, ⟨[(23, kB)], [21, 22]⟩), (8, 3, ⟨[(27, kB)], [25, 26]⟩)]), (8, [(3, 6, ⟨[(47, kB)], [42, 43, 44, 45, 46]⟩), (10, 4, ⟨[(52, kB)], [49, 50, 51]⟩)]), (18, [(6, 4, ⟨[(90, kB)], [87, 88, 89]⟩)])]⟩ [vS a0, .int .i64 a1, .int .u8 a2] R w = sh7 a0 a1 a2 R w := by kernel_rfl
theorem call7 {a0 : Sl} {a1 : Int} {a2 : Int} {w : World} {K : TK [kB] → World → Prop} (h : sh7 a0 a1 a2 (fun vs w' => ∃ t, encK [kB] t = vs ∧ K t w') w) : cl Pg 7 [vS a0, .int .i64 a1, .int .u8 a2] [kB] w K := cl_of Try.func7 (tie7 ..) h
end Go.Proofs.Ytlcmilmnecpokaa.B
