/- Printed by sh.py: each Go function as a typed shallow program, and its tie to the code. -/
import Derived.Test.YtbpdkchglmpnkaaSound4
import Derived.Test.YtbpdkchglmpnkaaProg
namespace Go.Proofs.Ytbpdkchglmpnkaa.B
open Go Go.Proofs
set_option linter.unusedVariables false
set_option maxRecDepth 100000
noncomputable abbrev Pg : Program := Try.prog
/-- detent/ctx.New -/
def sh8  (R : List Value → World → Prop) (w : World) : Prop :=
 al w 32 [.slice none 0 0, .bool false, .bool false] fun b1 w2 =>
 R [.pointer (some ⟨b1, 0, none⟩)] w2
theorem tie8  (R : List Value → World → Prop) (w : World) : compF Pg Try.f8 ⟨[], [], [], []⟩ [] R w = sh8  R w := by kernel_rfl
theorem call8  {w : World} {K : TK [kP] → World → Prop} (h : sh8  (fun vs w' => ∃ t, encK [kP] t = vs ∧ K t w') w) : cl Pg 8 [] [kP] w K := cl_of Try.func8 (tie8 ..) h
/-- (*detent/ctx.state).In -/
def sh10 (a0 : Option Addr) (R : List Value → World → Prop) (w : World) : Prop :=
 nn a0 fun b1 o2 =>
 ldS w b1 o2 fun s3 =>
 R [.bool (decide ((s3.len : Int) > (0 : Int)))] w
theorem tie10 (a0 : Option Addr) (R : List Value → World → Prop) (w : World) : compF Pg Try.f10 ⟨[], [], [], []⟩ [.pointer a0] R w = sh10 a0 R w := by kernel_rfl
theorem call10 {a0 : Option Addr} {w : World} {K : TK [kB] → World → Prop} (h : sh10 a0 (fun vs w' => ∃ t, encK [kB] t = vs ∧ K t w') w) : cl Pg 10 [.pointer a0] [kB] w K := cl_of Try.func10 (tie10 ..) h
/-- (*detent/ctx.Place).Enter -/
def sh9 (a0 : Option Addr) (a1 : Int) (R : List Value → World → Prop) (w : World) : Prop :=
 jn [kB] w (fun (t2 : Bool × Unit) w3 =>
 cs t2.1 (
 R [.int .i64 (-17)] w3) (
 dr w3 fun w5 =>
 jn [kB] w5 (fun (t7 : Bool × Unit) w8 =>
 cs t7.1 (
 R [.int .i64 (-25)] w8) (
 nn a0 fun b10 o11 =>
 ldS w8 b10 o11 fun s12 =>
 al w8 3 [.int .i64 a1] fun b13 w14 =>
 ef Pg (Builtin.append_ #[28, 28] 28 #[vS s12, vS ⟨some ⟨b13, 0, none⟩, 1, 1⟩]) [kS] w14 fun (r15 : Sl × Unit) w16 =>
 nn a0 fun b17 o18 =>
 st1 w16 b17 o18 (vS r15.1) fun w19 =>
 R [.int .i64 0] w19)) fun J6 w9 =>
 nn a0 fun b20 o21 =>
 ldB w9 b20 (o21 + 1) fun b22 =>
 cs b22 (
 J6 (true, ()) w9) (
 nn a0 fun b23 o24 =>
 cl Pg 10 [.pointer (some ⟨b23, o24, none⟩)] [kB] w9 fun (r25 : Bool × Unit) w26 =>
 cs r25.1 (
 nn a0 fun b27 o28 =>
 ldS w26 b27 o28 fun s29 =>
 nn a0 fun b30 o31 =>
 ldS w26 b30 o31 fun s32 =>
 ix s29 (w64 (s32.len - 1)) 1 fun b33 o34 =>
 ldI w26 .i64 b33 o34 fun n35 =>
 J6 (decide ((a1 : Int) ≤ (n35 : Int)), ()) w26) (
 J6 (false, ()) w26)))) fun J1 w4 =>
 cs (decide ((a1 : Int) < (1 : Int))) (
 J1 (true, ()) w4) (
 J1 (decide ((a1 : Int) > (15 : Int)), ()) w4)
theorem tie9 (a0 : Option Addr) (a1 : Int) (R : List Value → World → Prop) (w : World) : compF Pg Try.f9 ⟨[], [(3, ⟨[(12, kB)], [13, 14, 15, 16, 17, 18, 19, 20, 21, 22, 23, 24, 25, 26, 27, 28, 29, 30, 31, 32, 33, 34, 35, 36, 37, 38, 39, 40, 41]⟩)], [(3, .l [(0, []), (1, []), (2, []), (3, []), (4, []), (5, []), (6, []), (7, []), (8, []), (9, [8, 5, 7, 4, 6, 3, 2, 1, 0]), (10, []), (11, []), (12, []), (13, []), (14, []), (15, []), (16, []), (17, []), (18, []), (19, []), (20, []), (21, []), (22, []), (23, []), (24, []), (25, []), (26, []), (27, []), (28, []), (29, [])])], [(1, [(3, 3, ⟨[(11, kB)], [9, 10]⟩)])]⟩ [.pointer a0, .int .i64 a1] R w = sh9 a0 a1 R w := by kernel_rfl
theorem call9 {a0 : Option Addr} {a1 : Int} {w : World} {K : TK [kI] → World → Prop} (h : sh9 a0 a1 (fun vs w' => ∃ t, encK [kI] t = vs ∧ K t w') w) : cl Pg 9 [.pointer a0, .int .i64 a1] [kI] w K := cl_of Try.func9 (tie9 ..) h
/-- (*detent/ctx.state).Dispatch -/
def sh11 (a0 : Option Addr) (R : List Value → World → Prop) (w : World) : Prop :=
 cl Pg 10 [.pointer a0] [kB] w fun (r1 : Bool × Unit) w2 =>
 jn [kB] w2 (fun (t4 : Bool × Unit) w5 =>
 jn [kB] w5 (fun (t8 : Bool × Unit) w9 =>
 R [.bool t8.1] w9) fun J7 w10 =>
 cs t4.1 (
 nn a0 fun b11 o12 =>
 ldB w10 b11 (o12 + 2) fun b13 =>
 J7 (!b13, ()) w10) (
 J7 (false, ()) w10)) fun J3 w6 =>
 cs (!r1.1) (
 nn a0 fun b14 o15 =>
 ldB w6 b14 (o15 + 1) fun b16 =>
 J3 (!b16, ()) w6) (
 J3 (false, ()) w6)
theorem tie11 (a0 : Option Addr) (R : List Value → World → Prop) (w : World) : compF Pg Try.f11 ⟨[], [], [], [(1, [(4, 6, ⟨[(12, kB)], [7, 8, 9, 10, 11]⟩), (11, 6, ⟨[(19, kB)], [14, 15, 16, 17, 18]⟩)])]⟩ [.pointer a0] R w = sh11 a0 R w := by kernel_rfl
theorem call11 {a0 : Option Addr} {w : World} {K : TK [kB] → World → Prop} (h : sh11 a0 (fun vs w' => ∃ t, encK [kB] t = vs ∧ K t w') w) : cl Pg 11 [.pointer a0] [kB] w K := cl_of Try.func11 (tie11 ..) h
/-- (*detent/ctx.Place).Exit -/
def sh12 (a0 : Option Addr) (R : List Value → World → Prop) (w : World) : Prop :=
 nn a0 fun b1 o2 =>
 cl Pg 10 [.pointer (some ⟨b1, o2, none⟩)] [kB] w fun (r3 : Bool × Unit) w4 =>
 cs (!r3.1) (
 R [.int .i64 (-25)] w4) (
 dr w4 fun w5 =>
 nn a0 fun b6 o7 =>
 ldS w5 b6 o7 fun s8 =>
 nn a0 fun b9 o10 =>
 ldS w5 b9 o10 fun s11 =>
 sb s8 0 (w64 (s11.len - 1)) s8.cap 1 fun s12 =>
 nn a0 fun b13 o14 =>
 st1 w5 b13 o14 (vS s12) fun w15 =>
 R [.int .i64 0] w15)
theorem tie12 (a0 : Option Addr) (R : List Value → World → Prop) (w : World) : compF Pg Try.f12 ⟨[], [], [(3, .l [(0, []), (1, []), (2, []), (3, []), (4, []), (5, []), (6, []), (7, []), (8, []), (9, []), (10, []), (11, []), (12, []), (13, []), (14, []), (15, []), (16, []), (17, [16, 13, 0, 1, 2, 3, 4, 5, 6, 7, 8, 9, 10, 11, 12, 15, 14])])], []⟩ [.pointer a0] R w = sh12 a0 R w := by kernel_rfl
theorem call12 {a0 : Option Addr} {w : World} {K : TK [kI] → World → Prop} (h : sh12 a0 (fun vs w' => ∃ t, encK [kI] t = vs ∧ K t w') w) : cl Pg 12 [.pointer a0] [kI] w K := cl_of Try.func12 (tie12 ..) h
/-- slices.Clip[[]int,int] -/
def sh25 (a0 : Sl) (R : List Value → World → Prop) (w : World) : Prop :=
 sb a0 0 a0.len a0.len 1 fun s1 =>
 R [vS s1] w
theorem tie25 (a0 : Sl) (R : List Value → World → Prop) (w : World) : compF Pg Try.f25 ⟨[], [], [], []⟩ [vS a0] R w = sh25 a0 R w := by kernel_rfl
theorem call25 {a0 : Sl} {w : World} {K : TK [kS] → World → Prop} (h : sh25 a0 (fun vs w' => ∃ t, encK [kS] t = vs ∧ K t w') w) : cl Pg 25 [vS a0] [kS] w K := cl_of Try.func25 (tie25 ..) h
/-- slices.Clone[[]int,int] -/
def sh26 (a0 : Sl) (R : List Value → World → Prop) (w : World) : Prop :=
 cs a0.a.isNone (
 R [.slice none 0 0] w) (
 al w 3 [] fun b1 w2 =>
 ef Pg (Builtin.append_ #[28, 28] 28 #[vS ⟨some ⟨b1, 0, none⟩, 0, 0⟩, vS a0]) [kS] w2 fun (r3 : Sl × Unit) w4 =>
 R [vS r3.1] w4)
theorem tie26 (a0 : Sl) (R : List Value → World → Prop) (w : World) : compF Pg Try.f26 ⟨[], [], [], []⟩ [vS a0] R w = sh26 a0 R w := by kernel_rfl
theorem call26 {a0 : Sl} {w : World} {K : TK [kS] → World → Prop} (h : sh26 a0 (fun vs w' => ∃ t, encK [kS] t = vs ∧ K t w') w) : cl Pg 26 [vS a0] [kS] w K := cl_of Try.func26 (tie26 ..) h
/-- (*detent/ctx.state).Levels -/
def sh14 (a0 : Option Addr) (R : List Value → World → Prop) (w : World) : Prop :=
 nn a0 fun b1 o2 =>
 ldS w b1 o2 fun s3 =>
 cl Pg 26 [vS s3] [kS] w fun (r4 : Sl × Unit) w5 =>
 cl Pg 25 [vS r4.1] [kS] w5 fun (r6 : Sl × Unit) w7 =>
 R [vS r6.1] w7
theorem tie14 (a0 : Option Addr) (R : List Value → World → Prop) (w : World) : compF Pg Try.f14 ⟨[], [], [], []⟩ [.pointer a0] R w = sh14 a0 R w := by kernel_rfl
theorem call14 {a0 : Option Addr} {w : World} {K : TK [kS] → World → Prop} (h : sh14 a0 (fun vs w' => ∃ t, encK [kS] t = vs ∧ K t w') w) : cl Pg 14 [.pointer a0] [kS] w K := cl_of Try.func14 (tie14 ..) h
/-- (*detent/ctx.state).may -/
def sh27 (a0 : Option Addr) (a1 : Int) (a2 : Bool) (R : List Value → World → Prop) (w : World) : Prop :=
 cl Pg 10 [.pointer a0] [kB] w fun (r1 : Bool × Unit) w2 =>
 jn [kB] w2 (fun (t4 : Bool × Unit) w5 =>
 cs ((a1 : Int) == (0 : Int)) (
 R [.bool true] w5) (
 cs ((a1 : Int) == (4 : Int)) (
 R [.bool t4.1] w5) (
 cs ((a1 : Int) == (1 : Int)) (
 jn [kB] w5 (fun (t8 : Bool × Unit) w9 =>
 R [.bool t8.1] w9) fun J7 w10 =>
 cs t4.1 (
 nn a0 fun b11 o12 =>
 ldB w10 b11 (o12 + 1) fun b13 =>
 J7 (!b13, ()) w10) (
 J7 (false, ()) w10)) (
 cs ((a1 : Int) == (2 : Int)) (
 jn [kB] w5 (fun (t15 : Bool × Unit) w16 =>
 jn [kB] w16 (fun (t19 : Bool × Unit) w20 =>
 R [.bool t19.1] w20) fun J18 w21 =>
 cs t15.1 (
 nn a0 fun b22 o23 =>
 ldB w21 b22 (o23 + 2) fun b24 =>
 J18 (!b24, ()) w21) (
 J18 (false, ()) w21)) fun J14 w17 =>
 cs t4.1 (
 nn a0 fun b25 o26 =>
 ldB w17 b25 (o26 + 1) fun b27 =>
 J14 (!b27, ()) w17) (
 J14 (false, ()) w17)) (
 cs ((a1 : Int) == (3 : Int)) (
 cl Pg 10 [.pointer a0] [kB] w5 fun (r28 : Bool × Unit) w29 =>
 jn [kB] w29 (fun (t31 : Bool × Unit) w32 =>
 R [.bool t31.1] w32) fun J30 w33 =>
 cs r28.1 (
 nn a0 fun b34 o35 =>
 ldB w33 b34 (o35 + 1) fun b36 =>
 J30 (!b36, ()) w33) (
 J30 (false, ()) w33)) (
 R [.bool false] w5)))))) fun J3 w6 =>
 cs (!r1.1) (
 J3 (!a2, ()) w6) (
 J3 (false, ()) w6)
theorem tie27 (a0 : Option Addr) (a1 : Int) (a2 : Bool) (R : List Value → World → Prop) (w : World) : compF Pg Try.f27 ⟨[], [], [], [(1, [(4, 3, ⟨[(14, kB)], [12, 13]⟩)]), (8, [(2, 6, ⟨[(30, kB)], [25, 26, 27, 28, 29]⟩)]), (10, [(2, 6, ⟨[(40, kB)], [35, 36, 37, 38, 39]⟩), (9, 6, ⟨[(47, kB)], [42, 43, 44, 45, 46]⟩)]), (12, [(3, 6, ⟨[(58, kB)], [53, 54, 55, 56, 57]⟩)])]⟩ [.pointer a0, .int .i64 a1, .bool a2] R w = sh27 a0 a1 a2 R w := by kernel_rfl
theorem call27 {a0 : Option Addr} {a1 : Int} {a2 : Bool} {w : World} {K : TK [kB] → World → Prop} (h : sh27 a0 a1 a2 (fun vs w' => ∃ t, encK [kB] t = vs ∧ K t w') w) : cl Pg 27 [.pointer a0, .int .i64 a1, .bool a2] [kB] w K := cl_of Try.func27 (tie27 ..) h
/-- (*detent/ctx.Place).May -/
def sh16 (a0 : Option Addr) (a1 : Int) (a2 : Bool) (R : List Value → World → Prop) (w : World) : Prop :=
 nn a0 fun b1 o2 =>
 cl Pg 27 [.pointer (some ⟨b1, o2, none⟩), .int .i64 a1, .bool a2] [kB] w fun (r3 : Bool × Unit) w4 =>
 cs (!r3.1) (
 R [.int .i64 (-25)] w4) (
 R [.int .i64 0] w4)
theorem tie16 (a0 : Option Addr) (a1 : Int) (a2 : Bool) (R : List Value → World → Prop) (w : World) : compF Pg Try.f16 ⟨[], [], [], []⟩ [.pointer a0, .int .i64 a1, .bool a2] R w = sh16 a0 a1 a2 R w := by kernel_rfl
theorem call16 {a0 : Option Addr} {a1 : Int} {a2 : Bool} {w : World} {K : TK [kI] → World → Prop} (h : sh16 a0 a1 a2 (fun vs w' => ∃ t, encK [kI] t = vs ∧ K t w') w) : cl Pg 16 [.pointer a0, .int .i64 a1, .bool a2] [kI] w K := cl_of Try.func16 (tie16 ..) h
/-- detent/detentlaw23.known -/
def sh7  (R : List Value → World → Prop) (w : World) : Prop :=
 cl Pg 8 [] [kP] w fun (r1 : Option Addr × Unit) w2 =>
 cs r1.1.isNone (
 R [.bool false] w2) (
 cl Pg 16 [.pointer r1.1, .int .i64 2, .bool false] [kI] w2 fun (r3 : Int × Unit) w4 =>
 cl Pg 9 [.pointer r1.1, .int .i64 3] [kI] w4 fun (r5 : Int × Unit) w6 =>
 cl Pg 9 [.pointer r1.1, .int .i64 3] [kI] w6 fun (r7 : Int × Unit) w8 =>
 cl Pg 16 [.pointer r1.1, .int .i64 1, .bool false] [kI] w8 fun (r9 : Int × Unit) w10 =>
 cl Pg 16 [.pointer r1.1, .int .i64 3, .bool true] [kI] w10 fun (r11 : Int × Unit) w12 =>
 nn r1.1 fun b13 o14 =>
 cl Pg 10 [.pointer (some ⟨b13, o14, none⟩)] [kB] w12 fun (r15 : Bool × Unit) w16 =>
 cl Pg 12 [.pointer r1.1] [kI] w16 fun (r17 : Int × Unit) w18 =>
 cl Pg 12 [.pointer r1.1] [kI] w18 fun (r19 : Int × Unit) w20 =>
 jn [kB] w20 (fun (t22 : Bool × Unit) w23 =>
 jn [kB] w23 (fun (t26 : Bool × Unit) w27 =>
 jn [kB] w27 (fun (t30 : Bool × Unit) w31 =>
 jn [kB] w31 (fun (t34 : Bool × Unit) w35 =>
 jn [kB] w35 (fun (t38 : Bool × Unit) w39 =>
 jn [kB] w39 (fun (t42 : Bool × Unit) w43 =>
 R [.bool t42.1] w43) fun J41 w44 =>
 cs t38.1 (
 nn r1.1 fun b45 o46 =>
 cl Pg 14 [.pointer (some ⟨b45, o46, none⟩)] [kS] w44 fun (r47 : Sl × Unit) w48 =>
 J41 ((r47.1.len : Int) == (0 : Int), ()) w48) (
 J41 (false, ()) w44)) fun J37 w40 =>
 cs t34.1 (
 nn r1.1 fun b49 o50 =>
 cl Pg 11 [.pointer (some ⟨b49, o50, none⟩)] [kB] w40 fun (r51 : Bool × Unit) w52 =>
 J37 (r51.1, ()) w52) (
 J37 (false, ()) w40)) fun J33 w36 =>
 cs t30.1 (
 J33 ((r19.1 : Int) == ((-25) : Int), ()) w36) (
 J33 (false, ()) w36)) fun J29 w32 =>
 cs t26.1 (
 J29 (r15.1, ()) w32) (
 J29 (false, ()) w32)) fun J25 w28 =>
 cs t22.1 (
 J25 ((r9.1 : Int) == ((-25) : Int), ()) w28) (
 J25 (false, ()) w28)) fun J21 w24 =>
 cs ((w64 ((w64 ((w64 (r3.1 + r5.1)) + r11.1)) + r17.1) : Int) == (0 : Int)) (
 J21 ((r7.1 : Int) == ((-25) : Int), ()) w24) (
 J21 (false, ()) w24))
theorem tie7  (R : List Value → World → Prop) (w : World) : compF Pg Try.f7 ⟨[], [], [], [(12, [(9, 3, ⟨[(42, kB)], [40, 41]⟩), (13, 3, ⟨[(46, kB)], [44, 45]⟩), (17, 2, ⟨[(49, kB)], [48]⟩), (20, 3, ⟨[(53, kB)], [51, 52]⟩), (24, 5, ⟨[(59, kB)], [55, 56, 57, 58]⟩), (30, 7, ⟨[(67, kB)], [61, 62, 63, 64, 65, 66]⟩)])]⟩ [] R w = sh7  R w := by kernel_rfl
theorem call7  {w : World} {K : TK [kB] → World → Prop} (h : sh7  (fun vs w' => ∃ t, encK [kB] t = vs ∧ K t w') w) : cl Pg 7 [] [kB] w K := cl_of Try.func7 (tie7 ..) h
/-- detent/detentlaw23.PlaceNests -/
def sh3 (a0 : Sl) (R : List Value → World → Prop) (w : World) : Prop :=
 cl Pg 7 [] [kB] w fun (r1 : Bool × Unit) w2 =>
 cs (!r1.1) (
 R [.bool false] w2) (
 cs (decide ((a0.len : Int) > (60 : Int))) (
 R [.bool true] w2) (
 cl Pg 8 [] [kP] w2 fun (r3 : Option Addr × Unit) w4 =>
 lp [kI, kI, kI] w4 ((0 : Int), (0 : Int), (0 : Int), ()) fun (t5 : Int × Int × Int × Unit) J6 w7 =>
 cs (decide ((t5.2.2.1 : Int) < (a0.len : Int))) (
 ix a0 t5.2.2.1 1 fun b8 o9 =>
 ldI w7 .u8 b8 o9 fun n10 =>
 cl Pg 9 [.pointer r3.1, .int .i64 (w64 (1 + (w64 (Int.tmod n10 15))))] [kI] w7 fun (r11 : Int × Unit) w12 =>
 cs (!(((r11.1 : Int) == (0 : Int)) == (decide ((w64 (1 + (w64 (Int.tmod n10 15))) : Int) > (t5.1 : Int))))) (
 R [.bool false] w12) (
 cs (decide ((w64 (1 + (w64 (Int.tmod n10 15))) : Int) > (t5.1 : Int))) (
 J6 (w64 (1 + (w64 (Int.tmod n10 15))), w64 (t5.2.1 + 1), w64 (t5.2.2.1 + 1), ()) w12) (
 J6 (t5.1, t5.2.1, w64 (t5.2.2.1 + 1), ()) w12))) (
 lp [kI] w7 ((0 : Int), ()) fun (t13 : Int × Unit) J14 w15 =>
 cs (decide ((t13.1 : Int) < (t5.2.1 : Int))) (
 nn r3.1 fun b16 o17 =>
 cl Pg 10 [.pointer (some ⟨b16, o17, none⟩)] [kB] w15 fun (r18 : Bool × Unit) w19 =>
 jn [kB] w19 (fun (t21 : Bool × Unit) w22 =>
 jn [kB] w22 (fun (t25 : Bool × Unit) w26 =>
 cs t25.1 (
 R [.bool false] w26) (
 J14 (w64 (t13.1 + 1), ()) w26)) fun J24 w27 =>
 cs t21.1 (
 J24 (true, ()) w27) (
 cl Pg 12 [.pointer r3.1] [kI] w27 fun (r28 : Int × Unit) w29 =>
 J24 ((r28.1 : Int) != (0 : Int), ()) w29)) fun J20 w23 =>
 cs (!r18.1) (
 J20 (true, ()) w23) (
 nn r3.1 fun b30 o31 =>
 cl Pg 11 [.pointer (some ⟨b30, o31, none⟩)] [kB] w23 fun (r32 : Bool × Unit) w33 =>
 J20 (r32.1, ()) w33)) (
 nn r3.1 fun b34 o35 =>
 cl Pg 10 [.pointer (some ⟨b34, o35, none⟩)] [kB] w15 fun (r36 : Bool × Unit) w37 =>
 jn [kB] w37 (fun (t39 : Bool × Unit) w40 =>
 R [.bool t39.1] w40) fun J38 w41 =>
 cs (!r36.1) (
 nn r3.1 fun b42 o43 =>
 cl Pg 11 [.pointer (some ⟨b42, o43, none⟩)] [kB] w41 fun (r44 : Bool × Unit) w45 =>
 J38 (r44.1, ()) w45) (
 J38 (false, ()) w41)))))
theorem tie3 (a0 : Sl) (R : List Value → World → Prop) (w : World) : compF Pg Try.f3 ⟨[(3, ⟨[(4, kI), (5, kI), (6, kI)], [2, 7, 8, 16, 17, 18, 19, 20, 21, 22, 23, 24, 25, 26, 27, 28, 29, 30, 31, 32, 33, 34, 35, 36, 37, 38, 39, 40, 41, 42, 43]⟩), (9, ⟨[(9, kI)], [2, 44, 45, 46, 47, 48, 49, 50, 51, 52, 53, 54, 55, 56, 57, 58, 59, 60, 61, 62, 63, 64]⟩)], [], [], [(21, [(6, 5, ⟨[(59, kB)], [55, 56, 57, 58]⟩), (12, 4, ⟨[(64, kB)], [61, 62, 63]⟩)]), (23, [(6, 5, ⟨[(75, kB)], [71, 72, 73, 74]⟩)])]⟩ [vS a0] R w = sh3 a0 R w := by kernel_rfl
theorem call3 {a0 : Sl} {w : World} {K : TK [kB] → World → Prop} (h : sh3 a0 (fun vs w' => ∃ t, encK [kB] t = vs ∧ K t w') w) : cl Pg 3 [vS a0] [kB] w K := cl_of Try.func3 (tie3 ..) h
/-- (*detent/ctx.Place).Lock -/
def sh13 (a0 : Option Addr) (a1 : Bool) (R : List Value → World → Prop) (w : World) : Prop :=
 nn a0 fun b1 o2 =>
 st1 w b1 (o2 + 1) (.bool a1) fun w3 =>
 R [] w3
theorem tie13 (a0 : Option Addr) (a1 : Bool) (R : List Value → World → Prop) (w : World) : compF Pg Try.f13 ⟨[], [], [], []⟩ [.pointer a0, .bool a1] R w = sh13 a0 a1 R w := by kernel_rfl
theorem call13 {a0 : Option Addr} {a1 : Bool} {w : World} {K : TK [] → World → Prop} (h : sh13 a0 a1 (fun vs w' => ∃ t, encK [] t = vs ∧ K t w') w) : cl Pg 13 [.pointer a0, .bool a1] [] w K := cl_of Try.func13 (tie13 ..) h
/-- detent/detentlaw23.PlaceRefuses -/
def sh4 (a0 : Int) (a1 : Int) (a2 : Bool) (R : List Value → World → Prop) (w : World) : Prop :=
 cl Pg 7 [] [kB] w fun (r1 : Bool × Unit) w2 =>
 cs (!r1.1) (
 R [.bool false] w2) (
 cl Pg 8 [] [kP] w2 fun (r3 : Option Addr × Unit) w4 =>
 cl Pg 9 [.pointer r3.1, .int .i64 a0] [kI] w4 fun (r5 : Int × Unit) w6 =>
 cl Pg 13 [.pointer r3.1, .bool a2] [] w6 fun (r7 : Unit) w8 =>
 cl Pg 9 [.pointer r3.1, .int .i64 a1] [kI] w8 fun (r9 : Int × Unit) w10 =>
 jn [kB] w10 (fun (t12 : Bool × Unit) w13 =>
 jn [kI, kI] w13 (fun (t16 : Int × Int × Unit) w17 =>
 jn [kB] w17 (fun (t20 : Bool × Unit) w21 =>
 jn [kI] w21 (fun (t24 : Int × Unit) w25 =>
 nn r3.1 fun b27 o28 =>
 cl Pg 14 [.pointer (some ⟨b27, o28, none⟩)] [kS] w25 fun (r29 : Sl × Unit) w30 =>
 R [.bool ((r29.1.len : Int) == (t24.1 : Int))] w30) fun J23 w26 =>
 cs t20.1 (
 cs ((r9.1 : Int) != ((-17) : Int)) (
 R [.bool false] w26) (
 J23 (t16.1, ()) w26)) (
 jn [kB] w26 (fun (t32 : Bool × Unit) w33 =>
 jn [kI] w33 (fun (t36 : Int × Unit) w37 =>
 J23 (t36.1, ()) w37) fun J35 w38 =>
 cs t32.1 (
 cs ((r9.1 : Int) != ((-25) : Int)) (
 R [.bool false] w38) (
 J35 (t16.1, ()) w38)) (
 cs ((r9.1 : Int) != (0 : Int)) (
 R [.bool false] w38) (
 J35 (w64 (t16.1 + 1), ()) w38))) fun J31 w34 =>
 cs a2 (
 J31 (true, ()) w34) (
 J31 (decide ((a1 : Int) ≤ (t16.2.1 : Int)), ()) w34))) fun J19 w22 =>
 cs (decide ((a1 : Int) < (1 : Int))) (
 J19 (true, ()) w22) (
 J19 (decide ((a1 : Int) > (15 : Int)), ()) w22)) fun J15 w18 =>
 cs t12.1 (
 cs ((r5.1 : Int) != (0 : Int)) (
 R [.bool false] w18) (
 J15 (w64 (0 + 1), a0, ()) w18)) (
 cs ((r5.1 : Int) != ((-17) : Int)) (
 R [.bool false] w18) (
 J15 ((0 : Int), (0 : Int), ()) w18))) fun J11 w14 =>
 cs (decide ((a0 : Int) ≥ (1 : Int))) (
 J11 (decide ((a0 : Int) ≤ (15 : Int)), ()) w14) (
 J11 (false, ()) w14))
theorem tie4 (a0 : Int) (a1 : Int) (a2 : Bool) (R : List Value → World → Prop) (w : World) : compF Pg Try.f4 ⟨[(1, ⟨[(10, kI), (11, kI)], [6, 30, 31, 32, 33, 34, 35, 36]⟩), (5, ⟨[(10, kI)], [6, 37, 38, 39, 40, 48, 49, 50, 51, 52, 53, 54, 55, 56, 57, 58]⟩), (7, ⟨[(10, kI)], [6, 37, 38, 39, 40, 57, 58]⟩)], [], [], [(9, [(3, 3, ⟨[(29, kB)], [27, 28]⟩)]), (19, [(3, 3, ⟨[(47, kB)], [45, 46]⟩)]), (22, [(2, 4, ⟨[(56, kB)], [53, 54, 55]⟩)])]⟩ [.int .i64 a0, .int .i64 a1, .bool a2] R w = sh4 a0 a1 a2 R w := by kernel_rfl
theorem call4 {a0 : Int} {a1 : Int} {a2 : Bool} {w : World} {K : TK [kB] → World → Prop} (h : sh4 a0 a1 a2 (fun vs w' => ∃ t, encK [kB] t = vs ∧ K t w') w) : cl Pg 4 [.int .i64 a0, .int .i64 a1, .bool a2] [kB] w K := cl_of Try.func4 (tie4 ..) h
/-- (*detent/ctx.Place).Disable -/
def sh15 (a0 : Option Addr) (a1 : Bool) (R : List Value → World → Prop) (w : World) : Prop :=
 nn a0 fun b1 o2 =>
 st1 w b1 (o2 + 2) (.bool a1) fun w3 =>
 R [] w3
theorem tie15 (a0 : Option Addr) (a1 : Bool) (R : List Value → World → Prop) (w : World) : compF Pg Try.f15 ⟨[], [], [], []⟩ [.pointer a0, .bool a1] R w = sh15 a0 a1 R w := by kernel_rfl
theorem call15 {a0 : Option Addr} {a1 : Bool} {w : World} {K : TK [] → World → Prop} (h : sh15 a0 a1 (fun vs w' => ∃ t, encK [] t = vs ∧ K t w') w) : cl Pg 15 [.pointer a0, .bool a1] [] w K := cl_of Try.func15 (tie15 ..) h
/-- detent/detentlaw23.PlaceKinds -/
def sh5 (a0 : Bool) (a1 : Bool) (a2 : Int) (a3 : Bool) (R : List Value → World → Prop) (w : World) : Prop :=
 cl Pg 7 [] [kB] w fun (r1 : Bool × Unit) w2 =>
 cs (!r1.1) (
 R [.bool false] w2) (
 cl Pg 8 [] [kP] w2 fun (r3 : Option Addr × Unit) w4 =>
 jn [] w4 (fun (t6 : Unit) w7 =>
 cl Pg 13 [.pointer r3.1, .bool a0] [] w7 fun (r9 : Unit) w10 =>
 cl Pg 15 [.pointer r3.1, .bool a1] [] w10 fun (r11 : Unit) w12 =>
 cl Pg 16 [.pointer r3.1, .int .i64 2, .bool a3] [kI] w12 fun (r13 : Int × Unit) w14 =>
 cl Pg 16 [.pointer r3.1, .int .i64 1, .bool a3] [kI] w14 fun (r15 : Int × Unit) w16 =>
 cl Pg 16 [.pointer r3.1, .int .i64 4, .bool a3] [kI] w16 fun (r17 : Int × Unit) w18 =>
 cl Pg 16 [.pointer r3.1, .int .i64 3, .bool a3] [kI] w18 fun (r19 : Int × Unit) w20 =>
 cl Pg 16 [.pointer r3.1, .int .i64 0, .bool a3] [kI] w20 fun (r21 : Int × Unit) w22 =>
 jn [kB] w22 (fun (t24 : Bool × Unit) w25 =>
 jn [kB] w25 (fun (t28 : Bool × Unit) w29 =>
 jn [kB] w29 (fun (t32 : Bool × Unit) w33 =>
 jn [kB] w33 (fun (t36 : Bool × Unit) w37 =>
 jn [kB] w37 (fun (t40 : Bool × Unit) w41 =>
 jn [kB] w41 (fun (t44 : Bool × Unit) w45 =>
 jn [kB] w45 (fun (t48 : Bool × Unit) w49 =>
 R [.bool t48.1] w49) fun J47 w50 =>
 cs t44.1 (
 nn r3.1 fun b51 o52 =>
 cl Pg 11 [.pointer (some ⟨b51, o52, none⟩)] [kB] w50 fun (r53 : Bool × Unit) w54 =>
 jn [kB] w54 (fun (t56 : Bool × Unit) w57 =>
 jn [kB] w57 (fun (t60 : Bool × Unit) w61 =>
 J47 (r53.1 == t60.1, ()) w61) fun J59 w62 =>
 cs t56.1 (
 J59 (!a1, ()) w62) (
 J59 (false, ()) w62)) fun J55 w58 =>
 cs (!(decide ((Int.tmod a2 16 : Int) > (0 : Int)))) (
 J55 (!a0, ()) w58) (
 J55 (false, ()) w58)) (
 J47 (false, ()) w50)) fun J43 w46 =>
 cs t40.1 (
 jn [kB] w46 (fun (t64 : Bool × Unit) w65 =>
 J43 (((r13.1 : Int) == (0 : Int)) == t64.1, ()) w65) fun J63 w66 =>
 cs ((r15.1 : Int) == (0 : Int)) (
 J63 (!a1, ()) w66) (
 J63 (false, ()) w66)) (
 J43 (false, ()) w46)) fun J39 w42 =>
 cs t36.1 (
 jn [kB] w42 (fun (t68 : Bool × Unit) w69 =>
 J39 (((r15.1 : Int) == (0 : Int)) == t68.1, ()) w69) fun J67 w70 =>
 cs ((r17.1 : Int) == (0 : Int)) (
 J67 (!a0, ()) w70) (
 J67 (false, ()) w70)) (
 J39 (false, ()) w42)) fun J35 w38 =>
 cs t32.1 (
 jn [kB] w38 (fun (t72 : Bool × Unit) w73 =>
 J35 (((r17.1 : Int) == (0 : Int)) == t72.1, ()) w73) fun J71 w74 =>
 cs (!(decide ((Int.tmod a2 16 : Int) > (0 : Int)))) (
 J71 (!a3, ()) w74) (
 J71 (false, ()) w74)) (
 J35 (false, ()) w38)) fun J31 w34 =>
 cs t28.1 (
 jn [kB] w34 (fun (t76 : Bool × Unit) w77 =>
 J31 (((r19.1 : Int) == (0 : Int)) == t76.1, ()) w77) fun J75 w78 =>
 cs (decide ((Int.tmod a2 16 : Int) > (0 : Int))) (
 J75 (!a0, ()) w78) (
 J75 (false, ()) w78)) (
 J31 (false, ()) w34)) fun J27 w30 =>
 cs t24.1 (
 jn [kB] w30 (fun (t80 : Bool × Unit) w81 =>
 J27 (t80.1, ()) w81) fun J79 w82 =>
 cs (!((r15.1 : Int) == (0 : Int))) (
 J79 (true, ()) w82) (
 J79 ((r17.1 : Int) == (0 : Int), ()) w82)) (
 J27 (false, ()) w30)) fun J23 w26 =>
 cs ((r21.1 : Int) == (0 : Int)) (
 jn [kB] w26 (fun (t84 : Bool × Unit) w85 =>
 J23 (t84.1, ()) w85) fun J83 w86 =>
 cs (!((r13.1 : Int) == (0 : Int))) (
 J83 (true, ()) w86) (
 J83 ((r15.1 : Int) == (0 : Int), ()) w86)) (
 J23 (false, ()) w26)) fun J5 w8 =>
 cs (decide ((Int.tmod a2 16 : Int) > (0 : Int))) (
 cl Pg 9 [.pointer r3.1, .int .i64 (w64 (Int.tmod a2 16))] [kI] w8 fun (r87 : Int × Unit) w88 =>
 J5 () w88) (
 J5 () w8))
theorem tie5 (a0 : Bool) (a1 : Bool) (a2 : Int) (a3 : Bool) (R : List Value → World → Prop) (w : World) : compF Pg Try.f5 ⟨[(1, ⟨[], [21, 22, 23, 24, 25]⟩)], [], [], [(13, [(5, 6, ⟨[(61, kB)], [56, 57, 58, 59, 60]⟩), (8, 2, ⟨[(60, kB)], [59]⟩), (12, 6, ⟨[(68, kB)], [63, 64, 65, 66, 67]⟩), (15, 2, ⟨[(67, kB)], [66]⟩), (19, 8, ⟨[(77, kB)], [70, 71, 72, 73, 74, 75, 76]⟩), (22, 3, ⟨[(75, kB)], [73, 74]⟩), (28, 9, ⟨[(87, kB)], [79, 80, 81, 82, 83, 84, 85, 86]⟩), (32, 3, ⟨[(85, kB)], [83, 84]⟩), (38, 8, ⟨[(96, kB)], [89, 90, 91, 92, 93, 94, 95]⟩), (41, 3, ⟨[(94, kB)], [92, 93]⟩), (47, 8, ⟨[(105, kB)], [98, 99, 100, 101, 102, 103, 104]⟩), (50, 3, ⟨[(103, kB)], [101, 102]⟩), (56, 16, ⟨[(122, kB)], [107, 108, 109, 110, 111, 112, 113, 114, 115, 116, 117, 118, 119, 120, 121]⟩), (63, 3, ⟨[(116, kB)], [114, 115]⟩), (67, 3, ⟨[(120, kB)], [118, 119]⟩)])]⟩ [.bool a0, .bool a1, .int .u8 a2, .bool a3] R w = sh5 a0 a1 a2 a3 R w := by kernel_rfl
theorem call5 {a0 : Bool} {a1 : Bool} {a2 : Int} {a3 : Bool} {w : World} {K : TK [kB] → World → Prop} (h : sh5 a0 a1 a2 a3 (fun vs w' => ∃ t, encK [kB] t = vs ∧ K t w') w) : cl Pg 5 [.bool a0, .bool a1, .int .u8 a2, .bool a3] [kB] w K := cl_of Try.func5 (tie5 ..) h
/-- (*detent/detentref23.Place).Enter -/
def sh17 (a0 : Option Addr) (a1 : Int) (R : List Value → World → Prop) (w : World) : Prop :=
 jn [kB] w (fun (t2 : Bool × Unit) w3 =>
 cs t2.1 (
 R [.int .i64 (-17)] w3) (
 dr w3 fun w5 =>
 jn [kB] w5 (fun (t7 : Bool × Unit) w8 =>
 cs t7.1 (
 R [.int .i64 (-25)] w8) (
 al w8 3 [] fun b10 w11 =>
 nn a0 fun b12 o13 =>
 ldS w11 b12 o13 fun s14 =>
 ef Pg (Builtin.append_ #[28, 28] 28 #[vS ⟨some ⟨b10, 0, none⟩, 0, 0⟩, vS s14]) [kS] w11 fun (r15 : Sl × Unit) w16 =>
 al w16 3 [.int .i64 a1] fun b17 w18 =>
 ef Pg (Builtin.append_ #[28, 28] 28 #[vS r15.1, vS ⟨some ⟨b17, 0, none⟩, 1, 1⟩]) [kS] w18 fun (r19 : Sl × Unit) w20 =>
 nn a0 fun b21 o22 =>
 st1 w20 b21 o22 (vS r19.1) fun w23 =>
 R [.int .i64 0] w23)) fun J6 w9 =>
 nn a0 fun b24 o25 =>
 ldB w9 b24 (o25 + 1) fun b26 =>
 cs b26 (
 J6 (true, ()) w9) (
 nn a0 fun b27 o28 =>
 ldS w9 b27 o28 fun s29 =>
 cs (decide ((s29.len : Int) > (0 : Int))) (
 nn a0 fun b30 o31 =>
 ldS w9 b30 o31 fun s32 =>
 nn a0 fun b33 o34 =>
 ldS w9 b33 o34 fun s35 =>
 ix s32 (w64 (s35.len - 1)) 1 fun b36 o37 =>
 ldI w9 .i64 b36 o37 fun n38 =>
 J6 (decide ((a1 : Int) ≤ (n38 : Int)), ()) w9) (
 J6 (false, ()) w9)))) fun J1 w4 =>
 cs (decide ((a1 : Int) < (1 : Int))) (
 J1 (true, ()) w4) (
 J1 (decide ((a1 : Int) > (15 : Int)), ()) w4)
theorem tie17 (a0 : Option Addr) (a1 : Int) (R : List Value → World → Prop) (w : World) : compF Pg Try.f17 ⟨[], [(3, ⟨[(38, kB)], [11, 12, 13, 14, 15, 16, 17, 18, 19, 20, 21, 22, 23, 24, 25, 26, 27, 28, 29, 30, 31, 32, 33, 34, 35, 36, 37]⟩)], [(3, .l [(0, []), (1, []), (2, []), (3, []), (4, []), (5, []), (6, []), (7, []), (8, []), (9, []), (10, []), (11, []), (12, []), (13, []), (14, []), (15, []), (16, []), (17, []), (18, []), (19, []), (20, []), (21, []), (22, []), (23, []), (24, []), (25, []), (26, []), (27, [])])], [(1, [(3, 3, ⟨[(10, kB)], [8, 9]⟩)])]⟩ [.pointer a0, .int .i64 a1] R w = sh17 a0 a1 R w := by kernel_rfl
theorem call17 {a0 : Option Addr} {a1 : Int} {w : World} {K : TK [kI] → World → Prop} (h : sh17 a0 a1 (fun vs w' => ∃ t, encK [kI] t = vs ∧ K t w') w) : cl Pg 17 [.pointer a0, .int .i64 a1] [kI] w K := cl_of Try.func17 (tie17 ..) h
/-- (*detent/detentref23.Place).Exit -/
def sh18 (a0 : Option Addr) (R : List Value → World → Prop) (w : World) : Prop :=
 nn a0 fun b1 o2 =>
 ldS w b1 o2 fun s3 =>
 cs ((s3.len : Int) == (0 : Int)) (
 R [.int .i64 (-25)] w) (
 dr w fun w4 =>
 nn a0 fun b5 o6 =>
 ldS w4 b5 o6 fun s7 =>
 nn a0 fun b8 o9 =>
 ldS w4 b8 o9 fun s10 =>
 sb s7 0 (w64 (s10.len - 1)) s7.cap 1 fun s11 =>
 al w4 3 [] fun b12 w13 =>
(w13.cell? ⟨b8, o9, none⟩ = some (vS s10)) ∧ (
(w13.cell? ⟨b5, o6, none⟩ = some (vS s7)) ∧ (
 ef Pg (Builtin.append_ #[28, 28] 28 #[vS ⟨some ⟨b12, 0, none⟩, 0, 0⟩, vS s11]) [kS] w13 fun (r14 : Sl × Unit) w15 =>
 nn a0 fun b16 o17 =>
 st1 w15 b16 o17 (vS r14.1) fun w18 =>
 R [.int .i64 0] w18)))
theorem tie18 (a0 : Option Addr) (R : List Value → World → Prop) (w : World) : compF Pg Try.f18 ⟨[], [], [(3, .l [(0, []), (2, []), (3, []), (4, []), (5, []), (6, []), (7, []), (8, []), (9, []), (10, []), (11, []), (12, []), (1, []), (13, [1, 12, 5, 11, 4, 10, 3, 9, 2, 8, 7, 6]), (14, []), (15, []), (16, [15, 13, 0, 1, 2, 3, 4, 5, 6, 7, 8, 9, 10, 11, 12, 14])])], []⟩ [.pointer a0] R w = sh18 a0 R w := by kernel_rfl
theorem call18 {a0 : Option Addr} {w : World} {K : TK [kI] → World → Prop} (h : sh18 a0 (fun vs w' => ∃ t, encK [kI] t = vs ∧ K t w') w) : cl Pg 18 [.pointer a0] [kI] w K := cl_of Try.func18 (tie18 ..) h
/-- detent/detentlaw3.Same -/
def sh19 (a0 : Sl) (a1 : Sl) (R : List Value → World → Prop) (w : World) : Prop :=
 cs ((a0.len : Int) != (a1.len : Int)) (
 R [.bool false] w) (
 lp [kI] w ((0 : Int), ()) fun (t1 : Int × Unit) J2 w3 =>
 cs (decide ((t1.1 : Int) < (a0.len : Int))) (
 dr w3 fun w4 =>
 ix a0 t1.1 1 fun b5 o6 =>
 ldI w4 .i64 b5 o6 fun n7 =>
 ix a1 t1.1 1 fun b8 o9 =>
 ldI w4 .i64 b8 o9 fun n10 =>
 cs ((n7 : Int) != (n10 : Int)) (
 R [.bool false] w4) (
 J2 (w64 (t1.1 + 1), ()) w4)) (
 R [.bool true] w3))
theorem tie19 (a0 : Sl) (a1 : Sl) (R : List Value → World → Prop) (w : World) : compF Pg Try.f19 ⟨[(2, ⟨[(5, kI)], [4, 11, 12, 13, 14, 15, 16, 17, 18, 19, 20, 21, 22, 23, 24, 25]⟩)], [], [(6, .l [(0, []), (1, []), (2, []), (3, []), (4, []), (5, []), (6, []), (7, []), (8, [])])], []⟩ [vS a0, vS a1] R w = sh19 a0 a1 R w := by kernel_rfl
theorem call19 {a0 : Sl} {a1 : Sl} {w : World} {K : TK [kB] → World → Prop} (h : sh19 a0 a1 (fun vs w' => ∃ t, encK [kB] t = vs ∧ K t w') w) : cl Pg 19 [vS a0, vS a1] [kB] w K := cl_of Try.func19 (tie19 ..) h
/-- (*detent/detentref23.Place).In -/
def sh20 (a0 : Option Addr) (R : List Value → World → Prop) (w : World) : Prop :=
 nn a0 fun b1 o2 =>
 ldS w b1 o2 fun s3 =>
 R [.bool (decide ((s3.len : Int) > (0 : Int)))] w
theorem tie20 (a0 : Option Addr) (R : List Value → World → Prop) (w : World) : compF Pg Try.f20 ⟨[], [], [], []⟩ [.pointer a0] R w = sh20 a0 R w := by kernel_rfl
theorem call20 {a0 : Option Addr} {w : World} {K : TK [kB] → World → Prop} (h : sh20 a0 (fun vs w' => ∃ t, encK [kB] t = vs ∧ K t w') w) : cl Pg 20 [.pointer a0] [kB] w K := cl_of Try.func20 (tie20 ..) h
/-- (*detent/ctx.state).Locked -/
def sh21 (a0 : Option Addr) (R : List Value → World → Prop) (w : World) : Prop :=
 nn a0 fun b1 o2 =>
 ldB w b1 (o2 + 1) fun b3 =>
 R [.bool b3] w
theorem tie21 (a0 : Option Addr) (R : List Value → World → Prop) (w : World) : compF Pg Try.f21 ⟨[], [], [], []⟩ [.pointer a0] R w = sh21 a0 R w := by kernel_rfl
theorem call21 {a0 : Option Addr} {w : World} {K : TK [kB] → World → Prop} (h : sh21 a0 (fun vs w' => ∃ t, encK [kB] t = vs ∧ K t w') w) : cl Pg 21 [.pointer a0] [kB] w K := cl_of Try.func21 (tie21 ..) h
/-- (*detent/ctx.state).Disabled -/
def sh22 (a0 : Option Addr) (R : List Value → World → Prop) (w : World) : Prop :=
 nn a0 fun b1 o2 =>
 ldB w b1 (o2 + 2) fun b3 =>
 R [.bool b3] w
theorem tie22 (a0 : Option Addr) (R : List Value → World → Prop) (w : World) : compF Pg Try.f22 ⟨[], [], [], []⟩ [.pointer a0] R w = sh22 a0 R w := by kernel_rfl
theorem call22 {a0 : Option Addr} {w : World} {K : TK [kB] → World → Prop} (h : sh22 a0 (fun vs w' => ∃ t, encK [kB] t = vs ∧ K t w') w) : cl Pg 22 [.pointer a0] [kB] w K := cl_of Try.func22 (tie22 ..) h
/-- (*detent/detentref23.Place).Dispatch -/
def sh23 (a0 : Option Addr) (R : List Value → World → Prop) (w : World) : Prop :=
 cl Pg 20 [.pointer a0] [kB] w fun (r1 : Bool × Unit) w2 =>
 jn [kB] w2 (fun (t4 : Bool × Unit) w5 =>
 jn [kB] w5 (fun (t8 : Bool × Unit) w9 =>
 R [.bool t8.1] w9) fun J7 w10 =>
 cs t4.1 (
 nn a0 fun b11 o12 =>
 ldB w10 b11 (o12 + 2) fun b13 =>
 J7 (!b13, ()) w10) (
 J7 (false, ()) w10)) fun J3 w6 =>
 cs (!r1.1) (
 nn a0 fun b14 o15 =>
 ldB w6 b14 (o15 + 1) fun b16 =>
 J3 (!b16, ()) w6) (
 J3 (false, ()) w6)
theorem tie23 (a0 : Option Addr) (R : List Value → World → Prop) (w : World) : compF Pg Try.f23 ⟨[], [], [], [(1, [(4, 6, ⟨[(12, kB)], [7, 8, 9, 10, 11]⟩), (11, 6, ⟨[(19, kB)], [14, 15, 16, 17, 18]⟩)])]⟩ [.pointer a0] R w = sh23 a0 R w := by kernel_rfl
theorem call23 {a0 : Option Addr} {w : World} {K : TK [kB] → World → Prop} (h : sh23 a0 (fun vs w' => ∃ t, encK [kB] t = vs ∧ K t w') w) : cl Pg 23 [.pointer a0] [kB] w K := cl_of Try.func23 (tie23 ..) h
/-- (*detent/detentref23.Place).May -/
def sh24 (a0 : Option Addr) (a1 : Int) (a2 : Bool) (R : List Value → World → Prop) (w : World) : Prop :=
 cl Pg 20 [.pointer a0] [kB] w fun (r1 : Bool × Unit) w2 =>
 jn [kB] w2 (fun (t4 : Bool × Unit) w5 =>
 jn [kB] w5 (fun (t8 : Bool × Unit) w9 =>
 cs t8.1 (
 R [.int .i64 0] w9) (
 R [.int .i64 (-25)] w9)) fun J7 w10 =>
 cs ((a1 : Int) == (0 : Int)) (
 J7 (true, ()) w10) (
 jn [kB] w10 (fun (t12 : Bool × Unit) w13 =>
 J7 (t12.1, ()) w13) fun J11 w14 =>
 cs ((a1 : Int) == (4 : Int)) (
 J11 (t4.1, ()) w14) (
 jn [kB] w14 (fun (t16 : Bool × Unit) w17 =>
 J11 (t16.1, ()) w17) fun J15 w18 =>
 cs ((a1 : Int) == (1 : Int)) (
 jn [kB] w18 (fun (t20 : Bool × Unit) w21 =>
 J15 (t20.1, ()) w21) fun J19 w22 =>
 cs t4.1 (
 nn a0 fun b23 o24 =>
 ldB w22 b23 (o24 + 1) fun b25 =>
 J19 (!b25, ()) w22) (
 J19 (false, ()) w22)) (
 jn [kB] w18 (fun (t27 : Bool × Unit) w28 =>
 J15 (t27.1, ()) w28) fun J26 w29 =>
 cs ((a1 : Int) == (2 : Int)) (
 jn [kB] w29 (fun (t31 : Bool × Unit) w32 =>
 jn [kB] w32 (fun (t35 : Bool × Unit) w36 =>
 J26 (t35.1, ()) w36) fun J34 w37 =>
 cs t31.1 (
 nn a0 fun b38 o39 =>
 ldB w37 b38 (o39 + 2) fun b40 =>
 J34 (!b40, ()) w37) (
 J34 (false, ()) w37)) fun J30 w33 =>
 cs t4.1 (
 nn a0 fun b41 o42 =>
 ldB w33 b41 (o42 + 1) fun b43 =>
 J30 (!b43, ()) w33) (
 J30 (false, ()) w33)) (
 jn [kB] w29 (fun (t45 : Bool × Unit) w46 =>
 J26 (t45.1, ()) w46) fun J44 w47 =>
 cs ((a1 : Int) == (3 : Int)) (
 cl Pg 20 [.pointer a0] [kB] w47 fun (r48 : Bool × Unit) w49 =>
 jn [kB] w49 (fun (t51 : Bool × Unit) w52 =>
 J44 (t51.1, ()) w52) fun J50 w53 =>
 cs r48.1 (
 nn a0 fun b54 o55 =>
 ldB w53 b54 (o55 + 1) fun b56 =>
 J50 (!b56, ()) w53) (
 J50 (false, ()) w53)) (
 J44 (false, ()) w47)))))) fun J3 w6 =>
 cs (!r1.1) (
 J3 (!a2, ()) w6) (
 J3 (false, ()) w6)
theorem tie24 (a0 : Option Addr) (a1 : Int) (a2 : Bool) (R : List Value → World → Prop) (w : World) : compF Pg Try.f24 ⟨[(1, ⟨[(8, kB)], [19, 20, 21, 22, 23, 24, 25, 26, 27, 28, 29, 30, 31, 32, 33, 34, 35, 36, 37, 38, 39, 40, 41, 42, 43, 44, 45, 46, 47, 48, 49, 50, 51, 52, 53, 54, 55, 56, 57, 58, 59]⟩), (2, ⟨[(8, kB)], [21, 22, 23, 24, 25, 26, 27, 28, 29, 30, 31, 32, 33, 34, 35, 36, 37, 38, 39, 40, 41, 42, 43, 44, 45, 46, 47, 48, 49, 50, 51, 52, 53, 54, 55, 56, 57, 58, 59]⟩), (3, ⟨[(8, kB)], [24, 25, 26, 27, 28, 29, 30, 31, 32, 33, 34, 35, 36, 37, 38, 39, 40, 41, 42, 43, 44, 45, 46, 47, 48, 49, 50, 51, 52, 53, 54, 55, 56, 57, 58, 59]⟩), (4, ⟨[(8, kB)], [34, 35, 36, 37, 38, 39, 40, 41, 42, 43, 44, 45, 46, 47, 48, 49, 50, 51, 52, 53, 54, 55, 56, 57, 58, 59]⟩), (5, ⟨[(8, kB)], [51, 52, 53, 54, 55, 56, 57, 58, 59]⟩)], [], [], [(1, [(4, 3, ⟨[(15, kB)], [13, 14]⟩)]), (9, [(2, 6, ⟨[(31, kB)], [26, 27, 28, 29, 30]⟩)]), (11, [(2, 6, ⟨[(41, kB)], [36, 37, 38, 39, 40]⟩), (9, 6, ⟨[(48, kB)], [43, 44, 45, 46, 47]⟩)]), (13, [(3, 6, ⟨[(59, kB)], [54, 55, 56, 57, 58]⟩)])]⟩ [.pointer a0, .int .i64 a1, .bool a2] R w = sh24 a0 a1 a2 R w := by kernel_rfl
theorem call24 {a0 : Option Addr} {a1 : Int} {a2 : Bool} {w : World} {K : TK [kI] → World → Prop} (h : sh24 a0 a1 a2 (fun vs w' => ∃ t, encK [kI] t = vs ∧ K t w') w) : cl Pg 24 [.pointer a0, .int .i64 a1, .bool a2] [kI] w K := cl_of Try.func24 (tie24 ..) h
/-- detent/detentlaw23.PlacePlays -/
def sh6 (a0 : Sl) (a1 : Int) (R : List Value → World → Prop) (w : World) : Prop :=
 cl Pg 7 [] [kB] w fun (r1 : Bool × Unit) w2 =>
 cs (!r1.1) (
 R [.bool false] w2) (
 cs (decide ((a0.len : Int) > (100 : Int))) (
 R [.bool true] w2) (
 cl Pg 8 [] [kP] w2 fun (r3 : Option Addr × Unit) w4 =>
 al w4 43 [.slice none 0 0, .bool false, .bool false] fun b5 w6 =>
 lp [kI] w6 ((0 : Int), ()) fun (t7 : Int × Unit) J8 w9 =>
 cs (decide ((t7.1 : Int) < (a0.len : Int))) (
 ix a0 t7.1 3 fun b10 o11 =>
 ldI w9 .i64 b10 o11 fun n12 =>
 jn [] w9 (fun (t14 : Unit) w15 =>
 dr w15 fun w17 =>
 jn [kB] w17 (fun (t19 : Bool × Unit) w20 =>
 cs t19.1 (
 R [.bool false] w20) (
 lp [kI] w20 ((0 : Int), ()) fun (t22 : Int × Unit) J23 w24 =>
 cs (decide ((t22.1 : Int) < (5 : Int))) (
 cl Pg 16 [.pointer r3.1, .int .i64 t22.1, .bool false] [kI] w24 fun (r25 : Int × Unit) w26 =>
 cl Pg 24 [.pointer (some ⟨b5, 0, none⟩), .int .i64 t22.1, .bool false] [kI] w26 fun (r27 : Int × Unit) w28 =>
 jn [kB] w28 (fun (t30 : Bool × Unit) w31 =>
 cs t30.1 (
 R [.bool false] w31) (
 J23 (w64 (t22.1 + 1), ()) w31)) fun J29 w32 =>
 cs ((r25.1 : Int) != (r27.1 : Int)) (
 J29 (true, ()) w32) (
 cl Pg 16 [.pointer r3.1, .int .i64 t22.1, .bool true] [kI] w32 fun (r33 : Int × Unit) w34 =>
 cl Pg 24 [.pointer (some ⟨b5, 0, none⟩), .int .i64 t22.1, .bool true] [kI] w34 fun (r35 : Int × Unit) w36 =>
 J29 ((r33.1 : Int) != (r35.1 : Int), ()) w36)) (
 cl Pg 16 [.pointer r3.1, .int .i64 a1, .bool false] [kI] w24 fun (r37 : Int × Unit) w38 =>
 cl Pg 24 [.pointer (some ⟨b5, 0, none⟩), .int .i64 a1, .bool false] [kI] w38 fun (r39 : Int × Unit) w40 =>
 cs ((r37.1 : Int) != (r39.1 : Int)) (
 R [.bool false] w40) (
 J8 (w64 (t7.1 + 1), ()) w40)))) fun J18 w21 =>
 nn r3.1 fun b41 o42 =>
 nn (some ⟨b5, 0, none⟩) fun b43 o44 =>
 ldS w21 b43 o44 fun s45 =>
 cl Pg 14 [.pointer (some ⟨b41, o42, none⟩)] [kS] w21 fun (r46 : Sl × Unit) w47 =>
(w47.cell? ⟨b43, o44, none⟩ = some (vS s45)) ∧ (
 cl Pg 19 [vS r46.1, vS s45] [kB] w47 fun (r48 : Bool × Unit) w49 =>
 cs (!r48.1) (
 J18 (true, ()) w49) (
 nn r3.1 fun b50 o51 =>
 cl Pg 10 [.pointer (some ⟨b50, o51, none⟩)] [kB] w49 fun (r52 : Bool × Unit) w53 =>
 cl Pg 20 [.pointer (some ⟨b5, 0, none⟩)] [kB] w53 fun (r54 : Bool × Unit) w55 =>
 cs (!(r52.1 == r54.1)) (
 J18 (true, ()) w55) (
 nn r3.1 fun b56 o57 =>
 nn (some ⟨b5, 0, none⟩) fun b58 o59 =>
 ldB w55 b58 (o59 + 1) fun b60 =>
 cl Pg 21 [.pointer (some ⟨b56, o57, none⟩)] [kB] w55 fun (r61 : Bool × Unit) w62 =>
(w62.cell? ⟨b58, o59 + 1, none⟩ = some (.bool b60)) ∧ (
 cs (!(r61.1 == b60)) (
 J18 (true, ()) w62) (
 nn r3.1 fun b63 o64 =>
 nn (some ⟨b5, 0, none⟩) fun b65 o66 =>
 ldB w62 b65 (o66 + 2) fun b67 =>
 cl Pg 22 [.pointer (some ⟨b63, o64, none⟩)] [kB] w62 fun (r68 : Bool × Unit) w69 =>
(w69.cell? ⟨b65, o66 + 2, none⟩ = some (.bool b67)) ∧ (
 cs (!(r68.1 == b67)) (
 J18 (true, ()) w69) (
 nn r3.1 fun b70 o71 =>
 cl Pg 11 [.pointer (some ⟨b70, o71, none⟩)] [kB] w69 fun (r72 : Bool × Unit) w73 =>
 cl Pg 23 [.pointer (some ⟨b5, 0, none⟩)] [kB] w73 fun (r74 : Bool × Unit) w75 =>
 J18 (!(r72.1 == r74.1), ()) w75)))))))) fun J13 w16 =>
 cs ((n12 : Int) == (1 : Int)) (
 dr w16 fun w76 =>
 ix a0 t7.1 3 fun b77 o78 =>
 ldI w76 .i64 b77 (o78 + 1) fun n79 =>
 ix a0 t7.1 3 fun b80 o81 =>
 ldI w76 .i64 b80 (o81 + 1) fun n82 =>
 cl Pg 9 [.pointer r3.1, .int .i64 n79] [kI] w76 fun (r83 : Int × Unit) w84 =>
(w84.cell? ⟨b80, o81 + 1, none⟩ = some (.int .i64 n82)) ∧ (
 cl Pg 17 [.pointer (some ⟨b5, 0, none⟩), .int .i64 n82] [kI] w84 fun (r85 : Int × Unit) w86 =>
 cs ((r83.1 : Int) != (r85.1 : Int)) (
 R [.bool false] w86) (
 J13 () w86))) (
 jn [] w16 (fun (t88 : Unit) w89 =>
 J13 () w89) fun J87 w90 =>
 cs ((n12 : Int) == (2 : Int)) (
 cl Pg 12 [.pointer r3.1] [kI] w90 fun (r91 : Int × Unit) w92 =>
 cl Pg 18 [.pointer (some ⟨b5, 0, none⟩)] [kI] w92 fun (r93 : Int × Unit) w94 =>
 cs ((r91.1 : Int) != (r93.1 : Int)) (
 R [.bool false] w94) (
 J87 () w94)) (
 jn [] w90 (fun (t96 : Unit) w97 =>
 J87 () w97) fun J95 w98 =>
 cs ((n12 : Int) == (3 : Int)) (
 ix a0 t7.1 3 fun b99 o100 =>
 ldB w98 b99 (o100 + 2) fun b101 =>
 cl Pg 13 [.pointer r3.1, .bool b101] [] w98 fun (r102 : Unit) w103 =>
 ix a0 t7.1 3 fun b104 o105 =>
 ldB w103 b104 (o105 + 2) fun b106 =>
 nn (some ⟨b5, 0, none⟩) fun b107 o108 =>
 st1 w103 b107 (o108 + 1) (.bool b106) fun w109 =>
 J95 () w109) (
 jn [] w98 (fun (t111 : Unit) w112 =>
 J95 () w112) fun J110 w113 =>
 cs ((n12 : Int) == (4 : Int)) (
 ix a0 t7.1 3 fun b114 o115 =>
 ldB w113 b114 (o115 + 2) fun b116 =>
 cl Pg 15 [.pointer r3.1, .bool b116] [] w113 fun (r117 : Unit) w118 =>
 ix a0 t7.1 3 fun b119 o120 =>
 ldB w118 b119 (o120 + 2) fun b121 =>
 nn (some ⟨b5, 0, none⟩) fun b122 o123 =>
 st1 w118 b122 (o123 + 2) (.bool b121) fun w124 =>
 J110 () w124) (
 J110 () w113))))) (
 R [.bool true] w9)))
theorem tie6 (a0 : Sl) (a1 : Int) (R : List Value → World → Prop) (w : World) : compF Pg Try.f6 ⟨[(3, ⟨[(7, kI)], [4, 8, 17, 18, 19, 20, 21, 22, 23, 24, 25, 26, 27, 28, 29, 30, 31, 32, 33, 34, 35, 36, 37, 38, 39, 40, 41, 42, 43, 44, 45, 46, 47, 48, 49, 50, 51, 52, 53, 54, 55, 56, 57, 58, 59, 60, 61, 62, 63, 64, 65, 66, 67, 68, 69, 70, 71, 72, 73, 74, 75, 76, 77, 78, 79, 80, 81, 82, 83, 84, 85, 86, 87, 88, 89, 90, 91, 92, 93, 94, 95, 96, 97, 98, 99, 100, 101, 102, 103, 104, 105, 106, 107, 108, 109, 110, 111, 112, 113, 114, 115, 116, 117, 118, 119, 120, 121, 122, 123, 124, 125, 126, 127, 128, 129, 130, 131, 132, 133, 134, 135, 136, 137, 138, 139, 140, 141, 142, 143, 144, 145, 146, 147, 148, 149, 150, 151, 152, 153, 154, 155, 156, 157, 158, 159, 160, 161, 162]⟩), (7, ⟨[], [4, 30, 31, 32, 33, 34, 35, 36, 37, 38, 39, 40, 41, 42, 43, 44, 45, 46, 47, 48, 49, 50, 51, 52, 53, 54, 55, 56, 57, 58, 59, 60, 61, 62, 63, 64, 65, 66, 67, 68, 69, 70, 71, 72, 73, 74, 75, 76, 77, 78, 79, 80, 81, 82, 83, 84, 85]⟩), (15, ⟨[(8, kI)], [4, 136, 137, 138, 139, 140, 141, 142, 143, 144, 145, 146, 147, 148, 149, 150, 151, 152, 153, 154, 155]⟩), (9, ⟨[], [4, 47, 48, 49, 50, 51, 52, 53, 54, 55, 56, 57, 58, 59, 60, 61, 62, 63, 64, 65, 66, 67, 68, 69, 70, 71, 72, 73, 74, 75, 76, 77, 78, 79, 80, 81, 82, 83, 84, 85]⟩), (11, ⟨[], [54, 55, 56, 57, 58, 59, 60, 61, 62, 63, 64, 65, 66, 67, 68, 69, 70, 71, 72, 73, 74, 75, 76, 77, 78, 79, 80, 81, 82, 83, 84, 85]⟩), (12, ⟨[], [71, 72, 73, 74, 75, 76, 77, 78, 79, 80, 81, 82, 83, 84, 85]⟩)], [(23, ⟨[(135, kB)], [86, 87, 88, 89, 90, 91, 92, 93, 94, 95, 96, 97, 98, 99, 100, 101, 102, 103, 104, 105, 106, 107, 108, 109, 110, 111, 112, 113, 114, 115, 116, 117, 118, 119, 120, 121, 122, 123, 124, 125, 126, 127, 128, 129, 130, 131, 132, 133, 134]⟩)], [(23, .l [(0, []), (1, []), (2, []), (4, []), (5, []), (6, []), (7, []), (3, [2, 1, 0]), (8, [3, 7, 2, 6, 1, 5, 0, 4]), (9, []), (10, []), (11, []), (12, []), (13, []), (15, []), (14, [13, 10, 12, 9, 8, 11, 3, 7, 2, 6, 1, 5, 0, 4]), (16, [15, 14, 10, 13, 9, 8, 12, 3, 7, 11, 2, 6, 1, 5, 0, 4]), (17, []), (18, []), (19, []), (20, []), (21, []), (22, []), (24, []), (25, []), (26, []), (27, []), (23, [22, 19, 21, 18, 16, 20, 10, 17, 15, 14, 9, 8, 13, 3, 7, 12, 2, 6, 11, 1, 5, 0, 4]), (28, []), (29, []), (30, []), (31, []), (32, []), (33, []), (35, []), (36, []), (37, []), (38, []), (34, [33, 30, 32, 29, 23, 31, 19, 28, 22, 18, 16, 27, 21, 10, 17, 15, 14, 26, 20, 9, 8, 13, 25, 3, 7, 12, 24, 2, 6, 11, 1, 5, 0, 4]), (39, []), (40, []), (41, []), (42, []), (43, []), (44, []), (46, []), (45, [44, 41, 43, 40, 34, 42, 30, 39, 33, 29, 23, 38, 32, 19, 28, 22, 37, 31, 18, 16, 27, 21, 36, 10, 17, 15, 14, 26, 20, 35, 9, 8, 13, 25, 3, 7, 12, 24, 2, 6, 11, 1, 5, 0, 4]), (47, [46, 45, 41, 44, 40, 34, 43, 30, 39, 33, 42, 29, 23, 38, 32, 19, 28, 22, 37, 31, 18, 16, 27, 21, 36, 10, 17, 15, 14, 26, 20, 35, 9, 8, 13, 25, 3, 7, 12, 24, 2, 6, 11, 1, 5, 0, 4]), (48, []), (49, [])]), (12, .l [(0, []), (1, []), (2, []), (3, []), (4, []), (5, []), (7, []), (8, []), (9, []), (10, []), (11, []), (12, []), (6, [0, 5, 4, 3, 1, 2]), (13, [7, 12, 6, 11, 0, 5, 10, 4, 8, 9, 3, 1, 2]), (14, [])])], [(28, [(8, 8, ⟨[(155, kB)], [148, 149, 150, 151, 152, 153, 154]⟩)])]⟩ [vS a0, .int .i64 a1] R w = sh6 a0 a1 R w := by kernel_rfl
theorem call6 {a0 : Sl} {a1 : Int} {w : World} {K : TK [kB] → World → Prop} (h : sh6 a0 a1 (fun vs w' => ∃ t, encK [kB] t = vs ∧ K t w') w) : cl Pg 6 [vS a0, .int .i64 a1] [kB] w K := cl_of Try.func6 (tie6 ..) h
end Go.Proofs.Ytbpdkchglmpnkaa.B
