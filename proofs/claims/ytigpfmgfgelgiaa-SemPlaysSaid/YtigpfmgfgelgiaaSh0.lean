/- Printed by sh.py: each Go function as a typed shallow program, and its tie to the code. -/
import Derived.Test.YtigpfmgfgelgiaaSound4
import Derived.Test.YtigpfmgfgelgiaaProg
namespace Go.Proofs.Ytigpfmgfgelgiaa.B
open Go Go.Proofs
set_option linter.unusedVariables false
set_option maxRecDepth 100000
noncomputable abbrev Pg : Program := Try.prog
/-- detent/order.New -/
def sh24 (a0 : Bool) (R : List Value → World → Prop) (w : World) : Prop :=
 al w 38 [.slice none 0 0, .bool a0] fun b1 w2 =>
 R [.pointer (some ⟨b1, 0, none⟩)] w2
theorem tie24 (a0 : Bool) (R : List Value → World → Prop) (w : World) : compF Pg Try.f24 ⟨[], [], [], []⟩ [.bool a0] R w = sh24 a0 R w := by kernel_rfl
theorem call24 {a0 : Bool} {w : World} {K : TK [kP] → World → Prop} (h : sh24 a0 (fun vs w' => ∃ t, encK [kP] t = vs ∧ K t w') w) : cl Pg 24 [.bool a0] [kP] w K := cl_of Try.func24 (tie24 ..) h
/-- detent/sem.NewSem -/
def sh8 (a0 : Bool) (a1 : Int) (a2 : Int) (R : List Value → World → Prop) (w : World) : Prop :=
 jn [kB] w (fun (t2 : Bool × Unit) w3 =>
 jn [kB] w3 (fun (t6 : Bool × Unit) w7 =>
 jn [kB] w7 (fun (t10 : Bool × Unit) w11 =>
 cs t10.1 (
 R [.pointer none, .int .i64 (-17)] w11) (
 cl Pg 24 [.bool a0] [kP] w11 fun (r13 : Option Addr × Unit) w14 =>
 al w14 33 [.pointer r13.1, .int .i64 a1, .int .i64 a2] fun b15 w16 =>
 R [.pointer (some ⟨b15, 0, none⟩), .int .i64 0] w16)) fun J9 w12 =>
 cs t6.1 (
 J9 (true, ()) w12) (
 J9 (decide ((a1 : Int) > (a2 : Int)), ()) w12)) fun J5 w8 =>
 cs t2.1 (
 J5 (true, ()) w8) (
 J5 (decide ((a1 : Int) < (0 : Int)), ()) w8)) fun J1 w4 =>
 cs (decide ((a2 : Int) < (1 : Int))) (
 J1 (true, ()) w4) (
 J1 (decide ((a2 : Int) > (65535 : Int)), ()) w4)
theorem tie8 (a0 : Bool) (a1 : Int) (a2 : Int) (R : List Value → World → Prop) (w : World) : compF Pg Try.f8 ⟨[], [], [], [(1, [(3, 3, ⟨[(13, kB)], [11, 12]⟩), (7, 3, ⟨[(17, kB)], [15, 16]⟩), (11, 4, ⟨[(22, kB)], [19, 20, 21]⟩)])]⟩ [.bool a0, .int .i64 a1, .int .i64 a2] R w = sh8 a0 a1 a2 R w := by kernel_rfl
theorem call8 {a0 : Bool} {a1 : Int} {a2 : Int} {w : World} {K : TK [kP, kI] → World → Prop} (h : sh8 a0 a1 a2 (fun vs w' => ∃ t, encK [kP, kI] t = vs ∧ K t w') w) : cl Pg 8 [.bool a0, .int .i64 a1, .int .i64 a2] [kP, kI] w K := cl_of Try.func8 (tie8 ..) h
/-- slices.IndexFunc[[]detent/order.Item,detent/order.Item] -/
def sh40 (a0 : Sl) (a1 : Fv) (R : List Value → World → Prop) (w : World) : Prop :=
 lp [kI] w ((0 : Int), ()) fun (t1 : Int × Unit) J2 w3 =>
 cs (decide ((t1.1 : Int) < ((a0.len : Int) : Int))) (
 ix a0 t1.1 2 fun b4 o5 =>
 ldI w3 .i64 b4 o5 fun n6 =>
 ldI w3 .i64 b4 (o5 + 1) fun n7 =>
 ob (enterable Pg a1.fid = true) (
 cl Pg a1.fid (a1.pre ++ ([.agg #[.int .i64 n6, .int .i64 n7]] ++ a1.post)) [kB] w3 fun (r8 : Bool × Unit) w9 =>
 cs r8.1 (
 R [.int .i64 t1.1] w9) (
 J2 (w64 (t1.1 + 1), ()) w9))) (
 R [.int .i64 (-1)] w3)
theorem tie40 (a0 : Sl) (a1 : Fv) (R : List Value → World → Prop) (w : World) : compF Pg Try.f40 ⟨[(1, ⟨[(8, kI)], [4, 5, 9, 10, 11, 12, 13, 14, 15, 16, 17, 18]⟩)], [], [], []⟩ [vS a0, vF a1] R w = sh40 a0 a1 R w := by kernel_rfl
theorem call40 {a0 : Sl} {a1 : Fv} {w : World} {K : TK [kI] → World → Prop} (h : sh40 a0 a1 (fun vs w' => ∃ t, encK [kI] t = vs ∧ K t w') w) : cl Pg 40 [vS a0, vF a1] [kI] w K := cl_of Try.func40 (tie40 ..) h
/-- (*detent/order.Line).at$1 -/
def sh41 (a0 : (Int × Int × Unit)) (c0 : Nat) (R : List Value → World → Prop) (w : World) : Prop :=
 al w 64 [.int .i64 a0.1, .int .i64 a0.2.1] fun b1 w2 =>
 ldI w2 .i64 b1 0 fun n3 =>
 ldI w2 .i64 c0 0 fun n4 =>
 R [.bool ((n3 : Int) == (n4 : Int))] w2
theorem tie41 (a0 : (Int × Int × Unit)) (c0 : Nat) (R : List Value → World → Prop) (w : World) : compF Pg Try.f41 ⟨[], [], [], []⟩ [.agg #[.int .i64 a0.1, .int .i64 a0.2.1], .pointer (some ⟨c0, 0, none⟩)] R w = sh41 a0 c0 R w := by kernel_rfl
theorem call41 {a0 : (Int × Int × Unit)} {c0 : Nat} {w : World} {K : TK [kB] → World → Prop} (h : sh41 a0 c0 (fun vs w' => ∃ t, encK [kB] t = vs ∧ K t w') w) : cl Pg 41 [.agg #[.int .i64 a0.1, .int .i64 a0.2.1], .pointer (some ⟨c0, 0, none⟩)] [kB] w K := cl_of Try.func41 (tie41 ..) h
/-- (*detent/order.Line).at -/
def sh26 (a0 : Option Addr) (a1 : Int) (R : List Value → World → Prop) (w : World) : Prop :=
 al w 3 [.int .i64 a1] fun b1 w2 =>
 nn a0 fun b3 o4 =>
 ldS w2 b3 o4 fun s5 =>
 cl Pg 40 [vS s5, .func (.func 41) #[] #[.pointer (some ⟨b1, 0, none⟩)]] [kI] w2 fun (r6 : Int × Unit) w7 =>
 R [.int .i64 r6.1] w7
theorem tie26 (a0 : Option Addr) (a1 : Int) (R : List Value → World → Prop) (w : World) : compF Pg Try.f26 ⟨[], [], [], []⟩ [.pointer a0, .int .i64 a1] R w = sh26 a0 a1 R w := by kernel_rfl
theorem call26 {a0 : Option Addr} {a1 : Int} {w : World} {K : TK [kI] → World → Prop} (h : sh26 a0 a1 (fun vs w' => ∃ t, encK [kI] t = vs ∧ K t w') w) : cl Pg 26 [.pointer a0, .int .i64 a1] [kI] w K := cl_of Try.func26 (tie26 ..) h
/-- slices.Delete[[]detent/order.Item,detent/order.Item] -/
def sh30 (a0 : Sl) (a1 : Int) (a2 : Int) (R : List Value → World → Prop) (w : World) : Prop :=
 sb a0 a1 a2 (a0.len : Int) 2 fun s1 =>
 cs ((a1 : Int) == (a2 : Int)) (
 R [vS a0] w) (
 dr w fun w2 =>
 sb a0 0 a1 a0.cap 2 fun s3 =>
 sb a0 a2 a0.len a0.cap 2 fun s4 =>
 ef Pg (Builtin.append_ #[34, 34] 34 #[vS s3, vS s4]) [kS] w2 fun (r5 : Sl × Unit) w6 =>
 sb r5.1 (r5.1.len : Int) (a0.len : Int) r5.1.cap 2 fun s7 =>
 ef Pg (Builtin.clear_ #[34] 0 #[vS s7]) [] w6 fun (r8 : Unit) w9 =>
 R [vS r5.1] w9)
theorem tie30 (a0 : Sl) (a1 : Int) (a2 : Int) (R : List Value → World → Prop) (w : World) : compF Pg Try.f30 ⟨[], [], [(5, .l [(0, []), (1, []), (2, []), (3, []), (4, []), (5, []), (6, [2, 5, 0, 1, 3, 4]), (7, [])])], []⟩ [vS a0, .int .i64 a1, .int .i64 a2] R w = sh30 a0 a1 a2 R w := by kernel_rfl
theorem call30 {a0 : Sl} {a1 : Int} {a2 : Int} {w : World} {K : TK [kS] → World → Prop} (h : sh30 a0 a1 a2 (fun vs w' => ∃ t, encK [kS] t = vs ∧ K t w') w) : cl Pg 30 [vS a0, .int .i64 a1, .int .i64 a2] [kS] w K := cl_of Try.func30 (tie30 ..) h
/-- (*detent/order.Line).Remove -/
def sh18 (a0 : Option Addr) (a1 : Int) (R : List Value → World → Prop) (w : World) : Prop :=
 cl Pg 26 [.pointer a0, .int .i64 a1] [kI] w fun (r1 : Int × Unit) w2 =>
 cs (decide ((r1.1 : Int) < (0 : Int))) (
 R [.bool false] w2) (
 nn a0 fun b3 o4 =>
 ldS w2 b3 o4 fun s5 =>
 cl Pg 30 [vS s5, .int .i64 r1.1, .int .i64 (w64 (r1.1 + 1))] [kS] w2 fun (r6 : Sl × Unit) w7 =>
 nn a0 fun b8 o9 =>
 st1 w7 b8 o9 (vS r6.1) fun w10 =>
 R [.bool true] w10)
theorem tie18 (a0 : Option Addr) (a1 : Int) (R : List Value → World → Prop) (w : World) : compF Pg Try.f18 ⟨[], [], [], []⟩ [.pointer a0, .int .i64 a1] R w = sh18 a0 a1 R w := by kernel_rfl
theorem call18 {a0 : Option Addr} {a1 : Int} {w : World} {K : TK [kB] → World → Prop} (h : sh18 a0 a1 (fun vs w' => ∃ t, encK [kB] t = vs ∧ K t w') w) : cl Pg 18 [.pointer a0, .int .i64 a1] [kB] w K := cl_of Try.func18 (tie18 ..) h
/-- (*detent/order.Line).First -/
def sh38 (a0 : Option Addr) (R : List Value → World → Prop) (w : World) : Prop :=
 al w 64 [.int .i64 0, .int .i64 0] fun b1 w2 =>
 nn a0 fun b3 o4 =>
 ldS w2 b3 o4 fun s5 =>
 cs (((s5.len : Int) : Int) == (0 : Int)) (
 st1 w2 b1 0 (.int .i64 0) fun w6 =>
 st1 w6 b1 (0 + 1) (.int .i64 0) fun w7 =>
 ldI w7 .i64 b1 0 fun n8 =>
 ldI w7 .i64 b1 (0 + 1) fun n9 =>
 R [.agg #[.int .i64 n8, .int .i64 n9], .bool false] w7) (
 nn a0 fun b10 o11 =>
 ldS w2 b10 o11 fun s12 =>
 ix s12 0 2 fun b13 o14 =>
 ldI w2 .i64 b13 o14 fun n15 =>
 ldI w2 .i64 b13 (o14 + 1) fun n16 =>
 st1 w2 b1 0 (.int .i64 n15) fun w17 =>
 st1 w17 b1 (0 + 1) (.int .i64 n16) fun w18 =>
 ldI w18 .i64 b1 0 fun n19 =>
 ldI w18 .i64 b1 (0 + 1) fun n20 =>
 R [.agg #[.int .i64 n19, .int .i64 n20], .bool true] w18)
theorem tie38 (a0 : Option Addr) (R : List Value → World → Prop) (w : World) : compF Pg Try.f38 ⟨[], [], [], []⟩ [.pointer a0] R w = sh38 a0 R w := by kernel_rfl
theorem call38 {a0 : Option Addr} {w : World} {K : TK [.a [(.i .i64), (.i .i64)], kB] → World → Prop} (h : sh38 a0 (fun vs w' => ∃ t, encK [.a [(.i .i64), (.i .i64)], kB] t = vs ∧ K t w') w) : cl Pg 38 [.pointer a0] [.a [(.i .i64), (.i .i64)], kB] w K := cl_of Try.func38 (tie38 ..) h
/-- (*detent/order.Queue).Take -/
def sh25 (a0 : Option Addr) (R : List Value → World → Prop) (w : World) : Prop :=
 al w 64 [.int .i64 0, .int .i64 0] fun b1 w2 =>
 nn a0 fun b3 o4 =>
 cl Pg 38 [.pointer (some ⟨b3, o4, none⟩)] [.a [(.i .i64), (.i .i64)], kB] w2 fun (r5 : (Int × Int × Unit) × Bool × Unit) w6 =>
 al w6 64 [.int .i64 0, .int .i64 0] fun b7 w8 =>
 st1 w8 b7 0 (.int .i64 r5.1.1) fun w9 =>
 st1 w9 b7 (0 + 1) (.int .i64 r5.1.2.1) fun w10 =>
 jn [] w10 (fun (t12 : Unit) w13 =>
 ldI w13 .i64 b7 0 fun n15 =>
 ldI w13 .i64 b7 (0 + 1) fun n16 =>
 st1 w13 b1 0 (.int .i64 n15) fun w17 =>
 st1 w17 b1 (0 + 1) (.int .i64 n16) fun w18 =>
 ldI w18 .i64 b1 0 fun n19 =>
 ldI w18 .i64 b1 (0 + 1) fun n20 =>
 R [.agg #[.int .i64 n19, .int .i64 n20], .bool r5.2.1] w18) fun J11 w14 =>
 cs r5.2.1 (
 dr w14 fun w21 =>
 nn a0 fun b22 o23 =>
 ldI w21 .i64 b7 0 fun n24 =>
 cl Pg 18 [.pointer (some ⟨b22, o23, none⟩), .int .i64 n24] [kB] w21 fun (r25 : Bool × Unit) w26 =>
 J11 () w26) (
 J11 () w14)
theorem tie25 (a0 : Option Addr) (R : List Value → World → Prop) (w : World) : compF Pg Try.f25 ⟨[(0, ⟨[], [14, 15, 16, 17, 18, 19]⟩)], [], [(3, .l [(0, []), (1, []), (2, []), (3, []), (4, []), (5, [2, 4, 1, 3, 0])])], []⟩ [.pointer a0] R w = sh25 a0 R w := by kernel_rfl
theorem call25 {a0 : Option Addr} {w : World} {K : TK [.a [(.i .i64), (.i .i64)], kB] → World → Prop} (h : sh25 a0 (fun vs w' => ∃ t, encK [.a [(.i .i64), (.i .i64)], kB] t = vs ∧ K t w') w) : cl Pg 25 [.pointer a0] [.a [(.i .i64), (.i .i64)], kB] w K := cl_of Try.func25 (tie25 ..) h
/-- (*detent/sem.Sem).Signal -/
def sh9 (a0 : Option Addr) (R : List Value → World → Prop) (w : World) : Prop :=
 nn a0 fun b1 o2 =>
 ldP w b1 o2 fun p3 =>
 cl Pg 25 [.pointer p3] [.a [(.i .i64), (.i .i64)], kB] w fun (r4 : (Int × Int × Unit) × Bool × Unit) w5 =>
 al w5 64 [.int .i64 0, .int .i64 0] fun b6 w7 =>
 st1 w7 b6 0 (.int .i64 r4.1.1) fun w8 =>
 st1 w8 b6 (0 + 1) (.int .i64 r4.1.2.1) fun w9 =>
 cs r4.2.1 (
 ldI w9 .i64 b6 0 fun n10 =>
 R [.int .i64 n10, .int .i64 0] w9) (
 dr w9 fun w11 =>
 nn a0 fun b12 o13 =>
 ldI w11 .i64 b12 (o13 + 1) fun n14 =>
 nn a0 fun b15 o16 =>
 ldI w11 .i64 b15 (o16 + 2) fun n17 =>
 cs (decide ((n14 : Int) ≥ (n17 : Int))) (
 R [.int .i64 0, .int .i64 (-43)] w11) (
 nn a0 fun b18 o19 =>
 ldI w11 .i64 b18 (o19 + 1) fun n20 =>
 nn a0 fun b21 o22 =>
 st1 w11 b21 (o22 + 1) (.int .i64 (w64 (n20 + 1))) fun w23 =>
 R [.int .i64 0, .int .i64 0] w23))
theorem tie9 (a0 : Option Addr) (R : List Value → World → Prop) (w : World) : compF Pg Try.f9 ⟨[], [], [(4, .l [(0, []), (1, []), (2, []), (3, []), (4, []), (5, []), (6, []), (7, []), (8, [])])], []⟩ [.pointer a0] R w = sh9 a0 R w := by kernel_rfl
theorem call9 {a0 : Option Addr} {w : World} {K : TK [kI, kI] → World → Prop} (h : sh9 a0 (fun vs w' => ∃ t, encK [kI, kI] t = vs ∧ K t w') w) : cl Pg 9 [.pointer a0] [kI, kI] w K := cl_of Try.func9 (tie9 ..) h
/-- (*detent/order.Line).Len -/
def sh10 (a0 : Option Addr) (R : List Value → World → Prop) (w : World) : Prop :=
 nn a0 fun b1 o2 =>
 ldS w b1 o2 fun s3 =>
 R [.int .i64 (s3.len : Int)] w
theorem tie10 (a0 : Option Addr) (R : List Value → World → Prop) (w : World) : compF Pg Try.f10 ⟨[], [], [], []⟩ [.pointer a0] R w = sh10 a0 R w := by kernel_rfl
theorem call10 {a0 : Option Addr} {w : World} {K : TK [kI] → World → Prop} (h : sh10 a0 (fun vs w' => ∃ t, encK [kI] t = vs ∧ K t w') w) : cl Pg 10 [.pointer a0] [kI] w K := cl_of Try.func10 (tie10 ..) h
/-- (*detent/sem.Sem).Poll -/
def sh13 (a0 : Option Addr) (R : List Value → World → Prop) (w : World) : Prop :=
 nn a0 fun b1 o2 =>
 ldI w .i64 b1 (o2 + 1) fun n3 =>
 cs (decide ((n3 : Int) ≤ (0 : Int))) (
 R [.bool false] w) (
 nn a0 fun b4 o5 =>
 ldI w .i64 b4 (o5 + 1) fun n6 =>
 nn a0 fun b7 o8 =>
 st1 w b7 (o8 + 1) (.int .i64 (w64 (n6 - 1))) fun w9 =>
 R [.bool true] w9)
theorem tie13 (a0 : Option Addr) (R : List Value → World → Prop) (w : World) : compF Pg Try.f13 ⟨[], [], [], []⟩ [.pointer a0] R w = sh13 a0 R w := by kernel_rfl
theorem call13 {a0 : Option Addr} {w : World} {K : TK [kB] → World → Prop} (h : sh13 a0 (fun vs w' => ∃ t, encK [kB] t = vs ∧ K t w') w) : cl Pg 13 [.pointer a0] [kB] w K := cl_of Try.func13 (tie13 ..) h
/-- (*detent/order.Line).Has -/
def sh11 (a0 : Option Addr) (a1 : Int) (R : List Value → World → Prop) (w : World) : Prop :=
 cl Pg 26 [.pointer a0, .int .i64 a1] [kI] w fun (r1 : Int × Unit) w2 =>
 R [.bool (decide ((r1.1 : Int) ≥ (0 : Int)))] w2
theorem tie11 (a0 : Option Addr) (a1 : Int) (R : List Value → World → Prop) (w : World) : compF Pg Try.f11 ⟨[], [], [], []⟩ [.pointer a0, .int .i64 a1] R w = sh11 a0 a1 R w := by kernel_rfl
theorem call11 {a0 : Option Addr} {a1 : Int} {w : World} {K : TK [kB] → World → Prop} (h : sh11 a0 a1 (fun vs w' => ∃ t, encK [kB] t = vs ∧ K t w') w) : cl Pg 11 [.pointer a0, .int .i64 a1] [kB] w K := cl_of Try.func11 (tie11 ..) h
/-- detent/order.may -/
def sh32 (a0 : Int) (R : List Value → World → Prop) (w : World) : Prop :=
 jn [kB] w (fun (t2 : Bool × Unit) w3 =>
 R [.bool t2.1] w3) fun J1 w4 =>
 cs (decide ((a0 : Int) ≥ (1 : Int))) (
 J1 (decide ((a0 : Int) ≤ (16 : Int)), ()) w4) (
 J1 (false, ()) w4)
theorem tie32 (a0 : Int) (R : List Value → World → Prop) (w : World) : compF Pg Try.f32 ⟨[], [], [], [(1, [(3, 3, ⟨[(8, kB)], [6, 7]⟩)])]⟩ [.int .i64 a0] R w = sh32 a0 R w := by kernel_rfl
theorem call32 {a0 : Int} {w : World} {K : TK [kB] → World → Prop} (h : sh32 a0 (fun vs w' => ∃ t, encK [kB] t = vs ∧ K t w') w) : cl Pg 32 [.int .i64 a0] [kB] w K := cl_of Try.func32 (tie32 ..) h
/-- slices.Reverse[[]detent/order.Item,detent/order.Item] -/
def sh49 (a0 : Sl) (R : List Value → World → Prop) (w : World) : Prop :=
 lp [kI, kI] w ((0 : Int), w64 ((a0.len : Int) - 1), ()) fun (t1 : Int × Int × Unit) J2 w3 =>
 cs (decide ((t1.1 : Int) < (t1.2.1 : Int))) (
 dr w3 fun w4 =>
 ix a0 t1.2.1 2 fun b5 o6 =>
 ldI w4 .i64 b5 o6 fun n7 =>
 ldI w4 .i64 b5 (o6 + 1) fun n8 =>
 ix a0 t1.1 2 fun b9 o10 =>
 ldI w4 .i64 b9 o10 fun n11 =>
 ldI w4 .i64 b9 (o10 + 1) fun n12 =>
 ix a0 t1.1 2 fun b13 o14 =>
 st1 w4 b13 o14 (.int .i64 n7) fun w15 =>
 st1 w15 b13 (o14 + 1) (.int .i64 n8) fun w16 =>
 ix a0 t1.2.1 2 fun b17 o18 =>
 st1 w16 b17 o18 (.int .i64 n11) fun w19 =>
 st1 w19 b17 (o18 + 1) (.int .i64 n12) fun w20 =>
 J2 (w64 (t1.1 + 1), w64 (t1.2.1 - 1), ()) w20) (
 R [] w3)
theorem tie49 (a0 : Sl) (R : List Value → World → Prop) (w : World) : compF Pg Try.f49 ⟨[(1, ⟨[(2, kI), (3, kI)], [7, 8, 9, 10, 11, 12, 13, 14, 15, 16, 17, 18, 19, 20, 21, 22, 23, 24, 25, 26, 27]⟩)], [], [(3, .l [(0, []), (1, []), (2, []), (3, []), (4, []), (5, []), (6, []), (7, []), (8, []), (9, []), (10, []), (11, []), (12, []), (13, [12, 7, 0, 1, 4, 5, 6, 11, 10, 8, 9]), (14, []), (15, [14, 11, 13, 0, 1, 2, 3, 4, 5, 6, 7, 8, 9, 10, 12])])], []⟩ [vS a0] R w = sh49 a0 R w := by kernel_rfl
theorem call49 {a0 : Sl} {w : World} {K : TK [] → World → Prop} (h : sh49 a0 (fun vs w' => ∃ t, encK [] t = vs ∧ K t w') w) : cl Pg 49 [vS a0] [] w K := cl_of Try.func49 (tie49 ..) h
/-- slices.rotateLeft[detent/order.Item] -/
def sh48 (a0 : Sl) (a1 : Int) (R : List Value → World → Prop) (w : World) : Prop :=
 sb a0 0 a1 a0.cap 2 fun s1 =>
 cl Pg 49 [vS s1] [] w fun (r2 : Unit) w3 =>
 sb a0 a1 a0.len a0.cap 2 fun s4 =>
 cl Pg 49 [vS s4] [] w3 fun (r5 : Unit) w6 =>
 cl Pg 49 [vS a0] [] w6 fun (r7 : Unit) w8 =>
 R [] w8
theorem tie48 (a0 : Sl) (a1 : Int) (R : List Value → World → Prop) (w : World) : compF Pg Try.f48 ⟨[], [], [], []⟩ [vS a0, .int .i64 a1] R w = sh48 a0 a1 R w := by kernel_rfl
theorem call48 {a0 : Sl} {a1 : Int} {w : World} {K : TK [] → World → Prop} (h : sh48 a0 a1 (fun vs w' => ∃ t, encK [] t = vs ∧ K t w') w) : cl Pg 48 [vS a0, .int .i64 a1] [] w K := cl_of Try.func48 (tie48 ..) h
/-- slices.rotateRight[detent/order.Item] -/
def sh47 (a0 : Sl) (a1 : Int) (R : List Value → World → Prop) (w : World) : Prop :=
 cl Pg 48 [vS a0, .int .i64 (w64 ((a0.len : Int) - a1))] [] w fun (r1 : Unit) w2 =>
 R [] w2
theorem tie47 (a0 : Sl) (a1 : Int) (R : List Value → World → Prop) (w : World) : compF Pg Try.f47 ⟨[], [], [], []⟩ [vS a0, .int .i64 a1] R w = sh47 a0 a1 R w := by kernel_rfl
theorem call47 {a0 : Sl} {a1 : Int} {w : World} {K : TK [] → World → Prop} (h : sh47 a0 a1 (fun vs w' => ∃ t, encK [] t = vs ∧ K t w') w) : cl Pg 47 [vS a0, .int .i64 a1] [] w K := cl_of Try.func47 (tie47 ..) h
/-- slices.Insert[[]detent/order.Item,detent/order.Item] -/
def sh43 (a0 : Sl) (a1 : Int) (a2 : Sl) (R : List Value → World → Prop) (w : World) : Prop :=
 sb a0 a1 a0.len a0.cap 2 fun s1 =>
 cs (((a2.len : Int) : Int) == (0 : Int)) (
 R [vS a0] w) (
 cs ((a1 : Int) == ((a0.len : Int) : Int)) (
 ef Pg (Builtin.append_ #[34, 34] 34 #[vS a0, vS a2]) [kS] w fun (r2 : Sl × Unit) w3 =>
 R [vS r2.1] w3) (
 cs (decide ((w64 ((a0.len : Int) + (a2.len : Int)) : Int) > ((a0.cap : Int) : Int))) (
 sb a0 0 a1 a0.cap 2 fun s4 =>
 ef Pg (Builtin.append_ #[34, 3] 34 #[vS s4, .int .i64 (w64 ((w64 ((a0.len : Int) + (a2.len : Int))) - a1))]) [kS] w fun (r5 : Sl × Unit) w6 =>
 sb r5.1 a1 r5.1.len r5.1.cap 2 fun s7 =>
 ef Pg (Builtin.copy_ #[34, 34] 3 #[vS s7, vS a2]) [kI] w6 fun (r8 : Int × Unit) w9 =>
 dr w9 fun w10 =>
 sb r5.1 (w64 (a1 + (a2.len : Int))) r5.1.len r5.1.cap 2 fun s11 =>
 sb a0 a1 a0.len a0.cap 2 fun s12 =>
 ef Pg (Builtin.copy_ #[34, 34] 3 #[vS s11, vS s12]) [kI] w10 fun (r13 : Int × Unit) w14 =>
 R [vS r5.1] w14) (
 sb a0 0 (w64 ((a0.len : Int) + (a2.len : Int))) a0.cap 2 fun s15 =>
 sb s15 (w64 (a1 + (a2.len : Int))) s15.len s15.cap 2 fun s16 =>
 xt Pg 46 [vS a2, vS s16] [kB] w fun (r17 : Bool × Unit) w18 =>
 cs (!r17.1) (
 dr w18 fun w19 =>
 sb s15 (w64 (a1 + (a2.len : Int))) s15.len s15.cap 2 fun s20 =>
 sb s15 a1 s15.len s15.cap 2 fun s21 =>
 ef Pg (Builtin.copy_ #[34, 34] 3 #[vS s20, vS s21]) [kI] w19 fun (r22 : Int × Unit) w23 =>
 sb s15 a1 s15.len s15.cap 2 fun s24 =>
 ef Pg (Builtin.copy_ #[34, 34] 3 #[vS s24, vS a2]) [kI] w23 fun (r25 : Int × Unit) w26 =>
 R [vS s15] w26) (
 sb s15 (a0.len : Int) s15.len s15.cap 2 fun s27 =>
 ef Pg (Builtin.copy_ #[34, 34] 3 #[vS s27, vS a2]) [kI] w18 fun (r28 : Int × Unit) w29 =>
 sb s15 a1 s15.len s15.cap 2 fun s30 =>
 cl Pg 47 [vS s30, .int .i64 (a2.len : Int)] [] w29 fun (r31 : Unit) w32 =>
 R [vS s15] w32))))
theorem tie43 (a0 : Sl) (a1 : Int) (a2 : Sl) (R : List Value → World → Prop) (w : World) : compF Pg Try.f43 ⟨[], [], [(11, .l [(0, []), (1, []), (2, []), (3, []), (4, []), (5, []), (6, []), (7, []), (8, [4, 7, 0, 3, 5, 6, 1, 2])]), (15, .l [(0, []), (1, []), (2, []), (3, []), (4, []), (5, []), (6, []), (7, []), (8, [4, 7, 0, 3, 5, 6, 1, 2])])], []⟩ [vS a0, .int .i64 a1, vS a2] R w = sh43 a0 a1 a2 R w := by kernel_rfl
theorem call43 {a0 : Sl} {a1 : Int} {a2 : Sl} {w : World} {K : TK [kS] → World → Prop} (h : sh43 a0 a1 a2 (fun vs w' => ∃ t, encK [kS] t = vs ∧ K t w') w) : cl Pg 43 [vS a0, .int .i64 a1, vS a2] [kS] w K := cl_of Try.func43 (tie43 ..) h
/-- (*detent/order.Queue).put -/
def sh33 (a0 : Option Addr) (a1 : (Int × Int × Unit)) (R : List Value → World → Prop) (w : World) : Prop :=
 al w 64 [.int .i64 a1.1, .int .i64 a1.2.1] fun b1 w2 =>
 nn a0 fun b3 o4 =>
 ldS w2 b3 o4 fun s5 =>
 lp [kI] w2 ((s5.len : Int), ()) fun (t6 : Int × Unit) J7 w8 =>
 dr w8 fun w9 =>
 jn [kB] w9 (fun (t11 : Bool × Unit) w12 =>
 cs t11.1 (
 J7 (w64 (t6.1 - 1), ()) w12) (
 dr w12 fun w14 =>
 nn a0 fun b15 o16 =>
 ldS w14 b15 o16 fun s17 =>
 ldI w14 .i64 b1 0 fun n18 =>
 ldI w14 .i64 b1 (0 + 1) fun n19 =>
 al w14 64 [.int .i64 n18, .int .i64 n19] fun b20 w21 =>
(w21.cell? ⟨b15, o16, none⟩ = some (vS s17)) ∧ (
 cl Pg 43 [vS s17, .int .i64 t6.1, vS ⟨some ⟨b20, 0, none⟩, 1, 1⟩] [kS] w21 fun (r22 : Sl × Unit) w23 =>
 nn a0 fun b24 o25 =>
 st1 w23 b24 o25 (vS r22.1) fun w26 =>
 R [] w26))) fun J10 w13 =>
 nn a0 fun b27 o28 =>
 ldB w13 b27 (o28 + 1) fun b29 =>
 cs b29 (
 cs (decide ((t6.1 : Int) > (0 : Int))) (
 nn a0 fun b30 o31 =>
 ldS w13 b30 o31 fun s32 =>
 ix s32 (w64 (t6.1 - 1)) 2 fun b33 o34 =>
 ldI w13 .i64 b33 (o34 + 1) fun n35 =>
 ldI w13 .i64 b1 (0 + 1) fun n36 =>
 J10 (decide ((n35 : Int) > (n36 : Int)), ()) w13) (
 J10 (false, ()) w13)) (
 J10 (false, ()) w13)
theorem tie33 (a0 : Option Addr) (a1 : (Int × Int × Unit)) (R : List Value → World → Prop) (w : World) : compF Pg Try.f33 ⟨[(1, ⟨[(4, kI)], [11, 12, 13, 14, 15, 16, 17, 18, 19, 20, 21, 22, 23, 24, 25, 26, 27, 28, 29, 30, 31, 32, 33, 34, 35]⟩)], [(2, ⟨[(33, kB)], [11, 12, 13, 14, 15, 16, 17, 18, 19, 20, 21, 22, 23, 24, 25, 26, 27, 28, 29, 30, 31, 32]⟩)], [(2, .l [(0, []), (1, []), (2, []), (3, []), (4, []), (5, []), (6, []), (7, []), (8, []), (9, []), (10, []), (11, []), (12, []), (13, []), (14, []), (15, []), (16, []), (17, []), (18, []), (19, []), (20, []), (21, []), (22, [])]), (4, .l [(0, []), (1, []), (2, []), (3, []), (4, []), (5, []), (6, []), (7, []), (8, [7]), (9, [5, 6, 8, 4, 7, 3, 2, 1]), (10, []), (11, []), (12, []), (13, [12, 9, 0, 1, 2, 3, 4, 5, 6, 7, 8, 11, 10])])], []⟩ [.pointer a0, .agg #[.int .i64 a1.1, .int .i64 a1.2.1]] R w = sh33 a0 a1 R w := by kernel_rfl
theorem call33 {a0 : Option Addr} {a1 : (Int × Int × Unit)} {w : World} {K : TK [] → World → Prop} (h : sh33 a0 a1 (fun vs w' => ∃ t, encK [] t = vs ∧ K t w') w) : cl Pg 33 [.pointer a0, .agg #[.int .i64 a1.1, .int .i64 a1.2.1]] [] w K := cl_of Try.func33 (tie33 ..) h
/-- (*detent/order.Queue).Add -/
def sh27 (a0 : Option Addr) (a1 : Int) (a2 : Int) (R : List Value → World → Prop) (w : World) : Prop :=
 jn [kB] w (fun (t2 : Bool × Unit) w3 =>
 jn [kB] w3 (fun (t6 : Bool × Unit) w7 =>
 cs t6.1 (
 R [.int .i64 (-17)] w7) (
 nn a0 fun b9 o10 =>
 cl Pg 11 [.pointer (some ⟨b9, o10, none⟩), .int .i64 a1] [kB] w7 fun (r11 : Bool × Unit) w12 =>
 cs r11.1 (
 R [.int .i64 (-41)] w12) (
 cl Pg 33 [.pointer a0, .agg #[.int .i64 a1, .int .i64 a2]] [] w12 fun (r13 : Unit) w14 =>
 R [.int .i64 0] w14))) fun J5 w8 =>
 cs t2.1 (
 J5 (true, ()) w8) (
 cl Pg 32 [.int .i64 a2] [kB] w8 fun (r15 : Bool × Unit) w16 =>
 J5 (!r15.1, ()) w16)) fun J1 w4 =>
 cs (decide ((a1 : Int) < (1 : Int))) (
 J1 (true, ()) w4) (
 J1 (decide ((a1 : Int) > (16 : Int)), ()) w4)
theorem tie27 (a0 : Option Addr) (a1 : Int) (a2 : Int) (R : List Value → World → Prop) (w : World) : compF Pg Try.f27 ⟨[], [], [], [(1, [(3, 3, ⟨[(13, kB)], [11, 12]⟩), (7, 4, ⟨[(18, kB)], [15, 16, 17]⟩)])]⟩ [.pointer a0, .int .i64 a1, .int .i64 a2] R w = sh27 a0 a1 a2 R w := by kernel_rfl
theorem call27 {a0 : Option Addr} {a1 : Int} {a2 : Int} {w : World} {K : TK [kI] → World → Prop} (h : sh27 a0 a1 a2 (fun vs w' => ∃ t, encK [kI] t = vs ∧ K t w') w) : cl Pg 27 [.pointer a0, .int .i64 a1, .int .i64 a2] [kI] w K := cl_of Try.func27 (tie27 ..) h
/-- (*detent/sem.Sem).Wait -/
def sh12 (a0 : Option Addr) (a1 : Int) (a2 : Int) (R : List Value → World → Prop) (w : World) : Prop :=
 cl Pg 13 [.pointer a0] [kB] w fun (r1 : Bool × Unit) w2 =>
 cs r1.1 (
 R [.bool true, .int .i64 0] w2) (
 nn a0 fun b3 o4 =>
 ldP w2 b3 o4 fun p5 =>
 cl Pg 27 [.pointer p5, .int .i64 a1, .int .i64 a2] [kI] w2 fun (r6 : Int × Unit) w7 =>
 R [.bool false, .int .i64 r6.1] w7)
theorem tie12 (a0 : Option Addr) (a1 : Int) (a2 : Int) (R : List Value → World → Prop) (w : World) : compF Pg Try.f12 ⟨[], [], [], []⟩ [.pointer a0, .int .i64 a1, .int .i64 a2] R w = sh12 a0 a1 a2 R w := by kernel_rfl
theorem call12 {a0 : Option Addr} {a1 : Int} {a2 : Int} {w : World} {K : TK [kB, kI] → World → Prop} (h : sh12 a0 a1 a2 (fun vs w' => ∃ t, encK [kB, kI] t = vs ∧ K t w') w) : cl Pg 12 [.pointer a0, .int .i64 a1, .int .i64 a2] [kB, kI] w K := cl_of Try.func12 (tie12 ..) h
/-- detent/detentlaw11.known -/
def sh7  (R : List Value → World → Prop) (w : World) : Prop :=
 cl Pg 8 [.bool false, .int .i64 1, .int .i64 1] [kP, kI] w fun (r1 : Option Addr × Int × Unit) w2 =>
 jn [kB] w2 (fun (t4 : Bool × Unit) w5 =>
 jn [kB] w5 (fun (t8 : Bool × Unit) w9 =>
 cs t8.1 (
 R [.bool false] w9) (
 cl Pg 12 [.pointer r1.1, .int .i64 1, .int .i64 5] [kB, kI] w9 fun (r11 : Bool × Int × Unit) w12 =>
 cl Pg 12 [.pointer r1.1, .int .i64 2, .int .i64 5] [kB, kI] w12 fun (r13 : Bool × Int × Unit) w14 =>
 cl Pg 9 [.pointer r1.1] [kI, kI] w14 fun (r15 : Int × Int × Unit) w16 =>
 cl Pg 9 [.pointer r1.1] [kI, kI] w16 fun (r17 : Int × Int × Unit) w18 =>
 cl Pg 9 [.pointer r1.1] [kI, kI] w18 fun (r19 : Int × Int × Unit) w20 =>
 cl Pg 8 [.bool false, .int .i64 2, .int .i64 1] [kP, kI] w20 fun (r21 : Option Addr × Int × Unit) w22 =>
 jn [kB] w22 (fun (t24 : Bool × Unit) w25 =>
 jn [kB] w25 (fun (t28 : Bool × Unit) w29 =>
 jn [kB] w29 (fun (t32 : Bool × Unit) w33 =>
 jn [kB] w33 (fun (t36 : Bool × Unit) w37 =>
 jn [kB] w37 (fun (t40 : Bool × Unit) w41 =>
 jn [kB] w41 (fun (t44 : Bool × Unit) w45 =>
 jn [kB] w45 (fun (t48 : Bool × Unit) w49 =>
 jn [kB] w49 (fun (t52 : Bool × Unit) w53 =>
 R [.bool t52.1] w53) fun J51 w54 =>
 cs t48.1 (
 nn r1.1 fun b55 o56 =>
 ldP w54 b55 o56 fun p57 =>
 nn p57 fun b58 o59 =>
 cl Pg 10 [.pointer (some ⟨b58, o59, none⟩)] [kI] w54 fun (r60 : Int × Unit) w61 =>
 J51 ((r60.1 : Int) == (0 : Int), ()) w61) (
 J51 (false, ()) w54)) fun J47 w50 =>
 cs t44.1 (
 J47 ((r21.2.1 : Int) == ((-17) : Int), ()) w50) (
 J47 (false, ()) w50)) fun J43 w46 =>
 cs t40.1 (
 nn r1.1 fun b62 o63 =>
 ldI w46 .i64 b62 (o63 + 2) fun n64 =>
 J43 ((n64 : Int) == (1 : Int), ()) w46) (
 J43 (false, ()) w46)) fun J39 w42 =>
 cs t36.1 (
 nn r1.1 fun b65 o66 =>
 ldI w42 .i64 b65 (o66 + 1) fun n67 =>
 J39 ((n67 : Int) == (1 : Int), ()) w42) (
 J39 (false, ()) w42)) fun J35 w38 =>
 cs t32.1 (
 J35 ((r19.2.1 : Int) == ((-43) : Int), ()) w38) (
 J35 (false, ()) w38)) fun J31 w34 =>
 cs t28.1 (
 J31 ((r15.1 : Int) == (2 : Int), ()) w34) (
 J31 (false, ()) w34)) fun J27 w30 =>
 cs t24.1 (
 J27 (!r13.1, ()) w30) (
 J27 (false, ()) w30)) fun J23 w26 =>
 cs ((w64 ((w64 ((w64 (r11.2.1 + r13.2.1)) + r15.2.1)) + r17.2.1) : Int) == (0 : Int)) (
 J23 (r11.1, ()) w26) (
 J23 (false, ()) w26))) fun J7 w10 =>
 cs t4.1 (
 J7 (true, ()) w10) (
 nn r1.1 fun b68 o69 =>
 ldP w10 b68 o69 fun p70 =>
 J7 (p70.isNone, ()) w10)) fun J3 w6 =>
 cs ((r1.2.1 : Int) != (0 : Int)) (
 J3 (true, ()) w6) (
 J3 (r1.1.isNone, ()) w6)
theorem tie7  (R : List Value → World → Prop) (w : World) : compF Pg Try.f7 ⟨[], [], [], [(2, [(3, 3, ⟨[(24, kB)], [22, 23]⟩), (7, 6, ⟨[(31, kB)], [26, 27, 28, 29, 30]⟩)]), (10, [(9, 2, ⟨[(71, kB)], [70]⟩), (12, 3, ⟨[(75, kB)], [73, 74]⟩), (16, 3, ⟨[(79, kB)], [77, 78]⟩), (20, 3, ⟨[(83, kB)], [81, 82]⟩), (24, 6, ⟨[(90, kB)], [85, 86, 87, 88, 89]⟩), (31, 6, ⟨[(97, kB)], [92, 93, 94, 95, 96]⟩), (38, 3, ⟨[(101, kB)], [99, 100]⟩), (42, 9, ⟨[(111, kB)], [103, 104, 105, 106, 107, 108, 109, 110]⟩)])]⟩ [] R w = sh7  R w := by kernel_rfl
theorem call7  {w : World} {K : TK [kB] → World → Prop} (h : sh7  (fun vs w' => ∃ t, encK [kB] t = vs ∧ K t w') w) : cl Pg 7 [] [kB] w K := cl_of Try.func7 (tie7 ..) h
/-- detent/detentlaw11.SemKeeps -/
def sh3 (a0 : Int) (a1 : Sl) (R : List Value → World → Prop) (w : World) : Prop :=
 cl Pg 7 [] [kB] w fun (r1 : Bool × Unit) w2 =>
 cs (!r1.1) (
 R [.bool false] w2) (
 cs (decide (((a1.len : Int) : Int) > (200 : Int))) (
 R [.bool true] w2) (
 cl Pg 8 [.bool false, .int .i64 (w64 (a0)), .int .i64 65535] [kP, kI] w2 fun (r3 : Option Addr × Int × Unit) w4 =>
 lp [kI, kI, kI, kI] w4 ((0 : Int), (0 : Int), (1 : Int), (0 : Int), ()) fun (t5 : Int × Int × Int × Int × Unit) J6 w7 =>
 cs (decide ((t5.2.2.2.1 : Int) < ((a1.len : Int) : Int))) (
 ix a1 t5.2.2.2.1 1 fun b8 o9 =>
 ldB w7 b8 o9 fun b10 =>
 cs b10 (
 cl Pg 9 [.pointer r3.1] [kI, kI] w7 fun (r11 : Int × Int × Unit) w12 =>
 cs ((r11.2.1 : Int) != (0 : Int)) (
 R [.bool false] w12) (
 jn [kI] w12 (fun (t14 : Int × Unit) w15 =>
 J6 (t14.1, w64 (t5.2.1 + 1), t5.2.2.1, w64 (t5.2.2.2.1 + 1), ()) w15) fun J13 w16 =>
 cs ((r11.1 : Int) != (0 : Int)) (
 J13 (w64 (t5.1 + 1), ()) w16) (
 J13 (t5.1, ()) w16))) (
 nn r3.1 fun b17 o18 =>
 ldP w7 b17 o18 fun p19 =>
 nn p19 fun b20 o21 =>
 cl Pg 10 [.pointer (some ⟨b20, o21, none⟩)] [kI] w7 fun (r22 : Int × Unit) w23 =>
 cs ((r22.1 : Int) == (16 : Int)) (
 J6 (t5.1, t5.2.1, t5.2.2.1, w64 (t5.2.2.2.1 + 1), ()) w23) (
 lp [kI] w23 (t5.2.2.1, ()) fun (t24 : Int × Unit) J25 w26 =>
 nn r3.1 fun b27 o28 =>
 ldP w26 b27 o28 fun p29 =>
 nn p29 fun b30 o31 =>
 cl Pg 11 [.pointer (some ⟨b30, o31, none⟩), .int .i64 t24.1] [kB] w26 fun (r32 : Bool × Unit) w33 =>
 cs r32.1 (
 J25 (w64 ((Int.tmod t24.1 16) + 1), ()) w33) (
 cl Pg 12 [.pointer r3.1, .int .i64 t24.1, .int .i64 1] [kB, kI] w33 fun (r34 : Bool × Int × Unit) w35 =>
 cs ((r34.2.1 : Int) != (0 : Int)) (
 R [.bool false] w35) (
 cs r34.1 (
 J6 (w64 (t5.1 + 1), t5.2.1, t24.1, w64 (t5.2.2.2.1 + 1), ()) w35) (
 J6 (t5.1, t5.2.1, t24.1, w64 (t5.2.2.2.1 + 1), ()) w35)))))) (
 nn r3.1 fun b36 o37 =>
 ldI w7 .i64 b36 (o37 + 1) fun n38 =>
 jn [kB] w7 (fun (t40 : Bool × Unit) w41 =>
 R [.bool t40.1] w41) fun J39 w42 =>
 cs ((w64 (t5.1 + n38) : Int) == (w64 (t5.2.1 + (w64 (a0))) : Int)) (
 nn r3.1 fun b43 o44 =>
 ldI w42 .i64 b43 (o44 + 1) fun n45 =>
 jn [kB] w42 (fun (t47 : Bool × Unit) w48 =>
 J39 (t47.1, ()) w48) fun J46 w49 =>
 cs ((n45 : Int) == (0 : Int)) (
 J46 (true, ()) w49) (
 nn r3.1 fun b50 o51 =>
 ldP w49 b50 o51 fun p52 =>
 nn p52 fun b53 o54 =>
 cl Pg 10 [.pointer (some ⟨b53, o54, none⟩)] [kI] w49 fun (r55 : Int × Unit) w56 =>
 J46 ((r55.1 : Int) == (0 : Int), ()) w56)) (
 J39 (false, ()) w42))))
theorem tie3 (a0 : Int) (a1 : Sl) (R : List Value → World → Prop) (w : World) : compF Pg Try.f3 ⟨[(3, ⟨[(7, kI), (8, kI), (9, kI), (10, kI)], [4, 11, 12, 13, 14, 26, 27, 28, 29, 30, 31, 32, 33, 34, 35, 36, 37, 38, 39, 40, 41, 42, 43, 44, 45, 46, 47, 48, 49, 50, 51, 52, 53, 54, 55, 56, 57, 58, 59, 60, 61, 62, 63, 64, 65, 66, 67, 68, 69, 70, 71, 72, 73, 74, 75, 76, 77, 78]⟩), (8, ⟨[(7, kI)], [47, 48]⟩), (11, ⟨[(9, kI)], [57, 58, 59, 60, 61, 62, 63, 64, 65, 66, 67]⟩)], [], [], [(27, [(12, 16, ⟨[(106, kB)], [91, 92, 93, 94, 95, 96, 97, 98, 99, 100, 101, 102, 103, 104, 105]⟩), (18, 9, ⟨[(105, kB)], [97, 98, 99, 100, 101, 102, 103, 104]⟩)])]⟩ [.int .u8 a0, vS a1] R w = sh3 a0 a1 R w := by kernel_rfl
theorem call3 {a0 : Int} {a1 : Sl} {w : World} {K : TK [kB] → World → Prop} (h : sh3 a0 a1 (fun vs w' => ∃ t, encK [kB] t = vs ∧ K t w') w) : cl Pg 3 [.int .u8 a0, vS a1] [kB] w K := cl_of Try.func3 (tie3 ..) h
/-- detent/detentlaw11.SemOrder -/
def sh4 (a0 : Bool) (a1 : Sl) (R : List Value → World → Prop) (w : World) : Prop :=
 cl Pg 7 [] [kB] w fun (r1 : Bool × Unit) w2 =>
 cs (!r1.1) (
 R [.bool false] w2) (
 cs (decide (((a1.len : Int) : Int) > (16 : Int))) (
 R [.bool true] w2) (
 cl Pg 8 [.bool a0, .int .i64 0, .int .i64 1] [kP, kI] w2 fun (r3 : Option Addr × Int × Unit) w4 =>
 lp [kI] w4 ((0 : Int), ()) fun (t5 : Int × Unit) J6 w7 =>
 cs (decide ((t5.1 : Int) < ((a1.len : Int) : Int))) (
 ix a1 t5.1 1 fun b8 o9 =>
 ldI w7 .u8 b8 o9 fun n10 =>
 cl Pg 12 [.pointer r3.1, .int .i64 (w64 (t5.1 + 1)), .int .i64 (w64 (1 + (w64 (Int.tmod n10 4))))] [kB, kI] w7 fun (r11 : Bool × Int × Unit) w12 =>
 jn [kB] w12 (fun (t14 : Bool × Unit) w15 =>
 cs t14.1 (
 R [.bool false] w15) (
 J6 (w64 (t5.1 + 1), ()) w15)) fun J13 w16 =>
 cs r11.1 (
 J13 (true, ()) w16) (
 J13 ((r11.2.1 : Int) != (0 : Int), ()) w16)) (
 lp [kI, kI] w7 ((0 : Int), (0 : Int), ()) fun (t17 : Int × Int × Unit) J18 w19 =>
 cs (decide ((t17.2.1 : Int) < ((a1.len : Int) : Int))) (
 cl Pg 9 [.pointer r3.1] [kI, kI] w19 fun (r20 : Int × Int × Unit) w21 =>
 jn [kB] w21 (fun (t23 : Bool × Unit) w24 =>
 jn [kB] w24 (fun (t27 : Bool × Unit) w28 =>
 cs t27.1 (
 R [.bool false] w28) (
 jn [] w28 (fun (t31 : Unit) w32 =>
 J18 (r20.1, w64 (t17.2.1 + 1), ()) w32) fun J30 w33 =>
 cs (decide ((t17.2.1 : Int) > (0 : Int))) (
 ix a1 (w64 (t17.1 - 1)) 1 fun b34 o35 =>
 ldI w33 .u8 b34 o35 fun n36 =>
 ix a1 (w64 (r20.1 - 1)) 1 fun b37 o38 =>
 ldI w33 .u8 b37 o38 fun n39 =>
 jn [kB] w33 (fun (t41 : Bool × Unit) w42 =>
 jn [kB] w42 (fun (t45 : Bool × Unit) w46 =>
 cs t45.1 (
 R [.bool false] w46) (
 J30 () w46)) fun J44 w47 =>
 cs t41.1 (
 J44 (true, ()) w47) (
 jn [kB] w47 (fun (t49 : Bool × Unit) w50 =>
 J44 (t49.1, ()) w50) fun J48 w51 =>
 cs (!a0) (
 J48 (decide ((t17.1 : Int) > (r20.1 : Int)), ()) w51) (
 J48 (false, ()) w51))) fun J40 w43 =>
 cs a0 (
 jn [kB] w43 (fun (t53 : Bool × Unit) w54 =>
 J40 (t53.1, ()) w54) fun J52 w55 =>
 cs (decide ((Int.tmod n36 4 : Int) > (Int.tmod n39 4 : Int))) (
 J52 (true, ()) w55) (
 jn [kB] w55 (fun (t57 : Bool × Unit) w58 =>
 J52 (t57.1, ()) w58) fun J56 w59 =>
 cs ((Int.tmod n36 4 : Int) == (Int.tmod n39 4 : Int)) (
 J56 (decide ((t17.1 : Int) > (r20.1 : Int)), ()) w59) (
 J56 (false, ()) w59))) (
 J40 (false, ()) w43)) (
 J30 () w33))) fun J26 w29 =>
 cs t23.1 (
 J26 (true, ()) w29) (
 J26 ((r20.2.1 : Int) != (0 : Int), ()) w29)) fun J22 w25 =>
 cs (decide ((r20.1 : Int) < (1 : Int))) (
 J22 (true, ()) w25) (
 J22 (decide ((r20.1 : Int) > ((a1.len : Int) : Int)), ()) w25)) (
 cl Pg 9 [.pointer r3.1] [kI, kI] w19 fun (r60 : Int × Int × Unit) w61 =>
 jn [kB] w61 (fun (t63 : Bool × Unit) w64 =>
 jn [kB] w64 (fun (t67 : Bool × Unit) w68 =>
 R [.bool t67.1] w68) fun J66 w69 =>
 cs t63.1 (
 nn r3.1 fun b70 o71 =>
 ldI w69 .i64 b70 (o71 + 1) fun n72 =>
 J66 ((n72 : Int) == (1 : Int), ()) w69) (
 J66 (false, ()) w69)) fun J62 w65 =>
 cs ((r60.1 : Int) == (0 : Int)) (
 J62 ((r60.2.1 : Int) == (0 : Int), ()) w65) (
 J62 (false, ()) w65)))))
theorem tie4 (a0 : Bool) (a1 : Sl) (R : List Value → World → Prop) (w : World) : compF Pg Try.f4 ⟨[(3, ⟨[(7, kI)], [4, 8, 9, 28, 29, 30, 31, 32, 33, 34, 35, 36, 37, 38, 39, 40, 41, 42, 43, 44, 45, 46, 47, 48, 49, 50, 51, 52]⟩), (8, ⟨[(10, kI), (11, kI)], [4, 12, 13, 14, 15, 53, 54, 55, 56, 57, 58, 59, 60, 61, 62, 63, 64, 65, 66, 67, 68, 69, 70, 71, 72, 73, 74, 75, 76, 77, 78, 79, 80, 81, 82, 83, 84, 85, 86, 87, 88, 89, 90, 91, 92, 93, 94, 95, 96, 97, 98, 99, 100, 101, 102, 103, 104, 105, 106, 107, 108, 109, 110, 111, 112, 113, 114, 115]⟩), (12, ⟨[], [4, 14, 15, 78, 79, 80, 81, 82, 83, 84, 85, 86, 87, 88, 89, 90, 91, 92, 93, 94, 95, 96, 97, 98, 99, 100, 101, 102, 103, 104, 105, 106, 107, 108, 109, 110, 111, 112, 113, 114]⟩)], [], [], [(10, [(2, 3, ⟨[(52, kB)], [50, 51]⟩)]), (17, [(3, 5, ⟨[(71, kB)], [67, 68, 69, 70]⟩), (9, 3, ⟨[(75, kB)], [73, 74]⟩)]), (22, [(2, 14, ⟨[(105, kB)], [92, 93, 94, 95, 96, 97, 98, 99, 100, 101, 102, 103, 104]⟩), (6, 9, ⟨[(104, kB)], [96, 97, 98, 99, 100, 101, 102, 103]⟩), (10, 4, ⟨[(103, kB)], [100, 101, 102]⟩), (17, 8, ⟨[(114, kB)], [107, 108, 109, 110, 111, 112, 113]⟩), (20, 4, ⟨[(113, kB)], [110, 111, 112]⟩)]), (26, [(3, 3, ⟨[(126, kB)], [124, 125]⟩), (7, 6, ⟨[(133, kB)], [128, 129, 130, 131, 132]⟩)])]⟩ [.bool a0, vS a1] R w = sh4 a0 a1 R w := by kernel_rfl
theorem call4 {a0 : Bool} {a1 : Sl} {w : World} {K : TK [kB] → World → Prop} (h : sh4 a0 a1 (fun vs w' => ∃ t, encK [kB] t = vs ∧ K t w') w) : cl Pg 4 [.bool a0, vS a1] [kB] w K := cl_of Try.func4 (tie4 ..) h
/-- detent/detentlaw11.SemBounds -/
def sh5 (a0 : Int) (a1 : Int) (R : List Value → World → Prop) (w : World) : Prop :=
 cl Pg 7 [] [kB] w fun (r1 : Bool × Unit) w2 =>
 cs (!r1.1) (
 R [.bool false] w2) (
 jn [kB] w2 (fun (t4 : Bool × Unit) w5 =>
 jn [kB] w5 (fun (t8 : Bool × Unit) w9 =>
 jn [kB] w9 (fun (t12 : Bool × Unit) w13 =>
 cs t12.1 (
 R [.bool true] w13) (
 cl Pg 8 [.bool true, .int .i64 a0, .int .i64 a1] [kP, kI] w13 fun (r15 : Option Addr × Int × Unit) w16 =>
 cs ((r15.2.1 : Int) != (0 : Int)) (
 R [.bool false] w16) (
 lp [kI] w16 (a0, ()) fun (t17 : Int × Unit) J18 w19 =>
 cs (decide ((t17.1 : Int) < (a1 : Int))) (
 cl Pg 9 [.pointer r15.1] [kI, kI] w19 fun (r20 : Int × Int × Unit) w21 =>
 jn [kB] w21 (fun (t23 : Bool × Unit) w24 =>
 cs t23.1 (
 R [.bool false] w24) (
 J18 (w64 (t17.1 + 1), ()) w24)) fun J22 w25 =>
 cs ((r20.1 : Int) != (0 : Int)) (
 J22 (true, ()) w25) (
 J22 ((r20.2.1 : Int) != (0 : Int), ()) w25)) (
 cl Pg 9 [.pointer r15.1] [kI, kI] w19 fun (r26 : Int × Int × Unit) w27 =>
 lp [kI] w27 ((0 : Int), ()) fun (t28 : Int × Unit) J29 w30 =>
 cl Pg 13 [.pointer r15.1] [kB] w30 fun (r31 : Bool × Unit) w32 =>
 cs r31.1 (
 cs (decide ((w64 (t28.1 + 1) : Int) > (a1 : Int))) (
 R [.bool false] w32) (
 J29 (w64 (t28.1 + 1), ()) w32)) (
 jn [kB] w32 (fun (t34 : Bool × Unit) w35 =>
 jn [kB] w35 (fun (t38 : Bool × Unit) w39 =>
 R [.bool t38.1] w39) fun J37 w40 =>
 cs t34.1 (
 nn r15.1 fun b41 o42 =>
 ldI w40 .i64 b41 (o42 + 1) fun n43 =>
 J37 ((n43 : Int) == (0 : Int), ()) w40) (
 J37 (false, ()) w40)) fun J33 w36 =>
 cs ((r26.2.1 : Int) == ((-43) : Int)) (
 J33 ((t28.1 : Int) == (a1 : Int), ()) w36) (
 J33 (false, ()) w36)))))) fun J11 w14 =>
 cs t8.1 (
 J11 (true, ()) w14) (
 J11 (decide ((a0 : Int) > (a1 : Int)), ()) w14)) fun J7 w10 =>
 cs t4.1 (
 J7 (true, ()) w10) (
 J7 (decide ((a0 : Int) < (0 : Int)), ()) w10)) fun J3 w6 =>
 cs (decide ((a1 : Int) < (1 : Int))) (
 J3 (true, ()) w6) (
 J3 (decide ((a1 : Int) > (300 : Int)), ()) w6))
theorem tie5 (a0 : Int) (a1 : Int) (R : List Value → World → Prop) (w : World) : compF Pg Try.f5 ⟨[(4, ⟨[(7, kI)], [4, 8, 9, 39, 40, 41, 42, 43, 44, 45, 46, 47, 48, 49, 50, 51, 52, 53, 54]⟩), (9, ⟨[(12, kI)], [4, 60, 61, 62, 63, 64, 65, 66]⟩)], [], [], [(3, [(3, 3, ⟨[(20, kB)], [18, 19]⟩), (7, 3, ⟨[(24, kB)], [22, 23]⟩), (11, 4, ⟨[(29, kB)], [26, 27, 28]⟩)]), (12, [(3, 3, ⟨[(54, kB)], [52, 53]⟩)]), (20, [(3, 4, ⟨[(73, kB)], [70, 71, 72]⟩), (8, 6, ⟨[(80, kB)], [75, 76, 77, 78, 79]⟩)])]⟩ [.int .i64 a0, .int .i64 a1] R w = sh5 a0 a1 R w := by kernel_rfl
theorem call5 {a0 : Int} {a1 : Int} {w : World} {K : TK [kB] → World → Prop} (h : sh5 a0 a1 (fun vs w' => ∃ t, encK [kB] t = vs ∧ K t w') w) : cl Pg 5 [.int .i64 a0, .int .i64 a1] [kB] w K := cl_of Try.func5 (tie5 ..) h
/-- detent/detentref11.New -/
def sh14 (a0 : Bool) (a1 : Int) (a2 : Int) (R : List Value → World → Prop) (w : World) : Prop :=
 jn [kB] w (fun (t2 : Bool × Unit) w3 =>
 jn [kB] w3 (fun (t6 : Bool × Unit) w7 =>
 jn [kB] w7 (fun (t10 : Bool × Unit) w11 =>
 cs t10.1 (
 R [.pointer none, .int .i64 (-17)] w11) (
 al w11 72 [.bool a0, .slice none 0 0] fun b13 w14 =>
 al w14 58 [.pointer (some ⟨b13, 0, none⟩), .int .i64 a1, .int .i64 a2] fun b15 w16 =>
 R [.pointer (some ⟨b15, 0, none⟩), .int .i64 0] w16)) fun J9 w12 =>
 cs t6.1 (
 J9 (true, ()) w12) (
 J9 (decide ((a1 : Int) > (a2 : Int)), ()) w12)) fun J5 w8 =>
 cs t2.1 (
 J5 (true, ()) w8) (
 J5 (decide ((a1 : Int) < (0 : Int)), ()) w8)) fun J1 w4 =>
 cs (decide ((a2 : Int) < (1 : Int))) (
 J1 (true, ()) w4) (
 J1 (decide ((a2 : Int) > (65535 : Int)), ()) w4)
theorem tie14 (a0 : Bool) (a1 : Int) (a2 : Int) (R : List Value → World → Prop) (w : World) : compF Pg Try.f14 ⟨[], [], [], [(1, [(3, 3, ⟨[(13, kB)], [11, 12]⟩), (7, 3, ⟨[(17, kB)], [15, 16]⟩), (11, 4, ⟨[(22, kB)], [19, 20, 21]⟩)])]⟩ [.bool a0, .int .i64 a1, .int .i64 a2] R w = sh14 a0 a1 a2 R w := by kernel_rfl
theorem call14 {a0 : Bool} {a1 : Int} {a2 : Int} {w : World} {K : TK [kP, kI] → World → Prop} (h : sh14 a0 a1 a2 (fun vs w' => ∃ t, encK [kP, kI] t = vs ∧ K t w') w) : cl Pg 14 [.bool a0, .int .i64 a1, .int .i64 a2] [kP, kI] w K := cl_of Try.func14 (tie14 ..) h
/-- (*detent/detentref4.Queue).Take -/
def sh28 (a0 : Option Addr) (R : List Value → World → Prop) (w : World) : Prop :=
 al w 73 [.int .i64 0, .int .i64 0] fun b1 w2 =>
 nn a0 fun b3 o4 =>
 ldS w2 b3 (o4 + 1) fun s5 =>
 cs (((s5.len : Int) : Int) == (0 : Int)) (
 st1 w2 b1 0 (.int .i64 0) fun w6 =>
 st1 w6 b1 (0 + 1) (.int .i64 0) fun w7 =>
 ldI w7 .i64 b1 0 fun n8 =>
 ldI w7 .i64 b1 (0 + 1) fun n9 =>
 R [.agg #[.int .i64 n8, .int .i64 n9], .bool false] w7) (
 nn a0 fun b10 o11 =>
 ldS w2 b10 (o11 + 1) fun s12 =>
 ix s12 0 2 fun b13 o14 =>
 ldI w2 .i64 b13 o14 fun n15 =>
 ldI w2 .i64 b13 (o14 + 1) fun n16 =>
 al w2 73 [.int .i64 0, .int .i64 0] fun b17 w18 =>
 st1 w18 b17 0 (.int .i64 n15) fun w19 =>
 st1 w19 b17 (0 + 1) (.int .i64 n16) fun w20 =>
 al w20 73 [] fun b21 w22 =>
 nn a0 fun b23 o24 =>
 ldS w22 b23 (o24 + 1) fun s25 =>
 sb s25 1 s25.len s25.cap 2 fun s26 =>
 ef Pg (Builtin.append_ #[70, 70] 70 #[vS ⟨some ⟨b21, 0, none⟩, 0, 0⟩, vS s26]) [kS] w22 fun (r27 : Sl × Unit) w28 =>
 nn a0 fun b29 o30 =>
 st1 w28 b29 (o30 + 1) (vS r27.1) fun w31 =>
 ldI w31 .i64 b17 0 fun n32 =>
 ldI w31 .i64 b17 (0 + 1) fun n33 =>
 st1 w31 b1 0 (.int .i64 n32) fun w34 =>
 st1 w34 b1 (0 + 1) (.int .i64 n33) fun w35 =>
 ldI w35 .i64 b1 0 fun n36 =>
 ldI w35 .i64 b1 (0 + 1) fun n37 =>
 R [.agg #[.int .i64 n36, .int .i64 n37], .bool true] w35)
theorem tie28 (a0 : Option Addr) (R : List Value → World → Prop) (w : World) : compF Pg Try.f28 ⟨[], [], [], []⟩ [.pointer a0] R w = sh28 a0 R w := by kernel_rfl
theorem call28 {a0 : Option Addr} {w : World} {K : TK [.a [(.i .i64), (.i .i64)], kB] → World → Prop} (h : sh28 a0 (fun vs w' => ∃ t, encK [.a [(.i .i64), (.i .i64)], kB] t = vs ∧ K t w') w) : cl Pg 28 [.pointer a0] [.a [(.i .i64), (.i .i64)], kB] w K := cl_of Try.func28 (tie28 ..) h
/-- (*detent/detentref11.Sem).Signal -/
def sh15 (a0 : Option Addr) (R : List Value → World → Prop) (w : World) : Prop :=
 nn a0 fun b1 o2 =>
 ldP w b1 o2 fun p3 =>
 cl Pg 28 [.pointer p3] [.a [(.i .i64), (.i .i64)], kB] w fun (r4 : (Int × Int × Unit) × Bool × Unit) w5 =>
 al w5 73 [.int .i64 0, .int .i64 0] fun b6 w7 =>
 st1 w7 b6 0 (.int .i64 r4.1.1) fun w8 =>
 st1 w8 b6 (0 + 1) (.int .i64 r4.1.2.1) fun w9 =>
 cs r4.2.1 (
 ldI w9 .i64 b6 0 fun n10 =>
 R [.int .i64 n10, .int .i64 0] w9) (
 dr w9 fun w11 =>
 nn a0 fun b12 o13 =>
 ldI w11 .i64 b12 (o13 + 1) fun n14 =>
 nn a0 fun b15 o16 =>
 ldI w11 .i64 b15 (o16 + 2) fun n17 =>
 cs (decide ((n14 : Int) ≥ (n17 : Int))) (
 R [.int .i64 0, .int .i64 (-43)] w11) (
 nn a0 fun b18 o19 =>
 ldI w11 .i64 b18 (o19 + 1) fun n20 =>
 nn a0 fun b21 o22 =>
 st1 w11 b21 (o22 + 1) (.int .i64 (w64 (n20 + 1))) fun w23 =>
 R [.int .i64 0, .int .i64 0] w23))
theorem tie15 (a0 : Option Addr) (R : List Value → World → Prop) (w : World) : compF Pg Try.f15 ⟨[], [], [(4, .l [(0, []), (1, []), (2, []), (3, []), (4, []), (5, []), (6, []), (7, []), (8, [])])], []⟩ [.pointer a0] R w = sh15 a0 R w := by kernel_rfl
theorem call15 {a0 : Option Addr} {w : World} {K : TK [kI, kI] → World → Prop} (h : sh15 a0 (fun vs w' => ∃ t, encK [kI, kI] t = vs ∧ K t w') w) : cl Pg 15 [.pointer a0] [kI, kI] w K := cl_of Try.func15 (tie15 ..) h
/-- (*detent/detentref11.Sem).Poll -/
def sh17 (a0 : Option Addr) (R : List Value → World → Prop) (w : World) : Prop :=
 nn a0 fun b1 o2 =>
 ldI w .i64 b1 (o2 + 1) fun n3 =>
 cs ((n3 : Int) == (0 : Int)) (
 R [.bool false] w) (
 nn a0 fun b4 o5 =>
 ldI w .i64 b4 (o5 + 1) fun n6 =>
 nn a0 fun b7 o8 =>
 st1 w b7 (o8 + 1) (.int .i64 (w64 (n6 - 1))) fun w9 =>
 R [.bool true] w9)
theorem tie17 (a0 : Option Addr) (R : List Value → World → Prop) (w : World) : compF Pg Try.f17 ⟨[], [], [], []⟩ [.pointer a0] R w = sh17 a0 R w := by kernel_rfl
theorem call17 {a0 : Option Addr} {w : World} {K : TK [kB] → World → Prop} (h : sh17 a0 (fun vs w' => ∃ t, encK [kB] t = vs ∧ K t w') w) : cl Pg 17 [.pointer a0] [kB] w K := cl_of Try.func17 (tie17 ..) h
/-- (*detent/detentref4.Queue).At -/
def sh31 (a0 : Option Addr) (a1 : Int) (R : List Value → World → Prop) (w : World) : Prop :=
 lp [kI] w ((0 : Int), ()) fun (t1 : Int × Unit) J2 w3 =>
 nn a0 fun b4 o5 =>
 ldS w3 b4 (o5 + 1) fun s6 =>
 cs (decide ((t1.1 : Int) < ((s6.len : Int) : Int))) (
 nn a0 fun b7 o8 =>
 ldS w3 b7 (o8 + 1) fun s9 =>
 ix s9 t1.1 2 fun b10 o11 =>
 ldI w3 .i64 b10 o11 fun n12 =>
 cs ((n12 : Int) == (a1 : Int)) (
 R [.int .i64 t1.1] w3) (
 J2 (w64 (t1.1 + 1), ()) w3)) (
 R [.int .i64 (-1)] w3)
theorem tie31 (a0 : Option Addr) (a1 : Int) (R : List Value → World → Prop) (w : World) : compF Pg Try.f31 ⟨[(1, ⟨[(5, kI)], [4, 6, 7, 8, 9, 10, 11, 12, 13, 14, 15, 16, 17, 18, 19, 20, 21, 22, 23, 24, 25]⟩)], [], [], []⟩ [.pointer a0, .int .i64 a1] R w = sh31 a0 a1 R w := by kernel_rfl
theorem call31 {a0 : Option Addr} {a1 : Int} {w : World} {K : TK [kI] → World → Prop} (h : sh31 a0 a1 (fun vs w' => ∃ t, encK [kI] t = vs ∧ K t w') w) : cl Pg 31 [.pointer a0, .int .i64 a1] [kI] w K := cl_of Try.func31 (tie31 ..) h
/-- (*detent/detentref4.Queue).put -/
def sh34 (a0 : Option Addr) (a1 : (Int × Int × Unit)) (R : List Value → World → Prop) (w : World) : Prop :=
 al w 73 [.int .i64 a1.1, .int .i64 a1.2.1] fun b1 w2 =>
 nn a0 fun b3 o4 =>
 ldS w2 b3 (o4 + 1) fun s5 =>
 nn a0 fun b6 o7 =>
 ldB w2 b6 o7 fun b8 =>
 jn [kI] w2 (fun (t10 : Int × Unit) w11 =>
 dr w11 fun w13 =>
 nn a0 fun b14 o15 =>
 ldS w13 b14 (o15 + 1) fun s16 =>
 sb s16 0 t10.1 s16.cap 2 fun s17 =>
 ldI w13 .i64 b1 0 fun n18 =>
 ldI w13 .i64 b1 (0 + 1) fun n19 =>
(
 al w13 73 [] fun b20 w21 =>
(w21.cell? ⟨b1, 0, none⟩ = some (.int .i64 n18) ∧ w21.cell? ⟨b1, 0 + 1, none⟩ = some (.int .i64 n19)) ∧ (
(w21.cell? ⟨b14, o15 + 1, none⟩ = some (vS s16)) ∧ (
(
 ef Pg (Builtin.append_ #[70, 70] 70 #[vS ⟨some ⟨b20, 0, none⟩, 0, 0⟩, vS s17]) [kS] w21 fun (r22 : Sl × Unit) w23 =>
(w23.cell? ⟨b1, 0, none⟩ = some (.int .i64 n18) ∧ w23.cell? ⟨b1, 0 + 1, none⟩ = some (.int .i64 n19)) ∧ (
 al w23 73 [.int .i64 n18, .int .i64 n19] fun b24 w25 =>
(w25.cell? ⟨b14, o15 + 1, none⟩ = some (vS s16)) ∧ (
 ef Pg (Builtin.append_ #[70, 70] 70 #[vS r22.1, vS ⟨some ⟨b24, 0, none⟩, 1, 1⟩]) [kS] w25 fun (r26 : Sl × Unit) w27 =>
 nn a0 fun b28 o29 =>
 ldS w27 b28 (o29 + 1) fun s30 =>
 sb s30 t10.1 s30.len s30.cap 2 fun s31 =>
 ef Pg (Builtin.append_ #[70, 70] 70 #[vS r26.1, vS s31]) [kS] w27 fun (r32 : Sl × Unit) w33 =>
 nn a0 fun b34 o35 =>
 st1 w33 b34 (o35 + 1) (vS r32.1) fun w36 =>
 R [] w36))) ∧ (
 al w21 73 [.int .i64 n18, .int .i64 n19] fun b37 w38 =>
(w38.cell? ⟨b14, o15 + 1, none⟩ = some (vS s16)) ∧ (
 ef Pg (Builtin.append_ #[70, 70] 70 #[vS ⟨some ⟨b20, 0, none⟩, 0, 0⟩, vS s17]) [kS] w38 fun (r39 : Sl × Unit) w40 =>
(w40.cell? ⟨b1, 0, none⟩ = some (.int .i64 n18) ∧ w40.cell? ⟨b1, 0 + 1, none⟩ = some (.int .i64 n19)) ∧ (
 ef Pg (Builtin.append_ #[70, 70] 70 #[vS r39.1, vS ⟨some ⟨b37, 0, none⟩, 1, 1⟩]) [kS] w40 fun (r41 : Sl × Unit) w42 =>
 nn a0 fun b43 o44 =>
 ldS w42 b43 (o44 + 1) fun s45 =>
 sb s45 t10.1 s45.len s45.cap 2 fun s46 =>
 ef Pg (Builtin.append_ #[70, 70] 70 #[vS r41.1, vS s46]) [kS] w42 fun (r47 : Sl × Unit) w48 =>
 nn a0 fun b49 o50 =>
 st1 w48 b49 (o50 + 1) (vS r47.1) fun w51 =>
 R [] w51)))))) ∧ (
 al w13 73 [.int .i64 n18, .int .i64 n19] fun b52 w53 =>
(w53.cell? ⟨b14, o15 + 1, none⟩ = some (vS s16)) ∧ (
 al w53 73 [] fun b54 w55 =>
(w55.cell? ⟨b1, 0, none⟩ = some (.int .i64 n18) ∧ w55.cell? ⟨b1, 0 + 1, none⟩ = some (.int .i64 n19)) ∧ (
(w55.cell? ⟨b14, o15 + 1, none⟩ = some (vS s16)) ∧ (
 ef Pg (Builtin.append_ #[70, 70] 70 #[vS ⟨some ⟨b54, 0, none⟩, 0, 0⟩, vS s17]) [kS] w55 fun (r56 : Sl × Unit) w57 =>
(w57.cell? ⟨b1, 0, none⟩ = some (.int .i64 n18) ∧ w57.cell? ⟨b1, 0 + 1, none⟩ = some (.int .i64 n19)) ∧ (
 ef Pg (Builtin.append_ #[70, 70] 70 #[vS r56.1, vS ⟨some ⟨b52, 0, none⟩, 1, 1⟩]) [kS] w57 fun (r58 : Sl × Unit) w59 =>
 nn a0 fun b60 o61 =>
 ldS w59 b60 (o61 + 1) fun s62 =>
 sb s62 t10.1 s62.len s62.cap 2 fun s63 =>
 ef Pg (Builtin.append_ #[70, 70] 70 #[vS r58.1, vS s63]) [kS] w59 fun (r64 : Sl × Unit) w65 =>
 nn a0 fun b66 o67 =>
 st1 w65 b66 (o67 + 1) (vS r64.1) fun w68 =>
 R [] w68)))))) fun J9 w12 =>
 cs b8 (
 lp [kI] w12 ((s5.len : Int), ()) fun (t69 : Int × Unit) J70 w71 =>
 dr w71 fun w72 =>
 jn [kB] w72 (fun (t74 : Bool × Unit) w75 =>
 cs t74.1 (
 J70 (w64 (t69.1 - 1), ()) w75) (
 J9 (t69.1, ()) w75)) fun J73 w76 =>
 cs (decide ((t69.1 : Int) > (0 : Int))) (
 nn a0 fun b77 o78 =>
 ldS w76 b77 (o78 + 1) fun s79 =>
 ix s79 (w64 (t69.1 - 1)) 2 fun b80 o81 =>
 ldI w76 .i64 b80 (o81 + 1) fun n82 =>
 ldI w76 .i64 b1 (0 + 1) fun n83 =>
 J73 (decide ((n82 : Int) > (n83 : Int)), ()) w76) (
 J73 (false, ()) w76)) (
 J9 ((s5.len : Int), ()) w12)
theorem tie34 (a0 : Option Addr) (a1 : (Int × Int × Unit)) (R : List Value → World → Prop) (w : World) : compF Pg Try.f34 ⟨[(0, ⟨[(4, kI)], [15, 16, 17, 18, 19, 20, 21, 22, 23, 24, 25, 26, 27, 28, 29, 30, 31, 32]⟩), (2, ⟨[(4, kI)], [15, 16, 17, 18, 19, 20, 21, 22, 23, 24, 25, 26, 27, 28, 29, 30, 31, 32]⟩)], [(3, ⟨[(30, kB)], [15, 16, 17, 18, 19, 20, 21, 22, 23, 24, 25, 26, 27, 28, 29]⟩)], [(5, .t [(1, []), (2, []), (3, []), (4, []), (5, []), (6, []), (8, [])] 0 [] (.t [] 7 [0, 6, 4, 5, 3, 2, 1] (.l [(9, [8]), (10, [7, 9, 0, 6, 8, 4, 5, 3, 2, 1]), (11, [])]) 9 [8] (.l [(7, [0, 6, 4, 5, 3, 2, 1]), (10, [7, 9, 0, 6, 8, 4, 5, 3, 2, 1]), (11, [])])) 9 [8] (.l [(0, []), (7, [0, 6, 4, 5, 3, 2, 1]), (10, [7, 9, 0, 6, 8, 4, 5, 3, 2, 1]), (11, [])])), (3, .l [(0, []), (1, []), (2, []), (3, []), (4, []), (5, []), (6, []), (7, []), (8, []), (9, []), (10, []), (11, []), (12, []), (13, []), (14, []), (15, [])])], []⟩ [.pointer a0, .agg #[.int .i64 a1.1, .int .i64 a1.2.1]] R w = sh34 a0 a1 R w := by kernel_rfl
theorem call34 {a0 : Option Addr} {a1 : (Int × Int × Unit)} {w : World} {K : TK [] → World → Prop} (h : sh34 a0 a1 (fun vs w' => ∃ t, encK [] t = vs ∧ K t w') w) : cl Pg 34 [.pointer a0, .agg #[.int .i64 a1.1, .int .i64 a1.2.1]] [] w K := cl_of Try.func34 (tie34 ..) h
/-- detent/detentref4.Good -/
def sh42 (a0 : Int) (a1 : Int) (R : List Value → World → Prop) (w : World) : Prop :=
 jn [kB] w (fun (t2 : Bool × Unit) w3 =>
 jn [kB] w3 (fun (t6 : Bool × Unit) w7 =>
 jn [kB] w7 (fun (t10 : Bool × Unit) w11 =>
 R [.bool t10.1] w11) fun J9 w12 =>
 cs t6.1 (
 J9 (decide ((a1 : Int) ≤ (16 : Int)), ()) w12) (
 J9 (false, ()) w12)) fun J5 w8 =>
 cs t2.1 (
 J5 (decide ((a1 : Int) ≥ (1 : Int)), ()) w8) (
 J5 (false, ()) w8)) fun J1 w4 =>
 cs (decide ((a0 : Int) ≥ (1 : Int))) (
 J1 (decide ((a0 : Int) ≤ (16 : Int)), ()) w4) (
 J1 (false, ()) w4)
theorem tie42 (a0 : Int) (a1 : Int) (R : List Value → World → Prop) (w : World) : compF Pg Try.f42 ⟨[], [], [], [(1, [(3, 3, ⟨[(10, kB)], [8, 9]⟩), (7, 3, ⟨[(14, kB)], [12, 13]⟩), (11, 3, ⟨[(18, kB)], [16, 17]⟩)])]⟩ [.int .i64 a0, .int .i64 a1] R w = sh42 a0 a1 R w := by kernel_rfl
theorem call42 {a0 : Int} {a1 : Int} {w : World} {K : TK [kB] → World → Prop} (h : sh42 a0 a1 (fun vs w' => ∃ t, encK [kB] t = vs ∧ K t w') w) : cl Pg 42 [.int .i64 a0, .int .i64 a1] [kB] w K := cl_of Try.func42 (tie42 ..) h
/-- (*detent/detentref4.Queue).Add -/
def sh29 (a0 : Option Addr) (a1 : Int) (a2 : Int) (R : List Value → World → Prop) (w : World) : Prop :=
 cl Pg 42 [.int .i64 a1, .int .i64 a2] [kB] w fun (r1 : Bool × Unit) w2 =>
 cs (!r1.1) (
 R [.int .i64 (-17)] w2) (
 cl Pg 31 [.pointer a0, .int .i64 a1] [kI] w2 fun (r3 : Int × Unit) w4 =>
 cs (decide ((r3.1 : Int) ≥ (0 : Int))) (
 R [.int .i64 (-41)] w4) (
 cl Pg 34 [.pointer a0, .agg #[.int .i64 a1, .int .i64 a2]] [] w4 fun (r5 : Unit) w6 =>
 R [.int .i64 0] w6))
theorem tie29 (a0 : Option Addr) (a1 : Int) (a2 : Int) (R : List Value → World → Prop) (w : World) : compF Pg Try.f29 ⟨[], [], [], []⟩ [.pointer a0, .int .i64 a1, .int .i64 a2] R w = sh29 a0 a1 a2 R w := by kernel_rfl
theorem call29 {a0 : Option Addr} {a1 : Int} {a2 : Int} {w : World} {K : TK [kI] → World → Prop} (h : sh29 a0 a1 a2 (fun vs w' => ∃ t, encK [kI] t = vs ∧ K t w') w) : cl Pg 29 [.pointer a0, .int .i64 a1, .int .i64 a2] [kI] w K := cl_of Try.func29 (tie29 ..) h
/-- (*detent/detentref11.Sem).Wait -/
def sh16 (a0 : Option Addr) (a1 : Int) (a2 : Int) (R : List Value → World → Prop) (w : World) : Prop :=
 cl Pg 17 [.pointer a0] [kB] w fun (r1 : Bool × Unit) w2 =>
 cs r1.1 (
 R [.bool true, .int .i64 0] w2) (
 nn a0 fun b3 o4 =>
 ldP w2 b3 o4 fun p5 =>
 cl Pg 29 [.pointer p5, .int .i64 a1, .int .i64 a2] [kI] w2 fun (r6 : Int × Unit) w7 =>
 R [.bool false, .int .i64 r6.1] w7)
theorem tie16 (a0 : Option Addr) (a1 : Int) (a2 : Int) (R : List Value → World → Prop) (w : World) : compF Pg Try.f16 ⟨[], [], [], []⟩ [.pointer a0, .int .i64 a1, .int .i64 a2] R w = sh16 a0 a1 a2 R w := by kernel_rfl
theorem call16 {a0 : Option Addr} {a1 : Int} {a2 : Int} {w : World} {K : TK [kB, kI] → World → Prop} (h : sh16 a0 a1 a2 (fun vs w' => ∃ t, encK [kB, kI] t = vs ∧ K t w') w) : cl Pg 16 [.pointer a0, .int .i64 a1, .int .i64 a2] [kB, kI] w K := cl_of Try.func16 (tie16 ..) h
/-- (*detent/detentref4.Queue).Remove -/
def sh19 (a0 : Option Addr) (a1 : Int) (R : List Value → World → Prop) (w : World) : Prop :=
 cl Pg 31 [.pointer a0, .int .i64 a1] [kI] w fun (r1 : Int × Unit) w2 =>
 cs (decide ((r1.1 : Int) < (0 : Int))) (
 R [.bool false] w2) (
 al w2 73 [] fun b3 w4 =>
 nn a0 fun b5 o6 =>
 ldS w4 b5 (o6 + 1) fun s7 =>
 sb s7 0 r1.1 s7.cap 2 fun s8 =>
 ef Pg (Builtin.append_ #[70, 70] 70 #[vS ⟨some ⟨b3, 0, none⟩, 0, 0⟩, vS s8]) [kS] w4 fun (r9 : Sl × Unit) w10 =>
 nn a0 fun b11 o12 =>
 ldS w10 b11 (o12 + 1) fun s13 =>
 sb s13 (w64 (r1.1 + 1)) s13.len s13.cap 2 fun s14 =>
 ef Pg (Builtin.append_ #[70, 70] 70 #[vS r9.1, vS s14]) [kS] w10 fun (r15 : Sl × Unit) w16 =>
 nn a0 fun b17 o18 =>
 st1 w16 b17 (o18 + 1) (vS r15.1) fun w19 =>
 R [.bool true] w19)
theorem tie19 (a0 : Option Addr) (a1 : Int) (R : List Value → World → Prop) (w : World) : compF Pg Try.f19 ⟨[], [], [], []⟩ [.pointer a0, .int .i64 a1] R w = sh19 a0 a1 R w := by kernel_rfl
theorem call19 {a0 : Option Addr} {a1 : Int} {w : World} {K : TK [kB] → World → Prop} (h : sh19 a0 a1 (fun vs w' => ∃ t, encK [kB] t = vs ∧ K t w') w) : cl Pg 19 [.pointer a0, .int .i64 a1] [kB] w K := cl_of Try.func19 (tie19 ..) h
/-- (*detent/order.Queue).Change -/
def sh20 (a0 : Option Addr) (a1 : Int) (a2 : Int) (R : List Value → World → Prop) (w : World) : Prop :=
 nn a0 fun b1 o2 =>
 cl Pg 26 [.pointer (some ⟨b1, o2, none⟩), .int .i64 a1] [kI] w fun (r3 : Int × Unit) w4 =>
 jn [kB] w4 (fun (t6 : Bool × Unit) w7 =>
 cs t6.1 (
 R [.bool false] w7) (
 nn a0 fun b9 o10 =>
 ldB w7 b9 (o10 + 1) fun b11 =>
 cs (!b11) (
 nn a0 fun b12 o13 =>
 ldS w7 b12 o13 fun s14 =>
 ix s14 r3.1 2 fun b15 o16 =>
 st1 w7 b15 (o16 + 1) (.int .i64 a2) fun w17 =>
 R [.bool true] w17) (
 nn a0 fun b18 o19 =>
 cl Pg 18 [.pointer (some ⟨b18, o19, none⟩), .int .i64 a1] [kB] w7 fun (r20 : Bool × Unit) w21 =>
 cl Pg 33 [.pointer a0, .agg #[.int .i64 a1, .int .i64 a2]] [] w21 fun (r22 : Unit) w23 =>
 R [.bool true] w23))) fun J5 w8 =>
 cs (decide ((r3.1 : Int) < (0 : Int))) (
 J5 (true, ()) w8) (
 cl Pg 32 [.int .i64 a2] [kB] w8 fun (r24 : Bool × Unit) w25 =>
 J5 (!r24.1, ()) w25)
theorem tie20 (a0 : Option Addr) (a1 : Int) (a2 : Int) (R : List Value → World → Prop) (w : World) : compF Pg Try.f20 ⟨[], [], [], [(2, [(3, 4, ⟨[(19, kB)], [16, 17, 18]⟩)])]⟩ [.pointer a0, .int .i64 a1, .int .i64 a2] R w = sh20 a0 a1 a2 R w := by kernel_rfl
theorem call20 {a0 : Option Addr} {a1 : Int} {a2 : Int} {w : World} {K : TK [kB] → World → Prop} (h : sh20 a0 a1 a2 (fun vs w' => ∃ t, encK [kB] t = vs ∧ K t w') w) : cl Pg 20 [.pointer a0, .int .i64 a1, .int .i64 a2] [kB] w K := cl_of Try.func20 (tie20 ..) h
/-- (*detent/detentref4.Queue).Change -/
def sh21 (a0 : Option Addr) (a1 : Int) (a2 : Int) (R : List Value → World → Prop) (w : World) : Prop :=
 cl Pg 31 [.pointer a0, .int .i64 a1] [kI] w fun (r1 : Int × Unit) w2 =>
 jn [kB] w2 (fun (t4 : Bool × Unit) w5 =>
 jn [kB] w5 (fun (t8 : Bool × Unit) w9 =>
 cs t8.1 (
 R [.bool false] w9) (
 nn a0 fun b11 o12 =>
 ldB w9 b11 o12 fun b13 =>
 cs b13 (
 cl Pg 19 [.pointer a0, .int .i64 a1] [kB] w9 fun (r14 : Bool × Unit) w15 =>
 cl Pg 34 [.pointer a0, .agg #[.int .i64 a1, .int .i64 a2]] [] w15 fun (r16 : Unit) w17 =>
 R [.bool true] w17) (
 al w9 73 [] fun b18 w19 =>
 nn a0 fun b20 o21 =>
 ldS w19 b20 (o21 + 1) fun s22 =>
 ef Pg (Builtin.append_ #[70, 70] 70 #[vS ⟨some ⟨b18, 0, none⟩, 0, 0⟩, vS s22]) [kS] w19 fun (r23 : Sl × Unit) w24 =>
 nn a0 fun b25 o26 =>
 st1 w24 b25 (o26 + 1) (vS r23.1) fun w27 =>
 nn a0 fun b28 o29 =>
 ldS w27 b28 (o29 + 1) fun s30 =>
 ix s30 r1.1 2 fun b31 o32 =>
 st1 w27 b31 (o32 + 1) (.int .i64 a2) fun w33 =>
 R [.bool true] w33))) fun J7 w10 =>
 cs t4.1 (
 J7 (true, ()) w10) (
 J7 (decide ((a2 : Int) > (16 : Int)), ()) w10)) fun J3 w6 =>
 cs (decide ((r1.1 : Int) < (0 : Int))) (
 J3 (true, ()) w6) (
 J3 (decide ((a2 : Int) < (1 : Int)), ()) w6)
theorem tie21 (a0 : Option Addr) (a1 : Int) (a2 : Int) (R : List Value → World → Prop) (w : World) : compF Pg Try.f21 ⟨[], [], [], [(2, [(3, 3, ⟨[(16, kB)], [14, 15]⟩), (7, 3, ⟨[(20, kB)], [18, 19]⟩)])]⟩ [.pointer a0, .int .i64 a1, .int .i64 a2] R w = sh21 a0 a1 a2 R w := by kernel_rfl
theorem call21 {a0 : Option Addr} {a1 : Int} {a2 : Int} {w : World} {K : TK [kB] → World → Prop} (h : sh21 a0 a1 a2 (fun vs w' => ∃ t, encK [kB] t = vs ∧ K t w') w) : cl Pg 21 [.pointer a0, .int .i64 a1, .int .i64 a2] [kB] w K := cl_of Try.func21 (tie21 ..) h
/-- slices.Clone[[]detent/order.Item,detent/order.Item] -/
def sh44 (a0 : Sl) (R : List Value → World → Prop) (w : World) : Prop :=
 cs a0.a.isNone (
 R [.slice none 0 0] w) (
 al w 64 [] fun b1 w2 =>
 ef Pg (Builtin.append_ #[34, 34] 34 #[vS ⟨some ⟨b1, 0, none⟩, 0, 0⟩, vS a0]) [kS] w2 fun (r3 : Sl × Unit) w4 =>
 R [vS r3.1] w4)
theorem tie44 (a0 : Sl) (R : List Value → World → Prop) (w : World) : compF Pg Try.f44 ⟨[], [], [], []⟩ [vS a0] R w = sh44 a0 R w := by kernel_rfl
theorem call44 {a0 : Sl} {w : World} {K : TK [kS] → World → Prop} (h : sh44 a0 (fun vs w' => ∃ t, encK [kS] t = vs ∧ K t w') w) : cl Pg 44 [vS a0] [kS] w K := cl_of Try.func44 (tie44 ..) h
/-- (*detent/order.Queue).Twin -/
def sh35 (a0 : Option Addr) (R : List Value → World → Prop) (w : World) : Prop :=
 dr w fun w1 =>
 nn a0 fun b2 o3 =>
 ldS w1 b2 o3 fun s4 =>
 nn a0 fun b5 o6 =>
 ldB w1 b5 (o6 + 1) fun b7 =>
 cl Pg 44 [vS s4] [kS] w1 fun (r8 : Sl × Unit) w9 =>
(w9.cell? ⟨b5, o6 + 1, none⟩ = some (.bool b7)) ∧ (
 al w9 38 [vS r8.1, .bool b7] fun b10 w11 =>
 R [.pointer (some ⟨b10, 0, none⟩)] w11)
theorem tie35 (a0 : Option Addr) (R : List Value → World → Prop) (w : World) : compF Pg Try.f35 ⟨[], [], [(1, .l [(0, []), (1, []), (2, []), (3, []), (4, []), (7, []), (8, []), (9, []), (10, []), (5, [4, 3, 2, 1, 0]), (6, []), (11, []), (12, [11, 6, 10, 5, 9, 4, 8, 3, 7, 2, 1, 0]), (13, [])])], []⟩ [.pointer a0] R w = sh35 a0 R w := by kernel_rfl
theorem call35 {a0 : Option Addr} {w : World} {K : TK [kP] → World → Prop} (h : sh35 a0 (fun vs w' => ∃ t, encK [kP] t = vs ∧ K t w') w) : cl Pg 35 [.pointer a0] [kP] w K := cl_of Try.func35 (tie35 ..) h
/-- (*detent/sem.Sem).Apart -/
def sh22 (a0 : Option Addr) (R : List Value → World → Prop) (w : World) : Prop :=
 dr w fun w1 =>
 nn a0 fun b2 o3 =>
 ldP w1 b2 o3 fun p4 =>
 nn a0 fun b5 o6 =>
 ldI w1 .i64 b5 (o6 + 1) fun n7 =>
 nn a0 fun b8 o9 =>
 ldI w1 .i64 b8 (o9 + 2) fun n10 =>
 cl Pg 35 [.pointer p4] [kP] w1 fun (r11 : Option Addr × Unit) w12 =>
(w12.cell? ⟨b8, o9 + 2, none⟩ = some (.int .i64 n10)) ∧ (
(w12.cell? ⟨b5, o6 + 1, none⟩ = some (.int .i64 n7)) ∧ (
 al w12 33 [.pointer r11.1, .int .i64 n7, .int .i64 n10] fun b13 w14 =>
 R [.pointer (some ⟨b13, 0, none⟩)] w14))
theorem tie22 (a0 : Option Addr) (R : List Value → World → Prop) (w : World) : compF Pg Try.f22 ⟨[], [], [(1, .l [(0, []), (1, []), (2, []), (3, []), (5, []), (6, []), (7, []), (8, []), (9, []), (10, []), (11, []), (12, []), (4, [3, 2, 1, 0]), (13, []), (14, [13, 4, 8, 12, 3, 7, 11, 2, 6, 10, 1, 5, 9, 0]), (15, [])])], []⟩ [.pointer a0] R w = sh22 a0 R w := by kernel_rfl
theorem call22 {a0 : Option Addr} {w : World} {K : TK [kP] → World → Prop} (h : sh22 a0 (fun vs w' => ∃ t, encK [kP] t = vs ∧ K t w') w) : cl Pg 22 [.pointer a0] [kP] w K := cl_of Try.func22 (tie22 ..) h
/-- detent/detentlaw4.Row -/
def sh36 (a0 : Sl) (a1 : Sl) (R : List Value → World → Prop) (w : World) : Prop :=
 cs (((a0.len : Int) : Int) != ((a1.len : Int) : Int)) (
 R [.bool false] w) (
 lp [kI] w ((0 : Int), ()) fun (t1 : Int × Unit) J2 w3 =>
 cs (decide ((t1.1 : Int) < ((a0.len : Int) : Int))) (
 dr w3 fun w4 =>
 jn [kB] w4 (fun (t6 : Bool × Unit) w7 =>
 cs t6.1 (
 R [.bool false] w7) (
 J2 (w64 (t1.1 + 1), ()) w7)) fun J5 w8 =>
 ix a0 t1.1 2 fun b9 o10 =>
 ldI w8 .i64 b9 o10 fun n11 =>
 ix a1 t1.1 2 fun b12 o13 =>
 ldI w8 .i64 b12 o13 fun n14 =>
 cs ((n11 : Int) != (n14 : Int)) (
 J5 (true, ()) w8) (
 ix a0 t1.1 2 fun b15 o16 =>
 ldI w8 .i64 b15 (o16 + 1) fun n17 =>
 ix a1 t1.1 2 fun b18 o19 =>
 ldI w8 .i64 b18 (o19 + 1) fun n20 =>
 J5 ((n17 : Int) != (n20 : Int), ()) w8)) (
 R [.bool true] w3))
theorem tie36 (a0 : Sl) (a1 : Sl) (R : List Value → World → Prop) (w : World) : compF Pg Try.f36 ⟨[(2, ⟨[(5, kI)], [4, 11, 12, 13, 14, 15, 16, 17, 18, 19, 20, 21, 22, 23, 24, 25, 26, 27, 28, 29, 30, 31, 32, 33, 34, 35, 36, 37, 38, 39, 40]⟩)], [(6, ⟨[(40, kB)], [17, 18, 19, 20, 21, 22, 23, 24, 25, 26, 27, 28, 29, 30, 31, 32, 33, 34, 35, 36, 37, 38, 39]⟩)], [(6, .l [(0, []), (1, []), (2, []), (3, []), (4, []), (5, []), (6, []), (7, []), (8, []), (9, []), (10, []), (11, []), (12, []), (13, []), (14, []), (15, []), (16, []), (17, []), (18, []), (19, []), (20, []), (21, []), (22, []), (23, [])])], []⟩ [vS a0, vS a1] R w = sh36 a0 a1 R w := by kernel_rfl
theorem call36 {a0 : Sl} {a1 : Sl} {w : World} {K : TK [kB] → World → Prop} (h : sh36 a0 a1 (fun vs w' => ∃ t, encK [kB] t = vs ∧ K t w') w) : cl Pg 36 [vS a0, vS a1] [kB] w K := cl_of Try.func36 (tie36 ..) h
/-- slices.Clip[[]detent/order.Item,detent/order.Item] -/
def sh45 (a0 : Sl) (R : List Value → World → Prop) (w : World) : Prop :=
 sb a0 0 (a0.len : Int) (a0.len : Int) 2 fun s1 =>
 R [vS s1] w
theorem tie45 (a0 : Sl) (R : List Value → World → Prop) (w : World) : compF Pg Try.f45 ⟨[], [], [], []⟩ [vS a0] R w = sh45 a0 R w := by kernel_rfl
theorem call45 {a0 : Sl} {w : World} {K : TK [kS] → World → Prop} (h : sh45 a0 (fun vs w' => ∃ t, encK [kS] t = vs ∧ K t w') w) : cl Pg 45 [vS a0] [kS] w K := cl_of Try.func45 (tie45 ..) h
/-- (*detent/order.Line).Row -/
def sh37 (a0 : Option Addr) (R : List Value → World → Prop) (w : World) : Prop :=
 nn a0 fun b1 o2 =>
 ldS w b1 o2 fun s3 =>
 cl Pg 44 [vS s3] [kS] w fun (r4 : Sl × Unit) w5 =>
 cl Pg 45 [vS r4.1] [kS] w5 fun (r6 : Sl × Unit) w7 =>
 R [vS r6.1] w7
theorem tie37 (a0 : Option Addr) (R : List Value → World → Prop) (w : World) : compF Pg Try.f37 ⟨[], [], [], []⟩ [.pointer a0] R w = sh37 a0 R w := by kernel_rfl
theorem call37 {a0 : Option Addr} {w : World} {K : TK [kS] → World → Prop} (h : sh37 a0 (fun vs w' => ∃ t, encK [kS] t = vs ∧ K t w') w) : cl Pg 37 [.pointer a0] [kS] w K := cl_of Try.func37 (tie37 ..) h
/-- (*detent/order.Line).Pri -/
def sh39 (a0 : Option Addr) (a1 : Int) (R : List Value → World → Prop) (w : World) : Prop :=
 cl Pg 26 [.pointer a0, .int .i64 a1] [kI] w fun (r1 : Int × Unit) w2 =>
 cs (decide ((r1.1 : Int) < (0 : Int))) (
 R [.int .i64 0, .bool false] w2) (
 nn a0 fun b3 o4 =>
 ldS w2 b3 o4 fun s5 =>
 ix s5 r1.1 2 fun b6 o7 =>
 ldI w2 .i64 b6 (o7 + 1) fun n8 =>
 R [.int .i64 n8, .bool true] w2)
theorem tie39 (a0 : Option Addr) (a1 : Int) (R : List Value → World → Prop) (w : World) : compF Pg Try.f39 ⟨[], [], [], []⟩ [.pointer a0, .int .i64 a1] R w = sh39 a0 a1 R w := by kernel_rfl
theorem call39 {a0 : Option Addr} {a1 : Int} {w : World} {K : TK [kI, kB] → World → Prop} (h : sh39 a0 a1 (fun vs w' => ∃ t, encK [kI, kB] t = vs ∧ K t w') w) : cl Pg 39 [.pointer a0, .int .i64 a1] [kI, kB] w K := cl_of Try.func39 (tie39 ..) h
/-- detent/detentlaw4.Same -/
def sh23 (a0 : Option Addr) (a1 : Option Addr) (R : List Value → World → Prop) (w : World) : Prop :=
 dr w fun w1 =>
 jn [kB] w1 (fun (t3 : Bool × Unit) w4 =>
 cs t3.1 (
 R [.bool false] w4) (
 nn a0 fun b6 o7 =>
 cl Pg 38 [.pointer (some ⟨b6, o7, none⟩)] [.a [(.i .i64), (.i .i64)], kB] w4 fun (r8 : (Int × Int × Unit) × Bool × Unit) w9 =>
 al w9 64 [.int .i64 0, .int .i64 0] fun b10 w11 =>
 st1 w11 b10 0 (.int .i64 r8.1.1) fun w12 =>
 st1 w12 b10 (0 + 1) (.int .i64 r8.1.2.1) fun w13 =>
 dr w13 fun w14 =>
 jn [kB] w14 (fun (t16 : Bool × Unit) w17 =>
 cs t16.1 (
 R [.bool false] w17) (
 lp [kI] w17 ((0 : Int), ()) fun (t19 : Int × Unit) J20 w21 =>
 cs (decide ((t19.1 : Int) ≤ (17 : Int))) (
 cl Pg 31 [.pointer a1, .int .i64 t19.1] [kI] w21 fun (r22 : Int × Unit) w23 =>
 nn a0 fun b24 o25 =>
 cl Pg 39 [.pointer (some ⟨b24, o25, none⟩), .int .i64 t19.1] [kI, kB] w23 fun (r26 : Int × Bool × Unit) w27 =>
 nn a0 fun b28 o29 =>
 cl Pg 11 [.pointer (some ⟨b28, o29, none⟩), .int .i64 t19.1] [kB] w27 fun (r30 : Bool × Unit) w31 =>
 jn [kB] w31 (fun (t33 : Bool × Unit) w34 =>
 jn [kB] w34 (fun (t37 : Bool × Unit) w38 =>
 jn [kB] w38 (fun (t41 : Bool × Unit) w42 =>
 cs t41.1 (
 R [.bool false] w42) (
 J20 (w64 (t19.1 + 1), ()) w42)) fun J40 w43 =>
 cs t37.1 (
 J40 (true, ()) w43) (
 jn [kB] w43 (fun (t45 : Bool × Unit) w46 =>
 J40 (t45.1, ()) w46) fun J44 w47 =>
 cs (decide ((r22.1 : Int) < (0 : Int))) (
 J44 ((r26.1 : Int) != (0 : Int), ()) w47) (
 J44 (false, ()) w47))) fun J36 w39 =>
 cs t33.1 (
 J36 (true, ()) w39) (
 jn [kB] w39 (fun (t49 : Bool × Unit) w50 =>
 J36 (t49.1, ()) w50) fun J48 w51 =>
 cs (decide ((r22.1 : Int) ≥ (0 : Int))) (
 nn a1 fun b52 o53 =>
 ldS w51 b52 (o53 + 1) fun s54 =>
 ix s54 r22.1 2 fun b55 o56 =>
 ldI w51 .i64 b55 (o56 + 1) fun n57 =>
 J48 ((r26.1 : Int) != (n57 : Int), ()) w51) (
 J48 (false, ()) w51))) fun J32 w35 =>
 cs (!(r30.1 == (decide ((r22.1 : Int) ≥ (0 : Int))))) (
 J32 (true, ()) w35) (
 J32 (!(r26.2.1 == (decide ((r22.1 : Int) ≥ (0 : Int)))), ()) w35)) (
 R [.bool true] w21))) fun J15 w18 =>
 nn a1 fun b58 o59 =>
 ldS w18 b58 (o59 + 1) fun s60 =>
 cs (!(r8.2.1 == (decide (((s60.len : Int) : Int) > (0 : Int))))) (
 J15 (true, ()) w18) (
 cs r8.2.1 (
 ldI w18 .i64 b10 0 fun n61 =>
 nn a1 fun b62 o63 =>
 ldS w18 b62 (o63 + 1) fun s64 =>
 ix s64 0 2 fun b65 o66 =>
 ldI w18 .i64 b65 o66 fun n67 =>
 cs ((n61 : Int) != (n67 : Int)) (
 J15 (true, ()) w18) (
 ldI w18 .i64 b10 (0 + 1) fun n68 =>
 nn a1 fun b69 o70 =>
 ldS w18 b69 (o70 + 1) fun s71 =>
 ix s71 0 2 fun b72 o73 =>
 ldI w18 .i64 b72 (o73 + 1) fun n74 =>
 cs ((n68 : Int) != (n74 : Int)) (
 J15 (true, ()) w18) (
 cs (!r8.2.1) (
 ldI w18 .i64 b10 0 fun n75 =>
 cs ((n75 : Int) != (0 : Int)) (
 J15 (true, ()) w18) (
 ldI w18 .i64 b10 (0 + 1) fun n76 =>
 J15 ((n76 : Int) != (0 : Int), ()) w18)) (
 J15 (false, ()) w18)))) (
 cs (!r8.2.1) (
 ldI w18 .i64 b10 0 fun n77 =>
 cs ((n77 : Int) != (0 : Int)) (
 J15 (true, ()) w18) (
 ldI w18 .i64 b10 (0 + 1) fun n78 =>
 J15 ((n78 : Int) != (0 : Int), ()) w18)) (
 J15 (false, ()) w18))))) fun J2 w5 =>
 nn a0 fun b79 o80 =>
 nn a1 fun b81 o82 =>
 ldS w5 b81 (o82 + 1) fun s83 =>
 cl Pg 37 [.pointer (some ⟨b79, o80, none⟩)] [kS] w5 fun (r84 : Sl × Unit) w85 =>
(w85.cell? ⟨b81, o82 + 1, none⟩ = some (vS s83)) ∧ (
 cl Pg 36 [vS r84.1, vS s83] [kB] w85 fun (r86 : Bool × Unit) w87 =>
 cs (!r86.1) (
 J2 (true, ()) w87) (
 nn a0 fun b88 o89 =>
 nn a1 fun b90 o91 =>
 ldS w87 b90 (o91 + 1) fun s92 =>
 cl Pg 10 [.pointer (some ⟨b88, o89, none⟩)] [kI] w87 fun (r93 : Int × Unit) w94 =>
(w94.cell? ⟨b90, o91 + 1, none⟩ = some (vS s92)) ∧ (
 J2 ((r93.1 : Int) != ((s92.len : Int) : Int), ()) w94)))
theorem tie23 (a0 : Option Addr) (a1 : Option Addr) (R : List Value → World → Prop) (w : World) : compF Pg Try.f23 ⟨[(3, ⟨[(7, kI)], [4, 8, 9, 10, 89, 90, 91, 92, 93, 94, 95, 96, 97, 98, 99, 100, 101, 102, 103, 104, 105, 106, 107, 108, 109, 110, 111, 112, 113, 114, 115, 116, 117, 118, 119, 120, 121, 122, 123, 124, 125, 126, 127, 128, 129, 130, 131, 132, 133, 134, 135, 136, 137, 138, 139, 140, 141]⟩)], [(1, ⟨[(32, kB)], [11, 12, 13, 14, 15, 16, 17, 18, 19, 20, 21, 22, 23, 24, 25, 26, 27, 28, 29, 30, 31]⟩), (4, ⟨[(88, kB)], [40, 41, 42, 43, 44, 45, 46, 47, 48, 49, 50, 51, 52, 53, 54, 55, 56, 57, 58, 59, 60, 61, 62, 63, 64, 65, 66, 67, 68, 69, 70, 71, 72, 73, 74, 75, 76, 77, 78, 79, 80, 81, 82, 83, 84, 85, 86, 87]⟩)], [(1, .l [(0, []), (1, []), (2, []), (4, []), (5, []), (6, []), (7, []), (3, [2, 1, 0]), (8, [3, 7, 2, 6, 1, 5, 0, 4]), (9, []), (10, []), (11, []), (12, []), (13, []), (15, []), (16, []), (17, []), (18, []), (19, []), (14, [13, 10, 12, 9, 8, 11, 3, 7, 2, 6, 1, 5, 0, 4]), (20, []), (21, [])]), (4, .l [(0, []), (1, []), (2, []), (3, []), (4, []), (5, []), (6, []), (7, []), (8, []), (9, []), (10, []), (11, []), (12, []), (13, []), (14, []), (15, []), (16, []), (17, []), (18, []), (19, []), (20, []), (21, []), (22, []), (23, []), (24, []), (25, []), (26, []), (27, []), (28, []), (29, []), (30, []), (31, []), (32, []), (33, []), (34, []), (35, []), (36, []), (37, []), (38, []), (39, []), (40, []), (41, []), (42, []), (43, []), (44, []), (45, []), (46, []), (47, []), (48, [])])], [(11, [(9, 5, ⟨[(117, kB)], [113, 114, 115, 116]⟩), (15, 15, ⟨[(133, kB)], [119, 120, 121, 122, 123, 124, 125, 126, 127, 128, 129, 130, 131, 132]⟩), (18, 11, ⟨[(132, kB)], [122, 123, 124, 125, 126, 127, 128, 129, 130, 131]⟩), (31, 7, ⟨[(141, kB)], [135, 136, 137, 138, 139, 140]⟩), (34, 3, ⟨[(140, kB)], [138, 139]⟩)])]⟩ [.pointer a0, .pointer a1] R w = sh23 a0 a1 R w := by kernel_rfl
theorem call23 {a0 : Option Addr} {a1 : Option Addr} {w : World} {K : TK [kB] → World → Prop} (h : sh23 a0 a1 (fun vs w' => ∃ t, encK [kB] t = vs ∧ K t w') w) : cl Pg 23 [.pointer a0, .pointer a1] [kB] w K := cl_of Try.func23 (tie23 ..) h
/-- detent/detentlaw11.SemPlays -/
def sh6 (a0 : Bool) (a1 : Int) (a2 : Int) (a3 : Sl) (R : List Value → World → Prop) (w : World) : Prop :=
 cl Pg 7 [] [kB] w fun (r1 : Bool × Unit) w2 =>
 cs (!r1.1) (
 R [.bool false] w2) (
 cs (decide (((a3.len : Int) : Int) > (100 : Int))) (
 R [.bool true] w2) (
 cl Pg 8 [.bool a0, .int .i64 a1, .int .i64 a2] [kP, kI] w2 fun (r3 : Option Addr × Int × Unit) w4 =>
 cl Pg 14 [.bool a0, .int .i64 a1, .int .i64 a2] [kP, kI] w4 fun (r5 : Option Addr × Int × Unit) w6 =>
 jn [kB] w6 (fun (t8 : Bool × Unit) w9 =>
 cs t8.1 (
 R [.bool false] w9) (
 cs r5.1.isNone (
 R [.bool true] w9) (
 lp [kP, kI] w9 (r3.1, (0 : Int), ()) fun (t11 : Option Addr × Int × Unit) J12 w13 =>
 cs (decide ((t11.2.1 : Int) < ((a3.len : Int) : Int))) (
 ix a3 t11.2.1 3 fun b14 o15 =>
 ldI w13 .i64 b14 o15 fun n16 =>
 ldI w13 .i64 b14 (o15 + 1) fun n17 =>
 ldI w13 .i64 b14 (o15 + 2) fun n18 =>
 al w13 51 [.int .i64 0, .int .i64 0, .int .i64 0] fun b19 w20 =>
 st1 w20 b19 0 (.int .i64 n16) fun w21 =>
 st1 w21 b19 (0 + 1) (.int .i64 n17) fun w22 =>
 st1 w22 b19 (0 + 2) (.int .i64 n18) fun w23 =>
 ldI w23 .i64 b19 0 fun n24 =>
 jn [kP] w23 (fun (t26 : Option Addr × Unit) w27 =>
 dr w27 fun w29 =>
 jn [kB] w29 (fun (t31 : Bool × Unit) w32 =>
 cs t31.1 (
 R [.bool false] w32) (
 J12 (t26.1, w64 (t11.2.1 + 1), ()) w32)) fun J30 w33 =>
 nn t26.1 fun b34 o35 =>
 ldI w33 .i64 b34 (o35 + 1) fun n36 =>
 nn r5.1 fun b37 o38 =>
 ldI w33 .i64 b37 (o38 + 1) fun n39 =>
 cs ((n36 : Int) != (n39 : Int)) (
 J30 (true, ()) w33) (
 nn t26.1 fun b40 o41 =>
 ldI w33 .i64 b40 (o41 + 2) fun n42 =>
 cs ((n42 : Int) != (a2 : Int)) (
 J30 (true, ()) w33) (
 nn t26.1 fun b43 o44 =>
 ldP w33 b43 o44 fun p45 =>
 nn r5.1 fun b46 o47 =>
 ldP w33 b46 o47 fun p48 =>
 cl Pg 23 [.pointer p45, .pointer p48] [kB] w33 fun (r49 : Bool × Unit) w50 =>
 cs (!r49.1) (
 J30 (true, ()) w50) (
 nn t26.1 fun b51 o52 =>
 ldI w50 .i64 b51 (o52 + 1) fun n53 =>
 cs (decide ((n53 : Int) > (0 : Int))) (
 nn t26.1 fun b54 o55 =>
 ldP w50 b54 o55 fun p56 =>
 nn p56 fun b57 o58 =>
 cl Pg 10 [.pointer (some ⟨b57, o58, none⟩)] [kI] w50 fun (r59 : Int × Unit) w60 =>
 J30 (decide ((r59.1 : Int) > (0 : Int)), ()) w60) (
 J30 (false, ()) w50))))) fun J25 w28 =>
 cs ((n24 : Int) == (1 : Int)) (
 cl Pg 9 [.pointer t11.1] [kI, kI] w28 fun (r61 : Int × Int × Unit) w62 =>
 cl Pg 15 [.pointer r5.1] [kI, kI] w62 fun (r63 : Int × Int × Unit) w64 =>
 jn [kB] w64 (fun (t66 : Bool × Unit) w67 =>
 cs t66.1 (
 R [.bool false] w67) (
 J25 (t11.1, ()) w67)) fun J65 w68 =>
 cs ((r61.1 : Int) != (r63.1 : Int)) (
 J65 (true, ()) w68) (
 J65 ((r61.2.1 : Int) != (r63.2.1 : Int), ()) w68)) (
 jn [kP] w28 (fun (t70 : Option Addr × Unit) w71 =>
 J25 (t70.1, ()) w71) fun J69 w72 =>
 cs ((n24 : Int) == (2 : Int)) (
 ldI w72 .i64 b19 (0 + 1) fun n73 =>
 ldI w72 .i64 b19 (0 + 2) fun n74 =>
 cl Pg 12 [.pointer t11.1, .int .i64 n73, .int .i64 n74] [kB, kI] w72 fun (r75 : Bool × Int × Unit) w76 =>
 ldI w76 .i64 b19 (0 + 1) fun n77 =>
 ldI w76 .i64 b19 (0 + 2) fun n78 =>
 cl Pg 16 [.pointer r5.1, .int .i64 n77, .int .i64 n78] [kB, kI] w76 fun (r79 : Bool × Int × Unit) w80 =>
 jn [kB] w80 (fun (t82 : Bool × Unit) w83 =>
 cs t82.1 (
 R [.bool false] w83) (
 J69 (t11.1, ()) w83)) fun J81 w84 =>
 cs (!(r75.1 == r79.1)) (
 J81 (true, ()) w84) (
 J81 ((r75.2.1 : Int) != (r79.2.1 : Int), ()) w84)) (
 jn [kP] w72 (fun (t86 : Option Addr × Unit) w87 =>
 J69 (t86.1, ()) w87) fun J85 w88 =>
 cs ((n24 : Int) == (3 : Int)) (
 cl Pg 13 [.pointer t11.1] [kB] w88 fun (r89 : Bool × Unit) w90 =>
 cl Pg 17 [.pointer r5.1] [kB] w90 fun (r91 : Bool × Unit) w92 =>
 cs (!(r89.1 == r91.1)) (
 R [.bool false] w92) (
 J85 (t11.1, ()) w92)) (
 jn [kP] w88 (fun (t94 : Option Addr × Unit) w95 =>
 J85 (t94.1, ()) w95) fun J93 w96 =>
 cs ((n24 : Int) == (4 : Int)) (
 dr w96 fun w97 =>
 nn t11.1 fun b98 o99 =>
 ldP w97 b98 o99 fun p100 =>
 nn p100 fun b101 o102 =>
 ldI w97 .i64 b19 (0 + 1) fun n103 =>
 nn r5.1 fun b104 o105 =>
 ldP w97 b104 o105 fun p106 =>
 ldI w97 .i64 b19 (0 + 1) fun n107 =>
 cl Pg 18 [.pointer (some ⟨b101, o102, none⟩), .int .i64 n103] [kB] w97 fun (r108 : Bool × Unit) w109 =>
(w109.cell? ⟨b19, 0 + 1, none⟩ = some (.int .i64 n107)) ∧ (
(w109.cell? ⟨b104, o105, none⟩ = some (.pointer p106)) ∧ (
 cl Pg 19 [.pointer p106, .int .i64 n107] [kB] w109 fun (r110 : Bool × Unit) w111 =>
 cs (!(r108.1 == r110.1)) (
 R [.bool false] w111) (
 J93 (t11.1, ()) w111)))) (
 jn [kP] w96 (fun (t113 : Option Addr × Unit) w114 =>
 J93 (t113.1, ()) w114) fun J112 w115 =>
 cs ((n24 : Int) == (5 : Int)) (
 dr w115 fun w116 =>
 nn t11.1 fun b117 o118 =>
 ldP w116 b117 o118 fun p119 =>
 ldI w116 .i64 b19 (0 + 1) fun n120 =>
 ldI w116 .i64 b19 (0 + 2) fun n121 =>
 nn r5.1 fun b122 o123 =>
 ldP w116 b122 o123 fun p124 =>
 ldI w116 .i64 b19 (0 + 1) fun n125 =>
 ldI w116 .i64 b19 (0 + 2) fun n126 =>
 cl Pg 20 [.pointer p119, .int .i64 n120, .int .i64 n121] [kB] w116 fun (r127 : Bool × Unit) w128 =>
(w128.cell? ⟨b19, 0 + 2, none⟩ = some (.int .i64 n126)) ∧ (
(w128.cell? ⟨b19, 0 + 1, none⟩ = some (.int .i64 n125)) ∧ (
(w128.cell? ⟨b122, o123, none⟩ = some (.pointer p124)) ∧ (
 cl Pg 21 [.pointer p124, .int .i64 n125, .int .i64 n126] [kB] w128 fun (r129 : Bool × Unit) w130 =>
 cs (!(r127.1 == r129.1)) (
 R [.bool false] w130) (
 J112 (t11.1, ()) w130))))) (
 jn [kP] w115 (fun (t132 : Option Addr × Unit) w133 =>
 J112 (t132.1, ()) w133) fun J131 w134 =>
 cs ((n24 : Int) == (6 : Int)) (
 cl Pg 22 [.pointer t11.1] [kP] w134 fun (r135 : Option Addr × Unit) w136 =>
 cs r135.1.isNone (
 R [.bool false] w136) (
 cl Pg 9 [.pointer t11.1] [kI, kI] w136 fun (r137 : Int × Int × Unit) w138 =>
 J131 (r135.1, ()) w138)) (
 J131 (t11.1, ()) w134))))))) (
 R [.bool true] w13)))) fun J7 w10 =>
 cs ((r3.2.1 : Int) != (r5.2.1 : Int)) (
 J7 (true, ()) w10) (
 J7 (!(r3.1.isNone == ((r5.2.1 : Int) != (0 : Int))), ()) w10)))
theorem tie6 (a0 : Bool) (a1 : Int) (a2 : Int) (a3 : Sl) (R : List Value → World → Prop) (w : World) : compF Pg Try.f6 ⟨[(5, ⟨[(9, kP), (13, kI)], [8, 14, 15, 16, 17, 18, 19, 20, 21, 22, 23, 55, 56, 57, 58, 59, 60, 61, 62, 63, 64, 65, 66, 67, 68, 69, 70, 71, 72, 73, 74, 75, 76, 77, 78, 79, 80, 81, 82, 83, 84, 85, 86, 87, 88, 89, 90, 91, 92, 93, 94, 95, 96, 97, 98, 99, 100, 101, 102, 103, 104, 105, 106, 107, 108, 109, 110, 111, 112, 113, 114, 115, 116, 117, 118, 119, 120, 121, 122, 123, 124, 125, 126, 127, 128, 129, 130, 131, 132, 133, 134, 135, 136, 137, 138, 139, 140, 141, 142, 143, 144, 145, 146, 147, 148, 149, 150, 151, 152, 153, 154, 155, 156, 157, 158, 159, 160, 161, 162, 163, 164, 165, 166, 167, 168, 169, 170, 171, 172, 173, 174, 175, 176, 177, 178, 179, 180, 181, 182, 183, 184, 185, 186, 187, 188, 189, 190, 191, 192, 193, 194, 195, 196, 197, 198, 199, 200, 201, 202, 203, 204, 205, 206, 207, 208, 209, 210, 211, 212, 213, 214, 215, 216]⟩), (9, ⟨[(9, kP)], [8, 15, 16, 17, 18, 19, 20, 21, 22, 23, 69, 70, 71, 72, 73, 74, 75, 76, 77, 78, 79, 80, 81, 82, 83, 84, 85, 86, 87, 88, 89, 90, 91, 92, 93, 94, 95, 96, 97, 98, 99, 100, 101, 102, 103, 104, 105, 106, 107, 108, 109, 110, 111, 112, 113, 114, 115, 116, 117, 118, 119, 120, 121, 122, 123, 124, 125, 126, 127, 128, 129, 130, 131, 132, 133, 134, 135, 136, 137, 138, 139, 140, 141, 142, 143, 144, 145, 146, 147, 148, 149, 150, 151, 152, 153, 154, 155, 156, 157, 158, 159, 160, 161, 162, 163, 164, 165, 166, 167, 168, 169, 170]⟩), (11, ⟨[(9, kP)], [8, 19, 20, 21, 22, 23, 89, 90, 91, 92, 93, 94, 95, 96, 97, 98, 99, 100, 101, 102, 103, 104, 105, 106, 107, 108, 109, 110, 111, 112, 113, 114, 115, 116, 117, 118, 119, 120, 121, 122, 123, 124, 125, 126, 127, 128, 129, 130, 131, 132, 133, 134, 135, 136, 137, 138, 139, 140, 141, 142, 143, 144, 145, 146, 147, 148, 149, 150, 151, 152, 153, 154, 155, 156, 157, 158, 159, 160, 161, 162, 163, 164, 165, 166, 167, 168, 169, 170]⟩), (13, ⟨[(9, kP)], [8, 23, 117, 118, 119, 120, 121, 122, 123, 124, 125, 126, 127, 128, 129, 130, 131, 132, 133, 134, 135, 136, 137, 138, 139, 140, 141, 142, 143, 144, 145, 146, 147, 148, 149, 150, 151, 152, 153, 154, 155, 156, 157, 158, 159, 160, 161, 162, 163, 164, 165, 166, 167, 168, 169, 170]⟩), (15, ⟨[(9, kP)], [8, 23, 124, 125, 126, 127, 128, 129, 130, 131, 132, 133, 134, 135, 136, 137, 138, 139, 140, 141, 142, 143, 144, 145, 146, 147, 148, 149, 150, 151, 152, 153, 154, 155, 156, 157, 158, 159, 160, 161, 162, 163, 164, 165, 166, 167, 168, 169, 170]⟩), (17, ⟨[(9, kP)], [8, 23, 143, 144, 145, 146, 147, 148, 149, 150, 151, 152, 153, 154, 155, 156, 157, 158, 159, 160, 161, 162, 163, 164, 165, 166, 167, 168, 169, 170]⟩), (19, ⟨[(9, kP)], [8, 23, 164, 165, 166, 167, 168, 169, 170]⟩)], [(41, ⟨[(216, kB)], [171, 172, 173, 174, 175, 176, 177, 178, 179, 180, 181, 182, 183, 184, 185, 186, 187, 188, 189, 190, 191, 192, 193, 194, 195, 196, 197, 198, 199, 200, 201, 202, 203, 204, 205, 206, 207, 208, 209, 210, 211, 212, 213, 214, 215]⟩)], [(41, .l [(0, []), (1, []), (2, []), (3, []), (4, []), (5, []), (6, []), (7, []), (8, []), (9, []), (10, []), (11, []), (12, []), (13, []), (14, []), (15, []), (16, []), (17, []), (18, []), (19, []), (20, []), (21, []), (22, []), (23, []), (24, []), (25, []), (26, [21, 25, 17, 20, 24, 16, 9, 19, 23, 15, 8, 18, 22, 13, 14, 3, 7, 12, 2, 6, 11, 1, 5, 10, 0, 4]), (27, []), (28, []), (29, []), (30, []), (31, []), (32, []), (33, []), (34, []), (35, []), (36, []), (37, []), (38, []), (39, []), (40, []), (41, []), (42, [41, 35, 40, 34, 29, 39, 33, 28, 26, 38, 32, 17, 27, 21, 25, 37, 31, 16, 9, 20, 24, 36, 30, 15, 8, 19, 23, 13, 14, 3, 7, 18, 22, 12, 2, 6, 11, 1, 5, 10, 0, 4]), (43, []), (44, []), (45, [])]), (30, .l [(0, []), (1, []), (2, []), (3, []), (4, []), (5, []), (6, []), (7, []), (9, []), (10, []), (11, []), (12, []), (13, []), (14, []), (8, [5, 7, 4, 6, 3, 2, 1, 0]), (15, [12, 14, 8, 11, 13, 5, 7, 10, 4, 6, 9, 3, 2, 1, 0]), (16, [])]), (33, .l [(0, []), (1, []), (2, []), (3, []), (4, []), (5, []), (6, []), (7, []), (9, []), (10, []), (11, []), (12, []), (13, []), (14, []), (15, []), (16, []), (8, [3, 5, 7, 2, 4, 6, 1, 0]), (17, [12, 14, 16, 8, 11, 13, 15, 3, 5, 7, 10, 2, 4, 6, 9, 1, 0]), (18, [])])], [(7, [(4, 6, ⟨[(52, kB)], [47, 48, 49, 50, 51]⟩)]), (19, [(4, 4, ⟨[(86, kB)], [83, 84, 85]⟩)]), (24, [(4, 4, ⟨[(114, kB)], [111, 112, 113]⟩)])]⟩ [.bool a0, .int .i64 a1, .int .i64 a2, vS a3] R w = sh6 a0 a1 a2 a3 R w := by kernel_rfl
theorem call6 {a0 : Bool} {a1 : Int} {a2 : Int} {a3 : Sl} {w : World} {K : TK [kB] → World → Prop} (h : sh6 a0 a1 a2 a3 (fun vs w' => ∃ t, encK [kB] t = vs ∧ K t w') w) : cl Pg 6 [.bool a0, .int .i64 a1, .int .i64 a2, vS a3] [kB] w K := cl_of Try.func6 (tie6 ..) h
end Go.Proofs.Ytigpfmgfgelgiaa.B
