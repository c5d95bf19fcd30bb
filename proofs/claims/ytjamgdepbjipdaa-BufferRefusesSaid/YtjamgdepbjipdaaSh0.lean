/- Printed by sh.py: each Go function as a typed shallow program, and its tie to the code. -/
import Derived.Test.YtjamgdepbjipdaaSound4
import Derived.Test.YtjamgdepbjipdaaProg
namespace Go.Proofs.Ytjamgdepbjipdaa.B
open Go Go.Proofs
set_option linter.unusedVariables false
set_option maxRecDepth 100000
noncomputable abbrev Pg : Program := Try.prog
/-- detent/arena.New -/
def sh61 (a0 : Int) (R : List Value → World → Prop) (w : World) : Prop :=
 jn [kB] w (fun (t2 : Bool × Unit) w3 =>
 cs t2.1 (
 R [.pointer none, .int .i64 (-17)] w3) (
 ef Pg (Instr.makeSlice 28 (.int .i64 a0) (.int .i64 a0)) [kS] w3 fun (r5 : Sl × Unit) w6 =>
 al w6 124 [vS r5.1, .int .i64 0] fun b7 w8 =>
 R [.pointer (some ⟨b7, 0, none⟩), .int .i64 0] w8)) fun J1 w4 =>
 cs (decide ((a0 : Int) < (0 : Int))) (
 J1 (true, ()) w4) (
 J1 (decide ((a0 : Int) > (65536 : Int)), ()) w4)
theorem tie61 (a0 : Int) (R : List Value → World → Prop) (w : World) : compF Pg Try.f61 ⟨[], [], [], [(1, [(3, 3, ⟨[(9, kB)], [7, 8]⟩)])]⟩ [.int .i64 a0] R w = sh61 a0 R w := by kernel_rfl
theorem call61 {a0 : Int} {w : World} {K : TK [kP, kI] → World → Prop} (h : sh61 a0 (fun vs w' => ∃ t, encK [kP, kI] t = vs ∧ K t w') w) : cl Pg 61 [.int .i64 a0] [kP, kI] w K := cl_of Try.func61 (tie61 ..) h
/-- detent/ring.New -/
def sh32 (a0 : Int) (R : List Value → World → Prop) (w : World) : Prop :=
 cl Pg 61 [.int .i64 a0] [kP, kI] w fun (r1 : Option Addr × Int × Unit) w2 =>
 jn [kB] w2 (fun (t4 : Bool × Unit) w5 =>
 cs t4.1 (
 R [.pointer none, .int .i64 (-17)] w5) (
 al w5 98 [.pointer r1.1, .int .i64 0, .int .i64 0, .int .i64 0] fun b7 w8 =>
 R [.pointer (some ⟨b7, 0, none⟩), .int .i64 0] w8)) fun J3 w6 =>
 cs ((r1.2.1 : Int) != (0 : Int)) (
 J3 (true, ()) w6) (
 J3 ((Int.tmod a0 4 : Int) != (0 : Int), ()) w6)
theorem tie32 (a0 : Int) (R : List Value → World → Prop) (w : World) : compF Pg Try.f32 ⟨[], [], [], [(2, [(3, 4, ⟨[(17, kB)], [14, 15, 16]⟩)])]⟩ [.int .i64 a0] R w = sh32 a0 R w := by kernel_rfl
theorem call32 {a0 : Int} {w : World} {K : TK [kP, kI] → World → Prop} (h : sh32 a0 (fun vs w' => ∃ t, encK [kP, kI] t = vs ∧ K t w') w) : cl Pg 32 [.int .i64 a0] [kP, kI] w K := cl_of Try.func32 (tie32 ..) h
/-- detent/order.New -/
def sh33 (a0 : Bool) (R : List Value → World → Prop) (w : World) : Prop :=
 al w 86 [.slice none 0 0, .bool a0] fun b1 w2 =>
 R [.pointer (some ⟨b1, 0, none⟩)] w2
theorem tie33 (a0 : Bool) (R : List Value → World → Prop) (w : World) : compF Pg Try.f33 ⟨[], [], [], []⟩ [.bool a0] R w = sh33 a0 R w := by kernel_rfl
theorem call33 {a0 : Bool} {w : World} {K : TK [kP] → World → Prop} (h : sh33 a0 (fun vs w' => ∃ t, encK [kP] t = vs ∧ K t w') w) : cl Pg 33 [.bool a0] [kP] w K := cl_of Try.func33 (tie33 ..) h
/-- detent/mbf.NewBuffer -/
def sh9 (a0 : Bool) (a1 : Int) (a2 : Int) (R : List Value → World → Prop) (w : World) : Prop :=
 cl Pg 32 [.int .i64 a2] [kP, kI] w fun (r1 : Option Addr × Int × Unit) w2 =>
 jn [kB] w2 (fun (t4 : Bool × Unit) w5 =>
 jn [kB] w5 (fun (t8 : Bool × Unit) w9 =>
 cs t8.1 (
 R [.pointer none, .int .i64 (-17)] w9) (
 cl Pg 33 [.bool a0] [kP] w9 fun (r11 : Option Addr × Unit) w12 =>
 cl Pg 33 [.bool false] [kP] w12 fun (r13 : Option Addr × Unit) w14 =>
 ef Pg (Instr.makeMap 39 none) [kM] w14 fun (r15 : Option Nat × Unit) w16 =>
 al w16 41 [.pointer r1.1, .int .i64 a1, .pointer r11.1, .pointer r13.1, .map r15.1] fun b17 w18 =>
 R [.pointer (some ⟨b17, 0, none⟩), .int .i64 0] w18)) fun J7 w10 =>
 cs t4.1 (
 J7 (true, ()) w10) (
 J7 ((r1.2.1 : Int) != (0 : Int), ()) w10)) fun J3 w6 =>
 cs (decide ((a1 : Int) < (1 : Int))) (
 J3 (true, ()) w6) (
 J3 (decide ((a1 : Int) > (1024 : Int)), ()) w6)
theorem tie9 (a0 : Bool) (a1 : Int) (a2 : Int) (R : List Value → World → Prop) (w : World) : compF Pg Try.f9 ⟨[], [], [], [(2, [(3, 3, ⟨[(20, kB)], [18, 19]⟩), (7, 3, ⟨[(24, kB)], [22, 23]⟩)])]⟩ [.bool a0, .int .i64 a1, .int .i64 a2] R w = sh9 a0 a1 a2 R w := by kernel_rfl
theorem call9 {a0 : Bool} {a1 : Int} {a2 : Int} {w : World} {K : TK [kP, kI] → World → Prop} (h : sh9 a0 a1 a2 (fun vs w' => ∃ t, encK [kP, kI] t = vs ∧ K t w') w) : cl Pg 9 [.bool a0, .int .i64 a1, .int .i64 a2] [kP, kI] w K := cl_of Try.func9 (tie9 ..) h
/-- slices.IndexFunc[[]detent/order.Item,detent/order.Item] -/
def sh81 (a0 : Sl) (a1 : Fv) (R : List Value → World → Prop) (w : World) : Prop :=
 lp [kI] w ((0 : Int), ()) fun (t1 : Int × Unit) J2 w3 =>
 cs (decide ((t1.1 : Int) < ((a0.len : Int) : Int))) (
 ix a0 t1.1 2 fun b4 o5 =>
 ldI w3 .i64 b4 o5 fun n6 =>
 ldI w3 .i64 b4 (o5 + 1) fun n7 =>
 ob (enterable Pg a1.fid = true) (
 cl Pg a1.fid (a1.pre ++ ([.agg #[.int .i64 n6, .int .i64 n7]] ++ a1.post)) [kB] w3 fun (r8 : Bool × Unit) w9 =>
 cs r8.1 (
 R [.int .i64 t1.1] w9) (
 J2 (w64 (t1.1 + 1), ()) w9))) (
 R [.int .i64 (-1)] w3)
theorem tie81 (a0 : Sl) (a1 : Fv) (R : List Value → World → Prop) (w : World) : compF Pg Try.f81 ⟨[(1, ⟨[(8, kI)], [4, 5, 9, 10, 11, 12, 13, 14, 15, 16, 17, 18]⟩)], [], [], []⟩ [vS a0, vF a1] R w = sh81 a0 a1 R w := by kernel_rfl
theorem call81 {a0 : Sl} {a1 : Fv} {w : World} {K : TK [kI] → World → Prop} (h : sh81 a0 a1 (fun vs w' => ∃ t, encK [kI] t = vs ∧ K t w') w) : cl Pg 81 [vS a0, vF a1] [kI] w K := cl_of Try.func81 (tie81 ..) h
/-- (*detent/order.Line).at$1 -/
def sh82 (a0 : (Int × Int × Unit)) (c0 : Nat) (R : List Value → World → Prop) (w : World) : Prop :=
 al w 92 [.int .i64 a0.1, .int .i64 a0.2.1] fun b1 w2 =>
 ldI w2 .i64 b1 0 fun n3 =>
 ldI w2 .i64 c0 0 fun n4 =>
 R [.bool ((n3 : Int) == (n4 : Int))] w2
theorem tie82 (a0 : (Int × Int × Unit)) (c0 : Nat) (R : List Value → World → Prop) (w : World) : compF Pg Try.f82 ⟨[], [], [], []⟩ [.agg #[.int .i64 a0.1, .int .i64 a0.2.1], .pointer (some ⟨c0, 0, none⟩)] R w = sh82 a0 c0 R w := by kernel_rfl
theorem call82 {a0 : (Int × Int × Unit)} {c0 : Nat} {w : World} {K : TK [kB] → World → Prop} (h : sh82 a0 c0 (fun vs w' => ∃ t, encK [kB] t = vs ∧ K t w') w) : cl Pg 82 [.agg #[.int .i64 a0.1, .int .i64 a0.2.1], .pointer (some ⟨c0, 0, none⟩)] [kB] w K := cl_of Try.func82 (tie82 ..) h
/-- (*detent/order.Line).at -/
def sh62 (a0 : Option Addr) (a1 : Int) (R : List Value → World → Prop) (w : World) : Prop :=
 al w 3 [.int .i64 a1] fun b1 w2 =>
 nn a0 fun b3 o4 =>
 ldS w2 b3 o4 fun s5 =>
 cl Pg 81 [vS s5, .func (.func 82) #[] #[.pointer (some ⟨b1, 0, none⟩)]] [kI] w2 fun (r6 : Int × Unit) w7 =>
 R [.int .i64 r6.1] w7
theorem tie62 (a0 : Option Addr) (a1 : Int) (R : List Value → World → Prop) (w : World) : compF Pg Try.f62 ⟨[], [], [], []⟩ [.pointer a0, .int .i64 a1] R w = sh62 a0 a1 R w := by kernel_rfl
theorem call62 {a0 : Option Addr} {a1 : Int} {w : World} {K : TK [kI] → World → Prop} (h : sh62 a0 a1 (fun vs w' => ∃ t, encK [kI] t = vs ∧ K t w') w) : cl Pg 62 [.pointer a0, .int .i64 a1] [kI] w K := cl_of Try.func62 (tie62 ..) h
/-- slices.Delete[[]detent/order.Item,detent/order.Item] -/
def sh76 (a0 : Sl) (a1 : Int) (a2 : Int) (R : List Value → World → Prop) (w : World) : Prop :=
 sb a0 a1 a2 (a0.len : Int) 2 fun s1 =>
 cs ((a1 : Int) == (a2 : Int)) (
 R [vS a0] w) (
 dr w fun w2 =>
 sb a0 0 a1 a0.cap 2 fun s3 =>
 sb a0 a2 a0.len a0.cap 2 fun s4 =>
 ef Pg (Builtin.append_ #[82, 82] 82 #[vS s3, vS s4]) [kS] w2 fun (r5 : Sl × Unit) w6 =>
 sb r5.1 (r5.1.len : Int) (a0.len : Int) r5.1.cap 2 fun s7 =>
 ef Pg (Builtin.clear_ #[82] 0 #[vS s7]) [] w6 fun (r8 : Unit) w9 =>
 R [vS r5.1] w9)
theorem tie76 (a0 : Sl) (a1 : Int) (a2 : Int) (R : List Value → World → Prop) (w : World) : compF Pg Try.f76 ⟨[], [], [(5, .l [(0, []), (1, []), (2, []), (3, []), (4, []), (5, []), (6, [2, 5, 0, 1, 3, 4]), (7, [])])], []⟩ [vS a0, .int .i64 a1, .int .i64 a2] R w = sh76 a0 a1 a2 R w := by kernel_rfl
theorem call76 {a0 : Sl} {a1 : Int} {a2 : Int} {w : World} {K : TK [kS] → World → Prop} (h : sh76 a0 a1 a2 (fun vs w' => ∃ t, encK [kS] t = vs ∧ K t w') w) : cl Pg 76 [vS a0, .int .i64 a1, .int .i64 a2] [kS] w K := cl_of Try.func76 (tie76 ..) h
/-- (*detent/order.Line).Remove -/
def sh53 (a0 : Option Addr) (a1 : Int) (R : List Value → World → Prop) (w : World) : Prop :=
 cl Pg 62 [.pointer a0, .int .i64 a1] [kI] w fun (r1 : Int × Unit) w2 =>
 cs (decide ((r1.1 : Int) < (0 : Int))) (
 R [.bool false] w2) (
 nn a0 fun b3 o4 =>
 ldS w2 b3 o4 fun s5 =>
 cl Pg 76 [vS s5, .int .i64 r1.1, .int .i64 (w64 (r1.1 + 1))] [kS] w2 fun (r6 : Sl × Unit) w7 =>
 nn a0 fun b8 o9 =>
 st1 w7 b8 o9 (vS r6.1) fun w10 =>
 R [.bool true] w10)
theorem tie53 (a0 : Option Addr) (a1 : Int) (R : List Value → World → Prop) (w : World) : compF Pg Try.f53 ⟨[], [], [], []⟩ [.pointer a0, .int .i64 a1] R w = sh53 a0 a1 R w := by kernel_rfl
theorem call53 {a0 : Option Addr} {a1 : Int} {w : World} {K : TK [kB] → World → Prop} (h : sh53 a0 a1 (fun vs w' => ∃ t, encK [kB] t = vs ∧ K t w') w) : cl Pg 53 [.pointer a0, .int .i64 a1] [kB] w K := cl_of Try.func53 (tie53 ..) h
/-- (*detent/order.Line).First -/
def sh68 (a0 : Option Addr) (R : List Value → World → Prop) (w : World) : Prop :=
 al w 92 [.int .i64 0, .int .i64 0] fun b1 w2 =>
 nn a0 fun b3 o4 =>
 ldS w2 b3 o4 fun s5 =>
 cs (((s5.len : Int) : Int) == (0 : Int)) (
 st1 w2 b1 0 (.int .i64 0) fun w6 =>
 st1 w6 b1 (0 + 1) (.int .i64 0) fun w7 =>
 ldI w7 .i64 b1 0 fun n8 =>
 ldI w7 .i64 b1 (0 + 1) fun n9 =>
 R [.agg #[.int .i64 n8, .int .i64 n9], .bool false] w7) (
 nn a0 fun b10 o11 =>
 ldS w2 b10 o11 fun s12 =>
 ix s12 0 2 fun b13 o14 =>
 ldI w2 .i64 b13 o14 fun n15 =>
 ldI w2 .i64 b13 (o14 + 1) fun n16 =>
 st1 w2 b1 0 (.int .i64 n15) fun w17 =>
 st1 w17 b1 (0 + 1) (.int .i64 n16) fun w18 =>
 ldI w18 .i64 b1 0 fun n19 =>
 ldI w18 .i64 b1 (0 + 1) fun n20 =>
 R [.agg #[.int .i64 n19, .int .i64 n20], .bool true] w18)
theorem tie68 (a0 : Option Addr) (R : List Value → World → Prop) (w : World) : compF Pg Try.f68 ⟨[], [], [], []⟩ [.pointer a0] R w = sh68 a0 R w := by kernel_rfl
theorem call68 {a0 : Option Addr} {w : World} {K : TK [.a [(.i .i64), (.i .i64)], kB] → World → Prop} (h : sh68 a0 (fun vs w' => ∃ t, encK [.a [(.i .i64), (.i .i64)], kB] t = vs ∧ K t w') w) : cl Pg 68 [.pointer a0] [.a [(.i .i64), (.i .i64)], kB] w K := cl_of Try.func68 (tie68 ..) h
/-- (*detent/order.Queue).Take -/
def sh39 (a0 : Option Addr) (R : List Value → World → Prop) (w : World) : Prop :=
 al w 92 [.int .i64 0, .int .i64 0] fun b1 w2 =>
 nn a0 fun b3 o4 =>
 cl Pg 68 [.pointer (some ⟨b3, o4, none⟩)] [.a [(.i .i64), (.i .i64)], kB] w2 fun (r5 : (Int × Int × Unit) × Bool × Unit) w6 =>
 al w6 92 [.int .i64 0, .int .i64 0] fun b7 w8 =>
 st1 w8 b7 0 (.int .i64 r5.1.1) fun w9 =>
 st1 w9 b7 (0 + 1) (.int .i64 r5.1.2.1) fun w10 =>
 jn [] w10 (fun (t12 : Unit) w13 =>
 ldI w13 .i64 b7 0 fun n15 =>
 ldI w13 .i64 b7 (0 + 1) fun n16 =>
 st1 w13 b1 0 (.int .i64 n15) fun w17 =>
 st1 w17 b1 (0 + 1) (.int .i64 n16) fun w18 =>
 ldI w18 .i64 b1 0 fun n19 =>
 ldI w18 .i64 b1 (0 + 1) fun n20 =>
 R [.agg #[.int .i64 n19, .int .i64 n20], .bool r5.2.1] w18) fun J11 w14 =>
 cs r5.2.1 (
 dr w14 fun w21 =>
 nn a0 fun b22 o23 =>
 ldI w21 .i64 b7 0 fun n24 =>
 cl Pg 53 [.pointer (some ⟨b22, o23, none⟩), .int .i64 n24] [kB] w21 fun (r25 : Bool × Unit) w26 =>
 J11 () w26) (
 J11 () w14)
theorem tie39 (a0 : Option Addr) (R : List Value → World → Prop) (w : World) : compF Pg Try.f39 ⟨[(0, ⟨[], [14, 15, 16, 17, 18, 19]⟩)], [], [(3, .l [(0, []), (1, []), (2, []), (3, []), (4, []), (5, [2, 4, 1, 3, 0])])], []⟩ [.pointer a0] R w = sh39 a0 R w := by kernel_rfl
theorem call39 {a0 : Option Addr} {w : World} {K : TK [.a [(.i .i64), (.i .i64)], kB] → World → Prop} (h : sh39 a0 (fun vs w' => ∃ t, encK [.a [(.i .i64), (.i .i64)], kB] t = vs ∧ K t w') w) : cl Pg 39 [.pointer a0] [.a [(.i .i64), (.i .i64)], kB] w K := cl_of Try.func39 (tie39 ..) h
/-- (*detent/order.Line).Len -/
def sh43 (a0 : Option Addr) (R : List Value → World → Prop) (w : World) : Prop :=
 nn a0 fun b1 o2 =>
 ldS w b1 o2 fun s3 =>
 R [.int .i64 (s3.len : Int)] w
theorem tie43 (a0 : Option Addr) (R : List Value → World → Prop) (w : World) : compF Pg Try.f43 ⟨[], [], [], []⟩ [.pointer a0] R w = sh43 a0 R w := by kernel_rfl
theorem call43 {a0 : Option Addr} {w : World} {K : TK [kI] → World → Prop} (h : sh43 a0 (fun vs w' => ∃ t, encK [kI] t = vs ∧ K t w') w) : cl Pg 43 [.pointer a0] [kI] w K := cl_of Try.func43 (tie43 ..) h
/-- (*detent/arena.Arena).Size -/
def sh42 (a0 : Option Addr) (R : List Value → World → Prop) (w : World) : Prop :=
 nn a0 fun b1 o2 =>
 ldS w b1 o2 fun s3 =>
 R [.int .i64 (s3.len : Int)] w
theorem tie42 (a0 : Option Addr) (R : List Value → World → Prop) (w : World) : compF Pg Try.f42 ⟨[], [], [], []⟩ [.pointer a0] R w = sh42 a0 R w := by kernel_rfl
theorem call42 {a0 : Option Addr} {w : World} {K : TK [kI] → World → Prop} (h : sh42 a0 (fun vs w' => ∃ t, encK [kI] t = vs ∧ K t w') w) : cl Pg 42 [.pointer a0] [kI] w K := cl_of Try.func42 (tie42 ..) h
/-- detent/nums.Align -/
def sh67 (a0 : Int) (a1 : Int) (R : List Value → World → Prop) (w : World) : Prop :=
 jn [kB] w (fun (t2 : Bool × Unit) w3 =>
 jn [kB] w3 (fun (t6 : Bool × Unit) w7 =>
 jn [kB] w7 (fun (t10 : Bool × Unit) w11 =>
 cs t10.1 (
 R [.int .i64 a0] w11) (
 ob (a1 ≠ 0) (
 R [.int .i64 (w64 ((w64 (Int.tdiv (w64 ((w64 (a0 + a1)) - 1)) a1)) * a1))] w11))) fun J9 w12 =>
 cs t6.1 (
 J9 (true, ()) w12) (
 J9 (decide ((a1 : Int) > (4096 : Int)), ()) w12)) fun J5 w8 =>
 cs t2.1 (
 J5 (true, ()) w8) (
 J5 (decide ((a1 : Int) < (1 : Int)), ()) w8)) fun J1 w4 =>
 cs (decide ((a0 : Int) < (0 : Int))) (
 J1 (true, ()) w4) (
 J1 (decide ((a0 : Int) > (1073741824 : Int)), ()) w4)
theorem tie67 (a0 : Int) (a1 : Int) (R : List Value → World → Prop) (w : World) : compF Pg Try.f67 ⟨[], [], [], [(1, [(3, 3, ⟨[(10, kB)], [8, 9]⟩), (7, 3, ⟨[(14, kB)], [12, 13]⟩), (11, 3, ⟨[(18, kB)], [16, 17]⟩)])]⟩ [.int .i64 a0, .int .i64 a1] R w = sh67 a0 a1 R w := by kernel_rfl
theorem call67 {a0 : Int} {a1 : Int} {w : World} {K : TK [kI] → World → Prop} (h : sh67 a0 a1 (fun vs w' => ∃ t, encK [kI] t = vs ∧ K t w') w) : cl Pg 67 [.int .i64 a0, .int .i64 a1] [kI] w K := cl_of Try.func67 (tie67 ..) h
/-- (*detent/ring.Ring).Free -/
def sh13 (a0 : Option Addr) (R : List Value → World → Prop) (w : World) : Prop :=
 dr w fun w1 =>
 nn a0 fun b2 o3 =>
 ldP w1 b2 o3 fun p4 =>
 nn a0 fun b5 o6 =>
 ldI w1 .i64 b5 (o6 + 2) fun n7 =>
 cl Pg 42 [.pointer p4] [kI] w1 fun (r8 : Int × Unit) w9 =>
(w9.cell? ⟨b5, o6 + 2, none⟩ = some (.int .i64 n7)) ∧ (
 R [.int .i64 (w64 (r8.1 - n7))] w9)
theorem tie13 (a0 : Option Addr) (R : List Value → World → Prop) (w : World) : compF Pg Try.f13 ⟨[], [], [(1, .l [(0, []), (1, []), (2, []), (3, []), (5, []), (6, []), (7, []), (8, []), (4, [3, 2, 1, 0]), (9, []), (10, [])])], []⟩ [.pointer a0] R w = sh13 a0 R w := by kernel_rfl
theorem call13 {a0 : Option Addr} {w : World} {K : TK [kI] → World → Prop} (h : sh13 a0 (fun vs w' => ∃ t, encK [kI] t = vs ∧ K t w') w) : cl Pg 13 [.pointer a0] [kI] w K := cl_of Try.func13 (tie13 ..) h
/-- (*detent/ring.Ring).Fits -/
def sh71 (a0 : Option Addr) (a1 : Int) (R : List Value → World → Prop) (w : World) : Prop :=
 jn [kB] w (fun (t2 : Bool × Unit) w3 =>
 jn [kB] w3 (fun (t6 : Bool × Unit) w7 =>
 R [.bool t6.1] w7) fun J5 w8 =>
 cs t2.1 (
 cl Pg 13 [.pointer a0] [kI] w8 fun (r9 : Int × Unit) w10 =>
 cl Pg 67 [.int .i64 a1, .int .i64 4] [kI] w10 fun (r11 : Int × Unit) w12 =>
 J5 (decide ((r9.1 : Int) ≥ (w64 (4 + r11.1) : Int)), ()) w12) (
 J5 (false, ()) w8)) fun J1 w4 =>
 cs (decide ((a1 : Int) ≥ (0 : Int))) (
 J1 (decide ((a1 : Int) ≤ (1024 : Int)), ()) w4) (
 J1 (false, ()) w4)
theorem tie71 (a0 : Option Addr) (a1 : Int) (R : List Value → World → Prop) (w : World) : compF Pg Try.f71 ⟨[], [], [], [(1, [(3, 3, ⟨[(10, kB)], [8, 9]⟩), (7, 7, ⟨[(18, kB)], [12, 13, 14, 15, 16, 17]⟩)])]⟩ [.pointer a0, .int .i64 a1] R w = sh71 a0 a1 R w := by kernel_rfl
theorem call71 {a0 : Option Addr} {a1 : Int} {w : World} {K : TK [kB] → World → Prop} (h : sh71 a0 a1 (fun vs w' => ∃ t, encK [kB] t = vs ∧ K t w') w) : cl Pg 71 [.pointer a0, .int .i64 a1] [kB] w K := cl_of Try.func71 (tie71 ..) h
/-- (*detent/arena.Arena).part -/
def sh90 (a0 : Option Addr) (a1 : Int) (a2 : Int) (R : List Value → World → Prop) (w : World) : Prop :=
 jn [kB] w (fun (t2 : Bool × Unit) w3 =>
 jn [kB] w3 (fun (t6 : Bool × Unit) w7 =>
 jn [kB] w7 (fun (t10 : Bool × Unit) w11 =>
 cs t10.1 (
 R [.slice none 0 0, .bool false] w11) (
 nn a0 fun b13 o14 =>
 ldI w11 .i64 b13 (o14 + 1) fun n15 =>
 nn a0 fun b16 o17 =>
 st1 w11 b16 (o17 + 1) (.int .i64 (w64 (n15 + a2))) fun w18 =>
 nn a0 fun b19 o20 =>
 ldS w18 b19 o20 fun s21 =>
 sb s21 a1 (w64 (a1 + a2)) s21.cap 1 fun s22 =>
 R [vS s22, .bool true] w18)) fun J9 w12 =>
 cs t6.1 (
 J9 (true, ()) w12) (
 nn a0 fun b23 o24 =>
 ldS w12 b23 o24 fun s25 =>
 J9 (decide ((a2 : Int) > (w64 ((s25.len : Int) - a1) : Int)), ()) w12)) fun J5 w8 =>
 cs t2.1 (
 J5 (true, ()) w8) (
 nn a0 fun b26 o27 =>
 ldS w8 b26 o27 fun s28 =>
 J5 (decide ((a1 : Int) > ((s28.len : Int) : Int)), ()) w8)) fun J1 w4 =>
 cs (decide ((a1 : Int) < (0 : Int))) (
 J1 (true, ()) w4) (
 J1 (decide ((a2 : Int) < (0 : Int)), ()) w4)
theorem tie90 (a0 : Option Addr) (a1 : Int) (a2 : Int) (R : List Value → World → Prop) (w : World) : compF Pg Try.f90 ⟨[], [], [], [(1, [(3, 3, ⟨[(13, kB)], [11, 12]⟩), (7, 8, ⟨[(22, kB)], [15, 16, 17, 18, 19, 20, 21]⟩), (16, 10, ⟨[(33, kB)], [24, 25, 26, 27, 28, 29, 30, 31, 32]⟩)])]⟩ [.pointer a0, .int .i64 a1, .int .i64 a2] R w = sh90 a0 a1 a2 R w := by kernel_rfl
theorem call90 {a0 : Option Addr} {a1 : Int} {a2 : Int} {w : World} {K : TK [kS, kB] → World → Prop} (h : sh90 a0 a1 a2 (fun vs w' => ∃ t, encK [kS, kB] t = vs ∧ K t w') w) : cl Pg 90 [.pointer a0, .int .i64 a1, .int .i64 a2] [kS, kB] w K := cl_of Try.func90 (tie90 ..) h
/-- (*detent/arena.Arena).word -/
def sh84 (a0 : Option Addr) (a1 : Int) (R : List Value → World → Prop) (w : World) : Prop :=
 jn [kB] w (fun (t2 : Bool × Unit) w3 =>
 cs t2.1 (
 R [.slice none 0 0, .bool false] w3) (
 cl Pg 90 [.pointer a0, .int .i64 a1, .int .i64 4] [kS, kB] w3 fun (r5 : Sl × Bool × Unit) w6 =>
 R [vS r5.1, .bool r5.2.1] w6)) fun J1 w4 =>
 cs (decide ((a1 : Int) < (0 : Int))) (
 J1 (true, ()) w4) (
 J1 ((Int.tmod a1 4 : Int) != (0 : Int), ()) w4)
theorem tie84 (a0 : Option Addr) (a1 : Int) (R : List Value → World → Prop) (w : World) : compF Pg Try.f84 ⟨[], [], [], [(1, [(3, 4, ⟨[(12, kB)], [9, 10, 11]⟩)])]⟩ [.pointer a0, .int .i64 a1] R w = sh84 a0 a1 R w := by kernel_rfl
theorem call84 {a0 : Option Addr} {a1 : Int} {w : World} {K : TK [kS, kB] → World → Prop} (h : sh84 a0 a1 (fun vs w' => ∃ t, encK [kS, kB] t = vs ∧ K t w') w) : cl Pg 84 [.pointer a0, .int .i64 a1] [kS, kB] w K := cl_of Try.func84 (tie84 ..) h
/-- (*detent/arena.Arena).PutWord -/
def sh72 (a0 : Option Addr) (a1 : Int) (a2 : Int) (R : List Value → World → Prop) (w : World) : Prop :=
 cl Pg 84 [.pointer a0, .int .i64 a1] [kS, kB] w fun (r1 : Sl × Bool × Unit) w2 =>
 cs (!r1.2.1) (
 R [.int .i64 (-17)] w2) (
 lp [kI] w2 ((0 : Int), ()) fun (t3 : Int × Unit) J4 w5 =>
 cs (decide ((t3.1 : Int) < ((r1.1.len : Int) : Int))) (
 ob (0 ≤ (w64 (8 * t3.1))) (
 ix r1.1 t3.1 1 fun b6 o7 =>
 st1 w5 b6 o7 (.int .u8 (IntKind.u8.wrap (Int.fdiv a2 (2 ^ (min (w64 (8 * t3.1)).toNat 32))))) fun w8 =>
 J4 (w64 (t3.1 + 1), ()) w8)) (
 R [.int .i64 0] w5))
theorem tie72 (a0 : Option Addr) (a1 : Int) (a2 : Int) (R : List Value → World → Prop) (w : World) : compF Pg Try.f72 ⟨[(2, ⟨[(20, kI)], [9, 21, 22, 23, 24, 25, 26, 27, 28, 29, 30, 31]⟩)], [], [], []⟩ [.pointer a0, .int .i64 a1, .int .u32 a2] R w = sh72 a0 a1 a2 R w := by kernel_rfl
theorem call72 {a0 : Option Addr} {a1 : Int} {a2 : Int} {w : World} {K : TK [kI] → World → Prop} (h : sh72 a0 a1 a2 (fun vs w' => ∃ t, encK [kI] t = vs ∧ K t w') w) : cl Pg 72 [.pointer a0, .int .i64 a1, .int .u32 a2] [kI] w K := cl_of Try.func72 (tie72 ..) h
/-- slices.Grow[[]byte,byte] -/
def sh93 (a0 : Sl) (a1 : Int) (R : List Value → World → Prop) (w : World) : Prop :=
 jn [] w (fun (t2 : Unit) w3 =>
 cs (decide ((w64 (a1 - (w64 ((a0.cap : Int) - (a0.len : Int)))) : Int) > (0 : Int))) (
 sb a0 0 (a0.cap : Int) a0.cap 1 fun s5 =>
 ef Pg (Builtin.append_ #[28, 3] 28 #[vS s5, .int .i64 (w64 (a1 - (w64 ((a0.cap : Int) - (a0.len : Int)))))]) [kS] w3 fun (r6 : Sl × Unit) w7 =>
 sb r6.1 0 (a0.len : Int) r6.1.cap 1 fun s8 =>
 R [vS s8] w7) (
 R [vS a0] w3)) fun J1 w4 =>
 cs (decide ((a1 : Int) < (0 : Int))) (
 False) (
 J1 () w4)
theorem tie93 (a0 : Sl) (a1 : Int) (R : List Value → World → Prop) (w : World) : compF Pg Try.f93 ⟨[(0, ⟨[], [7]⟩)], [], [], []⟩ [vS a0, .int .i64 a1] R w = sh93 a0 a1 R w := by kernel_rfl
theorem call93 {a0 : Sl} {a1 : Int} {w : World} {K : TK [kS] → World → Prop} (h : sh93 a0 a1 (fun vs w' => ∃ t, encK [kS] t = vs ∧ K t w') w) : cl Pg 93 [vS a0, .int .i64 a1] [kS] w K := cl_of Try.func93 (tie93 ..) h
/-- slices.Concat[[]byte,byte] -/
def sh91 (a0 : Sl) (R : List Value → World → Prop) (w : World) : Prop :=
 lp [kI, kI] w ((0 : Int), (0 : Int), ()) fun (t1 : Int × Int × Unit) J2 w3 =>
 cs (decide ((t1.2.1 : Int) < ((a0.len : Int) : Int))) (
 ix a0 t1.2.1 1 fun b4 o5 =>
 ldS w3 b4 o5 fun s6 =>
 cs (decide ((w64 (t1.1 + (s6.len : Int)) : Int) < (0 : Int))) (
 False) (
 J2 (w64 (t1.1 + (s6.len : Int)), w64 (t1.2.1 + 1), ()) w3)) (
 cl Pg 93 [.slice none 0 0, .int .i64 t1.1] [kS] w3 fun (r7 : Sl × Unit) w8 =>
 lp [kS, kI] w8 (r7.1, (0 : Int), ()) fun (t9 : Sl × Int × Unit) J10 w11 =>
 cs (decide ((t9.2.1 : Int) < ((a0.len : Int) : Int))) (
 ix a0 t9.2.1 1 fun b12 o13 =>
 ldS w11 b12 o13 fun s14 =>
 ef Pg (Builtin.append_ #[28, 28] 28 #[vS t9.1, vS s14]) [kS] w11 fun (r15 : Sl × Unit) w16 =>
 J10 (r15.1, w64 (t9.2.1 + 1), ()) w16) (
 R [vS t9.1] w11))
theorem tie91 (a0 : Sl) (R : List Value → World → Prop) (w : World) : compF Pg Try.f91 ⟨[(1, ⟨[(3, kI), (11, kI)], [5, 12, 13, 14, 15, 16, 17, 18, 19, 20, 21, 22]⟩), (6, ⟨[(6, kS), (27, kI)], [8, 28, 29, 30, 31, 32, 33, 34]⟩)], [], [], []⟩ [vS a0] R w = sh91 a0 R w := by kernel_rfl
theorem call91 {a0 : Sl} {w : World} {K : TK [kS] → World → Prop} (h : sh91 a0 (fun vs w' => ∃ t, encK [kS] t = vs ∧ K t w') w) : cl Pg 91 [vS a0] [kS] w K := cl_of Try.func91 (tie91 ..) h
/-- (*detent/arena.Arena).Write -/
def sh87 (a0 : Option Addr) (a1 : Int) (a2 : Sl) (R : List Value → World → Prop) (w : World) : Prop :=
 cl Pg 91 [vS a2] [kS] w fun (r1 : Sl × Unit) w2 =>
 cl Pg 90 [.pointer a0, .int .i64 a1, .int .i64 (r1.1.len : Int)] [kS, kB] w2 fun (r3 : Sl × Bool × Unit) w4 =>
 cs (!r3.2.1) (
 R [.int .i64 (-17)] w4) (
 ef Pg (Builtin.copy_ #[28, 28] 3 #[vS r3.1, vS r1.1]) [kI] w4 fun (r5 : Int × Unit) w6 =>
 R [.int .i64 0] w6)
theorem tie87 (a0 : Option Addr) (a1 : Int) (a2 : Sl) (R : List Value → World → Prop) (w : World) : compF Pg Try.f87 ⟨[], [], [], []⟩ [.pointer a0, .int .i64 a1, vS a2] R w = sh87 a0 a1 a2 R w := by kernel_rfl
theorem call87 {a0 : Option Addr} {a1 : Int} {a2 : Sl} {w : World} {K : TK [kI] → World → Prop} (h : sh87 a0 a1 a2 (fun vs w' => ∃ t, encK [kI] t = vs ∧ K t w') w) : cl Pg 87 [.pointer a0, .int .i64 a1, vS a2] [kI] w K := cl_of Try.func87 (tie87 ..) h
/-- (*detent/ring.Ring).put -/
def sh73 (a0 : Option Addr) (a1 : Int) (a2 : Sl) (R : List Value → World → Prop) (w : World) : Prop :=
 nn a0 fun b1 o2 =>
 ldP w b1 o2 fun p3 =>
 cl Pg 42 [.pointer p3] [kI] w fun (r4 : Int × Unit) w5 =>
 ob (r4.1 ≠ 0) (
 nn a0 fun b6 o7 =>
 ldP w5 b6 o7 fun p8 =>
 cl Pg 42 [.pointer p8] [kI] w5 fun (r9 : Int × Unit) w10 =>
 dr w10 fun w11 =>
 nn a0 fun b12 o13 =>
 ldP w11 b12 o13 fun p14 =>
 sb a2 0 (if (w64 (r9.1 - (Int.tmod a1 r4.1))) < (a2.len : Int) then w64 (r9.1 - (Int.tmod a1 r4.1)) else (a2.len : Int)) a2.cap 1 fun s15 =>
 al w11 28 [vS s15] fun b16 w17 =>
(w17.cell? ⟨b12, o13, none⟩ = some (.pointer p14)) ∧ (
 cl Pg 87 [.pointer p14, .int .i64 (Int.tmod a1 r4.1), vS ⟨some ⟨b16, 0, none⟩, 1, 1⟩] [kI] w17 fun (r18 : Int × Unit) w19 =>
 dr w19 fun w20 =>
 nn a0 fun b21 o22 =>
 ldP w20 b21 o22 fun p23 =>
 sb a2 (if (w64 (r9.1 - (Int.tmod a1 r4.1))) < (a2.len : Int) then w64 (r9.1 - (Int.tmod a1 r4.1)) else (a2.len : Int)) a2.len a2.cap 1 fun s24 =>
 al w20 28 [vS s24] fun b25 w26 =>
(w26.cell? ⟨b21, o22, none⟩ = some (.pointer p23)) ∧ (
 cl Pg 87 [.pointer p23, .int .i64 0, vS ⟨some ⟨b25, 0, none⟩, 1, 1⟩] [kI] w26 fun (r27 : Int × Unit) w28 =>
 R [] w28)))
theorem tie73 (a0 : Option Addr) (a1 : Int) (a2 : Sl) (R : List Value → World → Prop) (w : World) : compF Pg Try.f73 ⟨[], [], [(2, .l [(0, []), (1, []), (2, []), (3, []), (4, []), (5, []), (6, []), (7, []), (8, [7, 5, 6]), (9, [3, 4, 8, 2, 7, 1, 5, 6, 0])]), (3, .l [(0, []), (1, []), (2, []), (3, []), (4, []), (5, []), (6, []), (7, [6, 4, 5]), (8, [3, 7, 2, 6, 1, 4, 5, 0])])], []⟩ [.pointer a0, .int .i64 a1, vS a2] R w = sh73 a0 a1 a2 R w := by kernel_rfl
theorem call73 {a0 : Option Addr} {a1 : Int} {a2 : Sl} {w : World} {K : TK [] → World → Prop} (h : sh73 a0 a1 a2 (fun vs w' => ∃ t, encK [] t = vs ∧ K t w') w) : cl Pg 73 [.pointer a0, .int .i64 a1, vS a2] [] w K := cl_of Try.func73 (tie73 ..) h
/-- (*detent/ring.Ring).Put -/
def sh44 (a0 : Option Addr) (a1 : Sl) (R : List Value → World → Prop) (w : World) : Prop :=
 cl Pg 71 [.pointer a0, .int .i64 (a1.len : Int)] [kB] w fun (r1 : Bool × Unit) w2 =>
 cs (!r1.1) (
 R [.bool false] w2) (
 dr w2 fun w3 =>
 nn a0 fun b4 o5 =>
 ldI w3 .i64 b4 (o5 + 1) fun n6 =>
 nn a0 fun b7 o8 =>
 ldI w3 .i64 b7 (o8 + 2) fun n9 =>
 nn a0 fun b10 o11 =>
 ldP w3 b10 o11 fun p12 =>
 cl Pg 42 [.pointer p12] [kI] w3 fun (r13 : Int × Unit) w14 =>
(w14.cell? ⟨b7, o8 + 2, none⟩ = some (.int .i64 n9)) ∧ (
(w14.cell? ⟨b4, o5 + 1, none⟩ = some (.int .i64 n6)) ∧ (
 ob (r13.1 ≠ 0) (
 nn a0 fun b15 o16 =>
 ldP w14 b15 o16 fun p17 =>
 cl Pg 72 [.pointer p17, .int .i64 (Int.tmod (w64 (n6 + n9)) r13.1), .int .u32 (IntKind.u32.wrap ((a1.len : Int)))] [kI] w14 fun (r18 : Int × Unit) w19 =>
 cl Pg 73 [.pointer a0, .int .i64 (w64 ((Int.tmod (w64 (n6 + n9)) r13.1) + 4)), vS a1] [] w19 fun (r20 : Unit) w21 =>
 dr w21 fun w22 =>
 nn a0 fun b23 o24 =>
 ldI w22 .i64 b23 (o24 + 2) fun n25 =>
 cl Pg 67 [.int .i64 (a1.len : Int), .int .i64 4] [kI] w22 fun (r26 : Int × Unit) w27 =>
(w27.cell? ⟨b23, o24 + 2, none⟩ = some (.int .i64 n25)) ∧ (
 nn a0 fun b28 o29 =>
 st1 w27 b28 (o29 + 2) (.int .i64 (w64 (n25 + (w64 (4 + r26.1))))) fun w30 =>
 nn a0 fun b31 o32 =>
 ldI w30 .i64 b31 (o32 + 3) fun n33 =>
 nn a0 fun b34 o35 =>
 st1 w30 b34 (o35 + 3) (.int .i64 (w64 (n33 + 1))) fun w36 =>
 R [.bool true] w36)))))
theorem tie44 (a0 : Option Addr) (a1 : Sl) (R : List Value → World → Prop) (w : World) : compF Pg Try.f44 ⟨[], [], [(3, .l [(0, []), (1, []), (2, []), (3, []), (4, []), (5, []), (6, []), (7, []), (8, []), (9, []), (10, []), (11, []), (12, []), (13, [12, 11, 10, 9]), (14, []), (15, [])]), (6, .l [(0, []), (1, []), (2, []), (3, []), (4, []), (5, []), (6, [5, 4]), (7, []), (8, []), (9, []), (10, []), (11, [10, 8, 6, 0, 1, 2, 3, 4, 5, 7, 9])])], []⟩ [.pointer a0, vS a1] R w = sh44 a0 a1 R w := by kernel_rfl
theorem call44 {a0 : Option Addr} {a1 : Sl} {w : World} {K : TK [kB] → World → Prop} (h : sh44 a0 a1 (fun vs w' => ∃ t, encK [kB] t = vs ∧ K t w') w) : cl Pg 44 [.pointer a0, vS a1] [kB] w K := cl_of Try.func44 (tie44 ..) h
/-- (*detent/mbf.Buffer).TrySend -/
def sh14 (a0 : Option Addr) (a1 : Sl) (R : List Value → World → Prop) (w : World) : Prop :=
 jn [kB] w (fun (t2 : Bool × Unit) w3 =>
 cs t2.1 (
 R [.bool false, .int .i64 0, .int .i64 (-17)] w3) (
 nn a0 fun b5 o6 =>
 ldP w3 b5 (o6 + 3) fun p7 =>
 cl Pg 39 [.pointer p7] [.a [(.i .i64), (.i .i64)], kB] w3 fun (r8 : (Int × Int × Unit) × Bool × Unit) w9 =>
 al w9 92 [.int .i64 0, .int .i64 0] fun b10 w11 =>
 st1 w11 b10 0 (.int .i64 r8.1.1) fun w12 =>
 st1 w12 b10 (0 + 1) (.int .i64 r8.1.2.1) fun w13 =>
 cs r8.2.1 (
 dr w13 fun w14 =>
 ldI w14 .i64 b10 0 fun n15 =>
 R [.bool true, .int .i64 n15, .int .i64 0] w14) (
 nn a0 fun b16 o17 =>
 ldP w13 b16 (o17 + 2) fun p18 =>
 nn p18 fun b19 o20 =>
 cl Pg 43 [.pointer (some ⟨b19, o20, none⟩)] [kI] w13 fun (r21 : Int × Unit) w22 =>
 jn [kB] w22 (fun (t24 : Bool × Unit) w25 =>
 R [.bool t24.1, .int .i64 0, .int .i64 0] w25) fun J23 w26 =>
 cs ((r21.1 : Int) == (0 : Int)) (
 nn a0 fun b27 o28 =>
 ldP w26 b27 o28 fun p29 =>
 cl Pg 44 [.pointer p29, vS a1] [kB] w26 fun (r30 : Bool × Unit) w31 =>
 J23 (r30.1, ()) w31) (
 J23 (false, ()) w26)))) fun J1 w4 =>
 cs (decide (((a1.len : Int) : Int) < (1 : Int))) (
 J1 (true, ()) w4) (
 nn a0 fun b32 o33 =>
 ldI w4 .i64 b32 (o33 + 1) fun n34 =>
 J1 (decide (((a1.len : Int) : Int) > (n34 : Int)), ()) w4)
theorem tie14 (a0 : Option Addr) (a1 : Sl) (R : List Value → World → Prop) (w : World) : compF Pg Try.f14 ⟨[], [], [(5, .l [(0, []), (1, []), (2, []), (3, []), (4, [])])], [(1, [(4, 8, ⟨[(20, kB)], [13, 14, 15, 16, 17, 18, 19]⟩)]), (6, [(9, 7, ⟨[(47, kB)], [41, 42, 43, 44, 45, 46]⟩)])]⟩ [.pointer a0, vS a1] R w = sh14 a0 a1 R w := by kernel_rfl
theorem call14 {a0 : Option Addr} {a1 : Sl} {w : World} {K : TK [kB, kI, kI] → World → Prop} (h : sh14 a0 a1 (fun vs w' => ∃ t, encK [kB, kI, kI] t = vs ∧ K t w') w) : cl Pg 14 [.pointer a0, vS a1] [kB, kI, kI] w K := cl_of Try.func14 (tie14 ..) h
/-- (*detent/order.Line).Has -/
def sh34 (a0 : Option Addr) (a1 : Int) (R : List Value → World → Prop) (w : World) : Prop :=
 cl Pg 62 [.pointer a0, .int .i64 a1] [kI] w fun (r1 : Int × Unit) w2 =>
 R [.bool (decide ((r1.1 : Int) ≥ (0 : Int)))] w2
theorem tie34 (a0 : Option Addr) (a1 : Int) (R : List Value → World → Prop) (w : World) : compF Pg Try.f34 ⟨[], [], [], []⟩ [.pointer a0, .int .i64 a1] R w = sh34 a0 a1 R w := by kernel_rfl
theorem call34 {a0 : Option Addr} {a1 : Int} {w : World} {K : TK [kB] → World → Prop} (h : sh34 a0 a1 (fun vs w' => ∃ t, encK [kB] t = vs ∧ K t w') w) : cl Pg 34 [.pointer a0, .int .i64 a1] [kB] w K := cl_of Try.func34 (tie34 ..) h
/-- detent/order.may -/
def sh63 (a0 : Int) (R : List Value → World → Prop) (w : World) : Prop :=
 jn [kB] w (fun (t2 : Bool × Unit) w3 =>
 R [.bool t2.1] w3) fun J1 w4 =>
 cs (decide ((a0 : Int) ≥ (1 : Int))) (
 J1 (decide ((a0 : Int) ≤ (16 : Int)), ()) w4) (
 J1 (false, ()) w4)
theorem tie63 (a0 : Int) (R : List Value → World → Prop) (w : World) : compF Pg Try.f63 ⟨[], [], [], [(1, [(3, 3, ⟨[(8, kB)], [6, 7]⟩)])]⟩ [.int .i64 a0] R w = sh63 a0 R w := by kernel_rfl
theorem call63 {a0 : Int} {w : World} {K : TK [kB] → World → Prop} (h : sh63 a0 (fun vs w' => ∃ t, encK [kB] t = vs ∧ K t w') w) : cl Pg 63 [.int .i64 a0] [kB] w K := cl_of Try.func63 (tie63 ..) h
/-- slices.Reverse[[]detent/order.Item,detent/order.Item] -/
def sh94 (a0 : Sl) (R : List Value → World → Prop) (w : World) : Prop :=
 lp [kI, kI] w ((0 : Int), w64 ((a0.len : Int) - 1), ()) fun (t1 : Int × Int × Unit) J2 w3 =>
 cs (decide ((t1.1 : Int) < (t1.2.1 : Int))) (
 dr w3 fun w4 =>
 ix a0 t1.2.1 2 fun b5 o6 =>
 ldI w4 .i64 b5 o6 fun n7 =>
 ldI w4 .i64 b5 (o6 + 1) fun n8 =>
 ix a0 t1.1 2 fun b9 o10 =>
 ldI w4 .i64 b9 o10 fun n11 =>
 ldI w4 .i64 b9 (o10 + 1) fun n12 =>
 ix a0 t1.1 2 fun b13 o14 =>
 st1 w4 b13 o14 (.int .i64 n7) fun w15 =>
 st1 w15 b13 (o14 + 1) (.int .i64 n8) fun w16 =>
 ix a0 t1.2.1 2 fun b17 o18 =>
 st1 w16 b17 o18 (.int .i64 n11) fun w19 =>
 st1 w19 b17 (o18 + 1) (.int .i64 n12) fun w20 =>
 J2 (w64 (t1.1 + 1), w64 (t1.2.1 - 1), ()) w20) (
 R [] w3)
theorem tie94 (a0 : Sl) (R : List Value → World → Prop) (w : World) : compF Pg Try.f94 ⟨[(1, ⟨[(2, kI), (3, kI)], [7, 8, 9, 10, 11, 12, 13, 14, 15, 16, 17, 18, 19, 20, 21, 22, 23, 24, 25, 26, 27]⟩)], [], [(3, .l [(0, []), (1, []), (2, []), (3, []), (4, []), (5, []), (6, []), (7, []), (8, []), (9, []), (10, []), (11, []), (12, []), (13, [12, 7, 0, 1, 4, 5, 6, 11, 10, 8, 9]), (14, []), (15, [14, 11, 13, 0, 1, 2, 3, 4, 5, 6, 7, 8, 9, 10, 12])])], []⟩ [vS a0] R w = sh94 a0 R w := by kernel_rfl
theorem call94 {a0 : Sl} {w : World} {K : TK [] → World → Prop} (h : sh94 a0 (fun vs w' => ∃ t, encK [] t = vs ∧ K t w') w) : cl Pg 94 [vS a0] [] w K := cl_of Try.func94 (tie94 ..) h
/-- slices.rotateLeft[detent/order.Item] -/
def sh92 (a0 : Sl) (a1 : Int) (R : List Value → World → Prop) (w : World) : Prop :=
 sb a0 0 a1 a0.cap 2 fun s1 =>
 cl Pg 94 [vS s1] [] w fun (r2 : Unit) w3 =>
 sb a0 a1 a0.len a0.cap 2 fun s4 =>
 cl Pg 94 [vS s4] [] w3 fun (r5 : Unit) w6 =>
 cl Pg 94 [vS a0] [] w6 fun (r7 : Unit) w8 =>
 R [] w8
theorem tie92 (a0 : Sl) (a1 : Int) (R : List Value → World → Prop) (w : World) : compF Pg Try.f92 ⟨[], [], [], []⟩ [vS a0, .int .i64 a1] R w = sh92 a0 a1 R w := by kernel_rfl
theorem call92 {a0 : Sl} {a1 : Int} {w : World} {K : TK [] → World → Prop} (h : sh92 a0 a1 (fun vs w' => ∃ t, encK [] t = vs ∧ K t w') w) : cl Pg 92 [vS a0, .int .i64 a1] [] w K := cl_of Try.func92 (tie92 ..) h
/-- slices.rotateRight[detent/order.Item] -/
def sh89 (a0 : Sl) (a1 : Int) (R : List Value → World → Prop) (w : World) : Prop :=
 cl Pg 92 [vS a0, .int .i64 (w64 ((a0.len : Int) - a1))] [] w fun (r1 : Unit) w2 =>
 R [] w2
theorem tie89 (a0 : Sl) (a1 : Int) (R : List Value → World → Prop) (w : World) : compF Pg Try.f89 ⟨[], [], [], []⟩ [vS a0, .int .i64 a1] R w = sh89 a0 a1 R w := by kernel_rfl
theorem call89 {a0 : Sl} {a1 : Int} {w : World} {K : TK [] → World → Prop} (h : sh89 a0 a1 (fun vs w' => ∃ t, encK [] t = vs ∧ K t w') w) : cl Pg 89 [vS a0, .int .i64 a1] [] w K := cl_of Try.func89 (tie89 ..) h
/-- slices.Insert[[]detent/order.Item,detent/order.Item] -/
def sh83 (a0 : Sl) (a1 : Int) (a2 : Sl) (R : List Value → World → Prop) (w : World) : Prop :=
 sb a0 a1 a0.len a0.cap 2 fun s1 =>
 cs (((a2.len : Int) : Int) == (0 : Int)) (
 R [vS a0] w) (
 cs ((a1 : Int) == ((a0.len : Int) : Int)) (
 ef Pg (Builtin.append_ #[82, 82] 82 #[vS a0, vS a2]) [kS] w fun (r2 : Sl × Unit) w3 =>
 R [vS r2.1] w3) (
 cs (decide ((w64 ((a0.len : Int) + (a2.len : Int)) : Int) > ((a0.cap : Int) : Int))) (
 sb a0 0 a1 a0.cap 2 fun s4 =>
 ef Pg (Builtin.append_ #[82, 3] 82 #[vS s4, .int .i64 (w64 ((w64 ((a0.len : Int) + (a2.len : Int))) - a1))]) [kS] w fun (r5 : Sl × Unit) w6 =>
 sb r5.1 a1 r5.1.len r5.1.cap 2 fun s7 =>
 ef Pg (Builtin.copy_ #[82, 82] 3 #[vS s7, vS a2]) [kI] w6 fun (r8 : Int × Unit) w9 =>
 dr w9 fun w10 =>
 sb r5.1 (w64 (a1 + (a2.len : Int))) r5.1.len r5.1.cap 2 fun s11 =>
 sb a0 a1 a0.len a0.cap 2 fun s12 =>
 ef Pg (Builtin.copy_ #[82, 82] 3 #[vS s11, vS s12]) [kI] w10 fun (r13 : Int × Unit) w14 =>
 R [vS r5.1] w14) (
 sb a0 0 (w64 ((a0.len : Int) + (a2.len : Int))) a0.cap 2 fun s15 =>
 sb s15 (w64 (a1 + (a2.len : Int))) s15.len s15.cap 2 fun s16 =>
 xt Pg 88 [vS a2, vS s16] [kB] w fun (r17 : Bool × Unit) w18 =>
 cs (!r17.1) (
 dr w18 fun w19 =>
 sb s15 (w64 (a1 + (a2.len : Int))) s15.len s15.cap 2 fun s20 =>
 sb s15 a1 s15.len s15.cap 2 fun s21 =>
 ef Pg (Builtin.copy_ #[82, 82] 3 #[vS s20, vS s21]) [kI] w19 fun (r22 : Int × Unit) w23 =>
 sb s15 a1 s15.len s15.cap 2 fun s24 =>
 ef Pg (Builtin.copy_ #[82, 82] 3 #[vS s24, vS a2]) [kI] w23 fun (r25 : Int × Unit) w26 =>
 R [vS s15] w26) (
 sb s15 (a0.len : Int) s15.len s15.cap 2 fun s27 =>
 ef Pg (Builtin.copy_ #[82, 82] 3 #[vS s27, vS a2]) [kI] w18 fun (r28 : Int × Unit) w29 =>
 sb s15 a1 s15.len s15.cap 2 fun s30 =>
 cl Pg 89 [vS s30, .int .i64 (a2.len : Int)] [] w29 fun (r31 : Unit) w32 =>
 R [vS s15] w32))))
theorem tie83 (a0 : Sl) (a1 : Int) (a2 : Sl) (R : List Value → World → Prop) (w : World) : compF Pg Try.f83 ⟨[], [], [(11, .l [(0, []), (1, []), (2, []), (3, []), (4, []), (5, []), (6, []), (7, []), (8, [4, 7, 0, 3, 5, 6, 1, 2])]), (15, .l [(0, []), (1, []), (2, []), (3, []), (4, []), (5, []), (6, []), (7, []), (8, [4, 7, 0, 3, 5, 6, 1, 2])])], []⟩ [vS a0, .int .i64 a1, vS a2] R w = sh83 a0 a1 a2 R w := by kernel_rfl
theorem call83 {a0 : Sl} {a1 : Int} {a2 : Sl} {w : World} {K : TK [kS] → World → Prop} (h : sh83 a0 a1 a2 (fun vs w' => ∃ t, encK [kS] t = vs ∧ K t w') w) : cl Pg 83 [vS a0, .int .i64 a1, vS a2] [kS] w K := cl_of Try.func83 (tie83 ..) h
/-- (*detent/order.Queue).put -/
def sh64 (a0 : Option Addr) (a1 : (Int × Int × Unit)) (R : List Value → World → Prop) (w : World) : Prop :=
 al w 92 [.int .i64 a1.1, .int .i64 a1.2.1] fun b1 w2 =>
 nn a0 fun b3 o4 =>
 ldS w2 b3 o4 fun s5 =>
 lp [kI] w2 ((s5.len : Int), ()) fun (t6 : Int × Unit) J7 w8 =>
 dr w8 fun w9 =>
 jn [kB] w9 (fun (t11 : Bool × Unit) w12 =>
 cs t11.1 (
 J7 (w64 (t6.1 - 1), ()) w12) (
 dr w12 fun w14 =>
 nn a0 fun b15 o16 =>
 ldS w14 b15 o16 fun s17 =>
 ldI w14 .i64 b1 0 fun n18 =>
 ldI w14 .i64 b1 (0 + 1) fun n19 =>
 al w14 92 [.int .i64 n18, .int .i64 n19] fun b20 w21 =>
(w21.cell? ⟨b15, o16, none⟩ = some (vS s17)) ∧ (
 cl Pg 83 [vS s17, .int .i64 t6.1, vS ⟨some ⟨b20, 0, none⟩, 1, 1⟩] [kS] w21 fun (r22 : Sl × Unit) w23 =>
 nn a0 fun b24 o25 =>
 st1 w23 b24 o25 (vS r22.1) fun w26 =>
 R [] w26))) fun J10 w13 =>
 nn a0 fun b27 o28 =>
 ldB w13 b27 (o28 + 1) fun b29 =>
 cs b29 (
 cs (decide ((t6.1 : Int) > (0 : Int))) (
 nn a0 fun b30 o31 =>
 ldS w13 b30 o31 fun s32 =>
 ix s32 (w64 (t6.1 - 1)) 2 fun b33 o34 =>
 ldI w13 .i64 b33 (o34 + 1) fun n35 =>
 ldI w13 .i64 b1 (0 + 1) fun n36 =>
 J10 (decide ((n35 : Int) > (n36 : Int)), ()) w13) (
 J10 (false, ()) w13)) (
 J10 (false, ()) w13)
theorem tie64 (a0 : Option Addr) (a1 : (Int × Int × Unit)) (R : List Value → World → Prop) (w : World) : compF Pg Try.f64 ⟨[(1, ⟨[(4, kI)], [11, 12, 13, 14, 15, 16, 17, 18, 19, 20, 21, 22, 23, 24, 25, 26, 27, 28, 29, 30, 31, 32, 33, 34, 35]⟩)], [(2, ⟨[(33, kB)], [11, 12, 13, 14, 15, 16, 17, 18, 19, 20, 21, 22, 23, 24, 25, 26, 27, 28, 29, 30, 31, 32]⟩)], [(2, .l [(0, []), (1, []), (2, []), (3, []), (4, []), (5, []), (6, []), (7, []), (8, []), (9, []), (10, []), (11, []), (12, []), (13, []), (14, []), (15, []), (16, []), (17, []), (18, []), (19, []), (20, []), (21, []), (22, [])]), (4, .l [(0, []), (1, []), (2, []), (3, []), (4, []), (5, []), (6, []), (7, []), (8, [7]), (9, [5, 6, 8, 4, 7, 3, 2, 1]), (10, []), (11, []), (12, []), (13, [12, 9, 0, 1, 2, 3, 4, 5, 6, 7, 8, 11, 10])])], []⟩ [.pointer a0, .agg #[.int .i64 a1.1, .int .i64 a1.2.1]] R w = sh64 a0 a1 R w := by kernel_rfl
theorem call64 {a0 : Option Addr} {a1 : (Int × Int × Unit)} {w : World} {K : TK [] → World → Prop} (h : sh64 a0 a1 (fun vs w' => ∃ t, encK [] t = vs ∧ K t w') w) : cl Pg 64 [.pointer a0, .agg #[.int .i64 a1.1, .int .i64 a1.2.1]] [] w K := cl_of Try.func64 (tie64 ..) h
/-- (*detent/order.Queue).Add -/
def sh35 (a0 : Option Addr) (a1 : Int) (a2 : Int) (R : List Value → World → Prop) (w : World) : Prop :=
 jn [kB] w (fun (t2 : Bool × Unit) w3 =>
 jn [kB] w3 (fun (t6 : Bool × Unit) w7 =>
 cs t6.1 (
 R [.int .i64 (-17)] w7) (
 nn a0 fun b9 o10 =>
 cl Pg 34 [.pointer (some ⟨b9, o10, none⟩), .int .i64 a1] [kB] w7 fun (r11 : Bool × Unit) w12 =>
 cs r11.1 (
 R [.int .i64 (-41)] w12) (
 cl Pg 64 [.pointer a0, .agg #[.int .i64 a1, .int .i64 a2]] [] w12 fun (r13 : Unit) w14 =>
 R [.int .i64 0] w14))) fun J5 w8 =>
 cs t2.1 (
 J5 (true, ()) w8) (
 cl Pg 63 [.int .i64 a2] [kB] w8 fun (r15 : Bool × Unit) w16 =>
 J5 (!r15.1, ()) w16)) fun J1 w4 =>
 cs (decide ((a1 : Int) < (1 : Int))) (
 J1 (true, ()) w4) (
 J1 (decide ((a1 : Int) > (16 : Int)), ()) w4)
theorem tie35 (a0 : Option Addr) (a1 : Int) (a2 : Int) (R : List Value → World → Prop) (w : World) : compF Pg Try.f35 ⟨[], [], [], [(1, [(3, 3, ⟨[(13, kB)], [11, 12]⟩), (7, 4, ⟨[(18, kB)], [15, 16, 17]⟩)])]⟩ [.pointer a0, .int .i64 a1, .int .i64 a2] R w = sh35 a0 a1 a2 R w := by kernel_rfl
theorem call35 {a0 : Option Addr} {a1 : Int} {a2 : Int} {w : World} {K : TK [kI] → World → Prop} (h : sh35 a0 a1 a2 (fun vs w' => ∃ t, encK [kI] t = vs ∧ K t w') w) : cl Pg 35 [.pointer a0, .int .i64 a1, .int .i64 a2] [kI] w K := cl_of Try.func35 (tie35 ..) h
/-- slices.Clone[[]byte,byte] -/
def sh36 (a0 : Sl) (R : List Value → World → Prop) (w : World) : Prop :=
 cs a0.a.isNone (
 R [.slice none 0 0] w) (
 al w 5 [] fun b1 w2 =>
 ef Pg (Builtin.append_ #[28, 28] 28 #[vS ⟨some ⟨b1, 0, none⟩, 0, 0⟩, vS a0]) [kS] w2 fun (r3 : Sl × Unit) w4 =>
 R [vS r3.1] w4)
theorem tie36 (a0 : Sl) (R : List Value → World → Prop) (w : World) : compF Pg Try.f36 ⟨[], [], [], []⟩ [vS a0] R w = sh36 a0 R w := by kernel_rfl
theorem call36 {a0 : Sl} {w : World} {K : TK [kS] → World → Prop} (h : sh36 a0 (fun vs w' => ∃ t, encK [kS] t = vs ∧ K t w') w) : cl Pg 36 [vS a0] [kS] w K := cl_of Try.func36 (tie36 ..) h
/-- (*detent/mbf.Buffer).Send -/
def sh10 (a0 : Option Addr) (a1 : Int) (a2 : Int) (a3 : Sl) (R : List Value → World → Prop) (w : World) : Prop :=
 cl Pg 14 [.pointer a0, vS a3] [kB, kI, kI] w fun (r1 : Bool × Int × Int × Unit) w2 =>
 jn [kB] w2 (fun (t4 : Bool × Unit) w5 =>
 cs t4.1 (
 R [.bool r1.1, .int .i64 r1.2.1, .int .i64 r1.2.2.1] w5) (
 nn a0 fun b7 o8 =>
 ldP w5 b7 (o8 + 3) fun p9 =>
 nn p9 fun b10 o11 =>
 cl Pg 34 [.pointer (some ⟨b10, o11, none⟩), .int .i64 a1] [kB] w5 fun (r12 : Bool × Unit) w13 =>
 cs r12.1 (
 R [.bool false, .int .i64 0, .int .i64 (-41)] w13) (
 nn a0 fun b14 o15 =>
 ldP w13 b14 (o15 + 2) fun p16 =>
 cl Pg 35 [.pointer p16, .int .i64 a1, .int .i64 a2] [kI] w13 fun (r17 : Int × Unit) w18 =>
 cs ((r17.1 : Int) != (0 : Int)) (
 R [.bool false, .int .i64 0, .int .i64 r17.1] w18) (
 dr w18 fun w19 =>
 nn a0 fun b20 o21 =>
 ldM w19 b20 (o21 + 4) fun m22 =>
 cl Pg 36 [vS a3] [kS] w19 fun (r23 : Sl × Unit) w24 =>
(w24.cell? ⟨b20, o21 + 4, none⟩ = some (.map m22)) ∧ (
 efU Pg (Instr.mapUpdate 39 (.map m22) (.int .i64 a1) (vS r23.1)) w24 fun w25 =>
 R [.bool false, .int .i64 0, .int .i64 0] w25))))) fun J3 w6 =>
 cs r1.1 (
 J3 (true, ()) w6) (
 J3 ((r1.2.2.1 : Int) != (0 : Int), ()) w6)
theorem tie10 (a0 : Option Addr) (a1 : Int) (a2 : Int) (a3 : Sl) (R : List Value → World → Prop) (w : World) : compF Pg Try.f10 ⟨[], [], [(9, .l [(0, []), (1, []), (2, []), (3, []), (4, []), (5, []), (6, [5]), (7, [3, 4, 6, 0, 1, 2, 5])])], [(2, [(2, 3, ⟨[(26, kB)], [24, 25]⟩)])]⟩ [.pointer a0, .int .i64 a1, .int .i64 a2, vS a3] R w = sh10 a0 a1 a2 a3 R w := by kernel_rfl
theorem call10 {a0 : Option Addr} {a1 : Int} {a2 : Int} {a3 : Sl} {w : World} {K : TK [kB, kI, kI] → World → Prop} (h : sh10 a0 a1 a2 a3 (fun vs w' => ∃ t, encK [kB, kI, kI] t = vs ∧ K t w') w) : cl Pg 10 [.pointer a0, .int .i64 a1, .int .i64 a2, vS a3] [kB, kI, kI] w K := cl_of Try.func10 (tie10 ..) h
/-- slices.Clip[[]int,int] -/
def sh69 (a0 : Sl) (R : List Value → World → Prop) (w : World) : Prop :=
 sb a0 0 (a0.len : Int) (a0.len : Int) 1 fun s1 =>
 R [vS s1] w
theorem tie69 (a0 : Sl) (R : List Value → World → Prop) (w : World) : compF Pg Try.f69 ⟨[], [], [], []⟩ [vS a0] R w = sh69 a0 R w := by kernel_rfl
theorem call69 {a0 : Sl} {w : World} {K : TK [kS] → World → Prop} (h : sh69 a0 (fun vs w' => ∃ t, encK [kS] t = vs ∧ K t w') w) : cl Pg 69 [vS a0] [kS] w K := cl_of Try.func69 (tie69 ..) h
/-- slices.Clone[[]detent/order.Item,detent/order.Item] -/
def sh79 (a0 : Sl) (R : List Value → World → Prop) (w : World) : Prop :=
 cs a0.a.isNone (
 R [.slice none 0 0] w) (
 al w 92 [] fun b1 w2 =>
 ef Pg (Builtin.append_ #[82, 82] 82 #[vS ⟨some ⟨b1, 0, none⟩, 0, 0⟩, vS a0]) [kS] w2 fun (r3 : Sl × Unit) w4 =>
 R [vS r3.1] w4)
theorem tie79 (a0 : Sl) (R : List Value → World → Prop) (w : World) : compF Pg Try.f79 ⟨[], [], [], []⟩ [vS a0] R w = sh79 a0 R w := by kernel_rfl
theorem call79 {a0 : Sl} {w : World} {K : TK [kS] → World → Prop} (h : sh79 a0 (fun vs w' => ∃ t, encK [kS] t = vs ∧ K t w') w) : cl Pg 79 [vS a0] [kS] w K := cl_of Try.func79 (tie79 ..) h
/-- slices.Clip[[]detent/order.Item,detent/order.Item] -/
def sh86 (a0 : Sl) (R : List Value → World → Prop) (w : World) : Prop :=
 sb a0 0 (a0.len : Int) (a0.len : Int) 2 fun s1 =>
 R [vS s1] w
theorem tie86 (a0 : Sl) (R : List Value → World → Prop) (w : World) : compF Pg Try.f86 ⟨[], [], [], []⟩ [vS a0] R w = sh86 a0 R w := by kernel_rfl
theorem call86 {a0 : Sl} {w : World} {K : TK [kS] → World → Prop} (h : sh86 a0 (fun vs w' => ∃ t, encK [kS] t = vs ∧ K t w') w) : cl Pg 86 [vS a0] [kS] w K := cl_of Try.func86 (tie86 ..) h
/-- (*detent/order.Line).Row -/
def sh70 (a0 : Option Addr) (R : List Value → World → Prop) (w : World) : Prop :=
 nn a0 fun b1 o2 =>
 ldS w b1 o2 fun s3 =>
 cl Pg 79 [vS s3] [kS] w fun (r4 : Sl × Unit) w5 =>
 cl Pg 86 [vS r4.1] [kS] w5 fun (r6 : Sl × Unit) w7 =>
 R [vS r6.1] w7
theorem tie70 (a0 : Option Addr) (R : List Value → World → Prop) (w : World) : compF Pg Try.f70 ⟨[], [], [], []⟩ [.pointer a0] R w = sh70 a0 R w := by kernel_rfl
theorem call70 {a0 : Option Addr} {w : World} {K : TK [kS] → World → Prop} (h : sh70 a0 (fun vs w' => ∃ t, encK [kS] t = vs ∧ K t w') w) : cl Pg 70 [.pointer a0] [kS] w K := cl_of Try.func70 (tie70 ..) h
/-- detent/mbf.ids -/
def sh41 (a0 : Option Addr) (R : List Value → World → Prop) (w : World) : Prop :=
 nn a0 fun b1 o2 =>
 cl Pg 70 [.pointer (some ⟨b1, o2, none⟩)] [kS] w fun (r3 : Sl × Unit) w4 =>
 lp [kS, kI] w4 (⟨none, 0, 0⟩, (0 : Int), ()) fun (t5 : Sl × Int × Unit) J6 w7 =>
 cs (decide ((t5.2.1 : Int) < ((r3.1.len : Int) : Int))) (
 ix r3.1 t5.2.1 2 fun b8 o9 =>
 ldI w7 .i64 b8 o9 fun n10 =>
 ldI w7 .i64 b8 (o9 + 1) fun n11 =>
 al w7 92 [.int .i64 0, .int .i64 0] fun b12 w13 =>
 st1 w13 b12 0 (.int .i64 n10) fun w14 =>
 st1 w14 b12 (0 + 1) (.int .i64 n11) fun w15 =>
 ldI w15 .i64 b12 0 fun n16 =>
 al w15 3 [.int .i64 n16] fun b17 w18 =>
 ef Pg (Builtin.append_ #[31, 31] 31 #[vS t5.1, vS ⟨some ⟨b17, 0, none⟩, 1, 1⟩]) [kS] w18 fun (r19 : Sl × Unit) w20 =>
 J6 (r19.1, w64 (t5.2.1 + 1), ()) w20) (
 cl Pg 69 [vS t5.1] [kS] w7 fun (r21 : Sl × Unit) w22 =>
 R [vS r21.1] w22)
theorem tie41 (a0 : Option Addr) (R : List Value → World → Prop) (w : World) : compF Pg Try.f41 ⟨[(1, ⟨[(3, kS), (11, kI)], [5, 12, 13, 14, 15, 16, 17, 18, 19, 20]⟩)], [], [], []⟩ [.pointer a0] R w = sh41 a0 R w := by kernel_rfl
theorem call41 {a0 : Option Addr} {w : World} {K : TK [kS] → World → Prop} (h : sh41 a0 (fun vs w' => ∃ t, encK [kS] t = vs ∧ K t w') w) : cl Pg 41 [.pointer a0] [kS] w K := cl_of Try.func41 (tie41 ..) h
/-- (*detent/mbf.Buffer).Senders -/
def sh12 (a0 : Option Addr) (R : List Value → World → Prop) (w : World) : Prop :=
 nn a0 fun b1 o2 =>
 ldP w b1 (o2 + 2) fun p3 =>
 cl Pg 41 [.pointer p3] [kS] w fun (r4 : Sl × Unit) w5 =>
 R [vS r4.1] w5
theorem tie12 (a0 : Option Addr) (R : List Value → World → Prop) (w : World) : compF Pg Try.f12 ⟨[], [], [], []⟩ [.pointer a0] R w = sh12 a0 R w := by kernel_rfl
theorem call12 {a0 : Option Addr} {w : World} {K : TK [kS] → World → Prop} (h : sh12 a0 (fun vs w' => ∃ t, encK [kS] t = vs ∧ K t w') w) : cl Pg 12 [.pointer a0] [kS] w K := cl_of Try.func12 (tie12 ..) h
/-- (*detent/ring.Ring).Len -/
def sh15 (a0 : Option Addr) (R : List Value → World → Prop) (w : World) : Prop :=
 nn a0 fun b1 o2 =>
 ldI w .i64 b1 (o2 + 3) fun n3 =>
 R [.int .i64 n3] w
theorem tie15 (a0 : Option Addr) (R : List Value → World → Prop) (w : World) : compF Pg Try.f15 ⟨[], [], [], []⟩ [.pointer a0] R w = sh15 a0 R w := by kernel_rfl
theorem call15 {a0 : Option Addr} {w : World} {K : TK [kI] → World → Prop} (h : sh15 a0 (fun vs w' => ∃ t, encK [kI] t = vs ∧ K t w') w) : cl Pg 15 [.pointer a0] [kI] w K := cl_of Try.func15 (tie15 ..) h
/-- (*detent/arena.Arena).Word -/
def sh65 (a0 : Option Addr) (a1 : Int) (R : List Value → World → Prop) (w : World) : Prop :=
 cl Pg 84 [.pointer a0, .int .i64 a1] [kS, kB] w fun (r1 : Sl × Bool × Unit) w2 =>
 cs (!r1.2.1) (
 R [.int .u32 0, .int .i64 (-17)] w2) (
 dr w2 fun w3 =>
 ix r1.1 0 1 fun b4 o5 =>
 ldI w3 .u8 b4 o5 fun n6 =>
 ix r1.1 1 1 fun b7 o8 =>
 ldI w3 .u8 b7 o8 fun n9 =>
 ix r1.1 2 1 fun b10 o11 =>
 ldI w3 .u8 b10 o11 fun n12 =>
 ix r1.1 3 1 fun b13 o14 =>
 ldI w3 .u8 b13 o14 fun n15 =>
 R [.int .u32 (bOr .u32 (bOr .u32 (bOr .u32 (IntKind.u32.wrap (n6)) (IntKind.u32.wrap ((IntKind.u32.wrap (n9)) * 2 ^ 8))) (IntKind.u32.wrap ((IntKind.u32.wrap (n12)) * 2 ^ 16))) (IntKind.u32.wrap ((IntKind.u32.wrap (n15)) * 2 ^ 24))), .int .i64 0] w3)
theorem tie65 (a0 : Option Addr) (a1 : Int) (R : List Value → World → Prop) (w : World) : compF Pg Try.f65 ⟨[], [], [(4, .l [(0, []), (1, []), (2, []), (3, []), (4, []), (5, []), (6, []), (7, []), (8, []), (9, []), (10, []), (11, []), (12, []), (13, []), (14, []), (15, []), (16, []), (17, []), (18, []), (19, []), (20, []), (21, []), (22, []), (23, [])])], []⟩ [.pointer a0, .int .i64 a1] R w = sh65 a0 a1 R w := by kernel_rfl
theorem call65 {a0 : Option Addr} {a1 : Int} {w : World} {K : TK [.l (.i .u32), kI] → World → Prop} (h : sh65 a0 a1 (fun vs w' => ∃ t, encK [.l (.i .u32), kI] t = vs ∧ K t w') w) : cl Pg 65 [.pointer a0, .int .i64 a1] [.l (.i .u32), kI] w K := cl_of Try.func65 (tie65 ..) h
/-- slices.Clip[[]byte,byte] -/
def sh40 (a0 : Sl) (R : List Value → World → Prop) (w : World) : Prop :=
 sb a0 0 (a0.len : Int) (a0.len : Int) 1 fun s1 =>
 R [vS s1] w
theorem tie40 (a0 : Sl) (R : List Value → World → Prop) (w : World) : compF Pg Try.f40 ⟨[], [], [], []⟩ [vS a0] R w = sh40 a0 R w := by kernel_rfl
theorem call40 {a0 : Sl} {w : World} {K : TK [kS] → World → Prop} (h : sh40 a0 (fun vs w' => ∃ t, encK [kS] t = vs ∧ K t w') w) : cl Pg 40 [vS a0] [kS] w K := cl_of Try.func40 (tie40 ..) h
/-- (*detent/arena.Arena).Read -/
def sh85 (a0 : Option Addr) (a1 : Int) (a2 : Int) (R : List Value → World → Prop) (w : World) : Prop :=
 cl Pg 90 [.pointer a0, .int .i64 a1, .int .i64 a2] [kS, kB] w fun (r1 : Sl × Bool × Unit) w2 =>
 cs (!r1.2.1) (
 R [.slice none 0 0, .int .i64 (-17)] w2) (
 cl Pg 36 [vS r1.1] [kS] w2 fun (r3 : Sl × Unit) w4 =>
 cl Pg 40 [vS r3.1] [kS] w4 fun (r5 : Sl × Unit) w6 =>
 R [vS r5.1, .int .i64 0] w6)
theorem tie85 (a0 : Option Addr) (a1 : Int) (a2 : Int) (R : List Value → World → Prop) (w : World) : compF Pg Try.f85 ⟨[], [], [], []⟩ [.pointer a0, .int .i64 a1, .int .i64 a2] R w = sh85 a0 a1 a2 R w := by kernel_rfl
theorem call85 {a0 : Option Addr} {a1 : Int} {a2 : Int} {w : World} {K : TK [kS, kI] → World → Prop} (h : sh85 a0 a1 a2 (fun vs w' => ∃ t, encK [kS, kI] t = vs ∧ K t w') w) : cl Pg 85 [.pointer a0, .int .i64 a1, .int .i64 a2] [kS, kI] w K := cl_of Try.func85 (tie85 ..) h
/-- (*detent/ring.Ring).get -/
def sh66 (a0 : Option Addr) (a1 : Int) (a2 : Int) (R : List Value → World → Prop) (w : World) : Prop :=
 nn a0 fun b1 o2 =>
 ldP w b1 o2 fun p3 =>
 cl Pg 42 [.pointer p3] [kI] w fun (r4 : Int × Unit) w5 =>
 ob (r4.1 ≠ 0) (
 nn a0 fun b6 o7 =>
 ldP w5 b6 o7 fun p8 =>
 cl Pg 42 [.pointer p8] [kI] w5 fun (r9 : Int × Unit) w10 =>
 nn a0 fun b11 o12 =>
 ldP w10 b11 o12 fun p13 =>
 cl Pg 85 [.pointer p13, .int .i64 (Int.tmod a1 r4.1), .int .i64 (if (w64 (r9.1 - (Int.tmod a1 r4.1))) < a2 then w64 (r9.1 - (Int.tmod a1 r4.1)) else a2)] [kS, kI] w10 fun (r14 : Sl × Int × Unit) w15 =>
 nn a0 fun b16 o17 =>
 ldP w15 b16 o17 fun p18 =>
 cl Pg 85 [.pointer p18, .int .i64 0, .int .i64 (w64 (a2 - (if (w64 (r9.1 - (Int.tmod a1 r4.1))) < a2 then w64 (r9.1 - (Int.tmod a1 r4.1)) else a2)))] [kS, kI] w15 fun (r19 : Sl × Int × Unit) w20 =>
 ef Pg (Builtin.append_ #[28, 28] 28 #[vS r14.1, vS r19.1]) [kS] w20 fun (r21 : Sl × Unit) w22 =>
 R [vS r21.1] w22)
theorem tie66 (a0 : Option Addr) (a1 : Int) (a2 : Int) (R : List Value → World → Prop) (w : World) : compF Pg Try.f66 ⟨[], [], [], []⟩ [.pointer a0, .int .i64 a1, .int .i64 a2] R w = sh66 a0 a1 a2 R w := by kernel_rfl
theorem call66 {a0 : Option Addr} {a1 : Int} {a2 : Int} {w : World} {K : TK [kS] → World → Prop} (h : sh66 a0 a1 a2 (fun vs w' => ∃ t, encK [kS] t = vs ∧ K t w') w) : cl Pg 66 [.pointer a0, .int .i64 a1, .int .i64 a2] [kS] w K := cl_of Try.func66 (tie66 ..) h
/-- (*detent/ring.Ring).Get -/
def sh37 (a0 : Option Addr) (R : List Value → World → Prop) (w : World) : Prop :=
 nn a0 fun b1 o2 =>
 ldI w .i64 b1 (o2 + 3) fun n3 =>
 cs ((n3 : Int) == (0 : Int)) (
 R [.slice none 0 0, .bool false] w) (
 dr w fun w4 =>
 nn a0 fun b5 o6 =>
 ldP w4 b5 o6 fun p7 =>
 nn a0 fun b8 o9 =>
 ldI w4 .i64 b8 (o9 + 1) fun n10 =>
 cl Pg 65 [.pointer p7, .int .i64 n10] [.l (.i .u32), kI] w4 fun (r11 : Int × Int × Unit) w12 =>
 nn a0 fun b13 o14 =>
 ldI w12 .i64 b13 (o14 + 1) fun n15 =>
 cl Pg 66 [.pointer a0, .int .i64 (w64 (n15 + 4)), .int .i64 (w64 (r11.1))] [kS] w12 fun (r16 : Sl × Unit) w17 =>
 cl Pg 67 [.int .i64 (w64 (r11.1)), .int .i64 4] [kI] w17 fun (r18 : Int × Unit) w19 =>
 dr w19 fun w20 =>
 nn a0 fun b21 o22 =>
 ldI w20 .i64 b21 (o22 + 1) fun n23 =>
 nn a0 fun b24 o25 =>
 ldP w20 b24 o25 fun p26 =>
 cl Pg 42 [.pointer p26] [kI] w20 fun (r27 : Int × Unit) w28 =>
(w28.cell? ⟨b21, o22 + 1, none⟩ = some (.int .i64 n23)) ∧ (
 ob (r27.1 ≠ 0) (
 nn a0 fun b29 o30 =>
 st1 w28 b29 (o30 + 1) (.int .i64 (Int.tmod (w64 (n23 + (w64 (4 + r18.1)))) r27.1)) fun w31 =>
 nn a0 fun b32 o33 =>
 ldI w31 .i64 b32 (o33 + 2) fun n34 =>
 nn a0 fun b35 o36 =>
 st1 w31 b35 (o36 + 2) (.int .i64 (w64 (n34 - (w64 (4 + r18.1))))) fun w37 =>
 nn a0 fun b38 o39 =>
 ldI w37 .i64 b38 (o39 + 3) fun n40 =>
 nn a0 fun b41 o42 =>
 st1 w37 b41 (o42 + 3) (.int .i64 (w64 (n40 - 1))) fun w43 =>
 R [vS r16.1, .bool true] w43)))
theorem tie37 (a0 : Option Addr) (R : List Value → World → Prop) (w : World) : compF Pg Try.f37 ⟨[], [], [(3, .l [(0, []), (1, []), (2, []), (3, []), (4, []), (5, []), (6, []), (7, []), (8, [3, 7, 2, 6, 1, 5, 0, 4]), (9, []), (10, []), (11, []), (12, []), (13, [])]), (7, .l [(0, []), (1, []), (2, []), (3, []), (4, []), (5, []), (6, []), (7, []), (8, []), (9, []), (10, []), (11, [10, 9, 8, 7]), (12, []), (13, []), (14, []), (15, [14, 12, 11, 0, 1, 2, 3, 4, 5, 6, 7, 8, 9, 10, 13])])], []⟩ [.pointer a0] R w = sh37 a0 R w := by kernel_rfl
theorem call37 {a0 : Option Addr} {w : World} {K : TK [kS, kB] → World → Prop} (h : sh37 a0 (fun vs w' => ∃ t, encK [kS, kB] t = vs ∧ K t w') w) : cl Pg 37 [.pointer a0] [kS, kB] w K := cl_of Try.func37 (tie37 ..) h
/-- (*detent/mbf.Buffer).fill -/
def sh38 (a0 : Option Addr) (R : List Value → World → Prop) (w : World) : Prop :=
 nn a0 fun b1 o2 =>
 ldP w b1 (o2 + 2) fun p3 =>
 nn p3 fun b4 o5 =>
 cl Pg 68 [.pointer (some ⟨b4, o5, none⟩)] [.a [(.i .i64), (.i .i64)], kB] w fun (r6 : (Int × Int × Unit) × Bool × Unit) w7 =>
 al w7 92 [.int .i64 0, .int .i64 0] fun b8 w9 =>
 st1 w9 b8 0 (.int .i64 r6.1.1) fun w10 =>
 st1 w10 b8 (0 + 1) (.int .i64 r6.1.2.1) fun w11 =>
 lp [kS, .l .q, kB] w11 (⟨none, 0, 0⟩, (b8, 0), r6.2.1, ()) fun (t12 : Sl × (Nat × Nat) × Bool × Unit) J13 w14 =>
 dr w14 fun w15 =>
 jn [kB] w15 (fun (t17 : Bool × Unit) w18 =>
 cs t17.1 (
 dr w18 fun w20 =>
 nn a0 fun b21 o22 =>
 ldP w20 b21 (o22 + 2) fun p23 =>
 nn p23 fun b24 o25 =>
 ldI w20 .i64 t12.2.1.1 t12.2.1.2 fun n26 =>
 cl Pg 53 [.pointer (some ⟨b24, o25, none⟩), .int .i64 n26] [kB] w20 fun (r27 : Bool × Unit) w28 =>
 dr w28 fun w29 =>
 nn a0 fun b30 o31 =>
 ldM w29 b30 (o31 + 4) fun m32 =>
 ldI w29 .i64 t12.2.1.1 t12.2.1.2 fun n33 =>
 ef Pg (Builtin.delete_ #[39, 3] 0 #[.map m32, .int .i64 n33]) [] w29 fun (r34 : Unit) w35 =>
 ldI w35 .i64 t12.2.1.1 t12.2.1.2 fun n36 =>
 al w35 3 [.int .i64 n36] fun b37 w38 =>
 ef Pg (Builtin.append_ #[31, 31] 31 #[vS t12.1, vS ⟨some ⟨b37, 0, none⟩, 1, 1⟩]) [kS] w38 fun (r39 : Sl × Unit) w40 =>
 ldI w40 .i64 t12.2.1.1 t12.2.1.2 fun n41 =>
 ldI w40 .i64 t12.2.1.1 (t12.2.1.2 + 1) fun n42 =>
 al w40 92 [.int .i64 0, .int .i64 0] fun b43 w44 =>
 st1 w44 b43 0 (.int .i64 n41) fun w45 =>
 st1 w45 b43 (0 + 1) (.int .i64 n42) fun w46 =>
 nn a0 fun b47 o48 =>
 ldP w46 b47 (o48 + 2) fun p49 =>
 nn p49 fun b50 o51 =>
 cl Pg 68 [.pointer (some ⟨b50, o51, none⟩)] [.a [(.i .i64), (.i .i64)], kB] w46 fun (r52 : (Int × Int × Unit) × Bool × Unit) w53 =>
 st1 w53 b43 0 (.int .i64 r52.1.1) fun w54 =>
 st1 w54 b43 (0 + 1) (.int .i64 r52.1.2.1) fun w55 =>
 J13 (r39.1, (b43, 0), r52.2.1, ()) w55) (
 cl Pg 69 [vS t12.1] [kS] w18 fun (r56 : Sl × Unit) w57 =>
 R [vS r56.1] w57)) fun J16 w19 =>
 cs t12.2.2.1 (
 nn a0 fun b58 o59 =>
 ldP w19 b58 o59 fun p60 =>
 nn a0 fun b61 o62 =>
 ldM w19 b61 (o62 + 4) fun m63 =>
 ldI w19 .i64 t12.2.1.1 t12.2.1.2 fun n64 =>
 ef Pg (Instr.lookup 39 (.map m63) (.int .i64 n64) false) [kS] w19 fun (r65 : Sl × Unit) w66 =>
(w66.cell? ⟨b58, o59, none⟩ = some (.pointer p60)) ∧ (
 cl Pg 44 [.pointer p60, vS r65.1] [kB] w66 fun (r67 : Bool × Unit) w68 =>
 J16 (r67.1, ()) w68)) (
 J16 (false, ()) w19)
theorem tie38 (a0 : Option Addr) (R : List Value → World → Prop) (w : World) : compF Pg Try.f38 ⟨[(1, ⟨[(3, kS), (4, .l .q), (5, kB)], [16, 17, 18, 19, 20, 21, 22, 23, 24, 25, 26, 27, 28, 29, 30, 31, 32, 33, 34, 35, 36, 37, 38, 39, 40, 41, 42, 43, 44, 45, 46, 47, 48, 49, 50, 51, 52, 53, 54, 55, 56, 57, 58, 59, 60, 61]⟩)], [(3, ⟨[(30, kB)], [16, 17, 18, 19, 20, 21, 22, 23, 24, 25, 26, 27, 28, 29]⟩)], [(3, .l [(0, []), (1, []), (2, []), (3, []), (4, []), (5, []), (6, []), (7, []), (8, []), (9, []), (10, []), (11, []), (12, [9, 11, 1, 8, 10, 0, 7, 6]), (13, [5, 12, 1, 4, 9, 11, 0, 3, 8, 10, 2, 7, 6]), (14, [])]), (5, .l [(0, []), (1, []), (2, []), (3, []), (4, []), (5, []), (6, []), (7, []), (8, [5, 7, 4, 6, 3, 2, 1, 0])]), (6, .l [(0, []), (1, []), (2, []), (3, []), (4, []), (5, []), (6, [3, 5, 2, 4, 1, 0])])], []⟩ [.pointer a0] R w = sh38 a0 R w := by kernel_rfl
theorem call38 {a0 : Option Addr} {w : World} {K : TK [kS] → World → Prop} (h : sh38 a0 (fun vs w' => ∃ t, encK [kS] t = vs ∧ K t w') w) : cl Pg 38 [.pointer a0] [kS] w K := cl_of Try.func38 (tie38 ..) h
/-- (*detent/mbf.Buffer).TryRecv -/
def sh11 (a0 : Option Addr) (R : List Value → World → Prop) (w : World) : Prop :=
 al w 33 [.slice none 0 0, .bool false, .slice none 0 0] fun b1 w2 =>
 nn a0 fun b3 o4 =>
 ldP w2 b3 o4 fun p5 =>
 cl Pg 37 [.pointer p5] [kS, kB] w2 fun (r6 : Sl × Bool × Unit) w7 =>
 cs r6.2.1 (
 cl Pg 38 [.pointer a0] [kS] w7 fun (r8 : Sl × Unit) w9 =>
 st1 w9 b1 0 (vS r6.1) fun w10 =>
 st1 w10 b1 (0 + 1) (.bool true) fun w11 =>
 st1 w11 b1 (0 + 2) (vS r8.1) fun w12 =>
 ldS w12 b1 0 fun s13 =>
 ldB w12 b1 (0 + 1) fun b14 =>
 ldS w12 b1 (0 + 2) fun s15 =>
 R [.agg #[vS s13, .bool b14, vS s15]] w12) (
 nn a0 fun b16 o17 =>
 ldP w7 b16 (o17 + 2) fun p18 =>
 cl Pg 39 [.pointer p18] [.a [(.i .i64), (.i .i64)], kB] w7 fun (r19 : (Int × Int × Unit) × Bool × Unit) w20 =>
 al w20 92 [.int .i64 0, .int .i64 0] fun b21 w22 =>
 st1 w22 b21 0 (.int .i64 r19.1.1) fun w23 =>
 st1 w23 b21 (0 + 1) (.int .i64 r19.1.2.1) fun w24 =>
 cs (!r19.2.1) (
 st1 w24 b1 0 (.slice none 0 0) fun w25 =>
 st1 w25 b1 (0 + 1) (.bool false) fun w26 =>
 st1 w26 b1 (0 + 2) (.slice none 0 0) fun w27 =>
 ldS w27 b1 0 fun s28 =>
 ldB w27 b1 (0 + 1) fun b29 =>
 ldS w27 b1 (0 + 2) fun s30 =>
 R [.agg #[vS s28, .bool b29, vS s30]] w27) (
 dr w24 fun w31 =>
 nn a0 fun b32 o33 =>
 ldM w31 b32 (o33 + 4) fun m34 =>
 ldI w31 .i64 b21 0 fun n35 =>
 ef Pg (Instr.lookup 39 (.map m34) (.int .i64 n35) false) [kS] w31 fun (r36 : Sl × Unit) w37 =>
 dr w37 fun w38 =>
 nn a0 fun b39 o40 =>
 ldM w38 b39 (o40 + 4) fun m41 =>
 ldI w38 .i64 b21 0 fun n42 =>
 ef Pg (Builtin.delete_ #[39, 3] 0 #[.map m41, .int .i64 n42]) [] w38 fun (r43 : Unit) w44 =>
 dr w44 fun w45 =>
 ldI w45 .i64 b21 0 fun n46 =>
(
 cl Pg 36 [vS r36.1] [kS] w45 fun (r47 : Sl × Unit) w48 =>
(w48.cell? ⟨b21, 0, none⟩ = some (.int .i64 n46)) ∧ (
(
 cl Pg 40 [vS r47.1] [kS] w48 fun (r49 : Sl × Unit) w50 =>
(w50.cell? ⟨b21, 0, none⟩ = some (.int .i64 n46)) ∧ (
 al w50 3 [.int .i64 n46] fun b51 w52 =>
 st1 w52 b1 0 (vS r49.1) fun w53 =>
 st1 w53 b1 (0 + 1) (.bool true) fun w54 =>
 st1 w54 b1 (0 + 2) (vS ⟨some ⟨b51, 0, none⟩, 1, 1⟩) fun w55 =>
 ldS w55 b1 0 fun s56 =>
 ldB w55 b1 (0 + 1) fun b57 =>
 ldS w55 b1 (0 + 2) fun s58 =>
 R [.agg #[vS s56, .bool b57, vS s58]] w55)) ∧ (
 al w48 3 [.int .i64 n46] fun b59 w60 =>
 cl Pg 40 [vS r47.1] [kS] w60 fun (r61 : Sl × Unit) w62 =>
(w62.cell? ⟨b21, 0, none⟩ = some (.int .i64 n46)) ∧ (
 st1 w62 b1 0 (vS r61.1) fun w63 =>
 st1 w63 b1 (0 + 1) (.bool true) fun w65 =>
 st1 w65 b1 (0 + 2) (vS ⟨some ⟨b59, 0, none⟩, 1, 1⟩) fun w66 =>
 ldS w66 b1 0 fun s67 =>
 ldB w66 b1 (0 + 1) fun b68 =>
 ldS w66 b1 (0 + 2) fun s69 =>
 R [.agg #[vS s67, .bool b68, vS s69]] w66)))) ∧ (
 al w45 3 [.int .i64 n46] fun b70 w71 =>
 cl Pg 36 [vS r36.1] [kS] w71 fun (r72 : Sl × Unit) w73 =>
(w73.cell? ⟨b21, 0, none⟩ = some (.int .i64 n46)) ∧ (
 cl Pg 40 [vS r72.1] [kS] w73 fun (r74 : Sl × Unit) w75 =>
(w75.cell? ⟨b21, 0, none⟩ = some (.int .i64 n46)) ∧ (
 st1 w75 b1 0 (vS r74.1) fun w76 =>
 st1 w76 b1 (0 + 1) (.bool true) fun w77 =>
 st1 w77 b1 (0 + 2) (vS ⟨some ⟨b70, 0, none⟩, 1, 1⟩) fun w78 =>
 ldS w78 b1 0 fun s79 =>
 ldB w78 b1 (0 + 1) fun b80 =>
 ldS w78 b1 (0 + 2) fun s81 =>
 R [.agg #[vS s79, .bool b80, vS s81]] w78)))))
theorem tie11 (a0 : Option Addr) (R : List Value → World → Prop) (w : World) : compF Pg Try.f11 ⟨[], [], [(7, .l [(0, []), (1, []), (2, []), (3, []), (4, []), (5, []), (6, [3, 5, 2, 4, 1, 0]), (7, [])]), (8, .l [(0, []), (1, []), (2, []), (3, []), (4, []), (5, []), (6, [3, 5, 2, 4, 1, 0])]), (9, .t [(0, []), (3, []), (4, [])] 1 [0] (.t [] 2 [1, 0] (.l [(5, [4, 3]), (6, []), (7, [6, 2, 0, 1, 3, 4, 5])]) 5 [4, 3] (.l [(2, [1, 0]), (6, []), (7, [6, 2, 0, 1, 3, 4, 5])])) 5 [4, 3] (.l [(1, [0]), (2, [1, 0]), (6, []), (7, [6, 2, 0, 1, 3, 4, 5])]))], []⟩ [.pointer a0] R w = sh11 a0 R w := by kernel_rfl
theorem call11 {a0 : Option Addr} {w : World} {K : TK [.a [.s, .b, .s]] → World → Prop} (h : sh11 a0 (fun vs w' => ∃ t, encK [.a [.s, .b, .s]] t = vs ∧ K t w') w) : cl Pg 11 [.pointer a0] [.a [.s, .b, .s]] w K := cl_of Try.func11 (tie11 ..) h
/-- (*detent/mbf.Buffer).Recv -/
def sh16 (a0 : Option Addr) (a1 : Int) (a2 : Int) (R : List Value → World → Prop) (w : World) : Prop :=
 al w 33 [.slice none 0 0, .bool false, .slice none 0 0] fun b1 w2 =>
 cl Pg 11 [.pointer a0] [.a [.s, .b, .s]] w2 fun (r3 : (Sl × Bool × Sl × Unit) × Unit) w4 =>
 al w4 33 [.slice none 0 0, .bool false, .slice none 0 0] fun b5 w6 =>
 st1 w6 b5 0 (vS r3.1.1) fun w7 =>
 st1 w7 b5 (0 + 1) (.bool r3.1.2.1) fun w8 =>
 st1 w8 b5 (0 + 2) (vS r3.1.2.2.1) fun w9 =>
 ldB w9 b5 (0 + 1) fun b10 =>
 cs b10 (
 ldS w9 b5 0 fun s11 =>
 ldB w9 b5 (0 + 1) fun b12 =>
 ldS w9 b5 (0 + 2) fun s13 =>
 st1 w9 b1 0 (vS s11) fun w14 =>
 st1 w14 b1 (0 + 1) (.bool b12) fun w15 =>
 st1 w15 b1 (0 + 2) (vS s13) fun w16 =>
 ldS w16 b1 0 fun s17 =>
 ldB w16 b1 (0 + 1) fun b18 =>
 ldS w16 b1 (0 + 2) fun s19 =>
 R [.agg #[vS s17, .bool b18, vS s19], .int .i64 0] w16) (
 nn a0 fun b20 o21 =>
 ldP w9 b20 (o21 + 3) fun p22 =>
 cl Pg 35 [.pointer p22, .int .i64 a1, .int .i64 a2] [kI] w9 fun (r23 : Int × Unit) w24 =>
 st1 w24 b1 0 (.slice none 0 0) fun w25 =>
 st1 w25 b1 (0 + 1) (.bool false) fun w26 =>
 st1 w26 b1 (0 + 2) (.slice none 0 0) fun w27 =>
 ldS w27 b1 0 fun s28 =>
 ldB w27 b1 (0 + 1) fun b29 =>
 ldS w27 b1 (0 + 2) fun s30 =>
 R [.agg #[vS s28, .bool b29, vS s30], .int .i64 r23.1] w27)
theorem tie16 (a0 : Option Addr) (a1 : Int) (a2 : Int) (R : List Value → World → Prop) (w : World) : compF Pg Try.f16 ⟨[], [], [], []⟩ [.pointer a0, .int .i64 a1, .int .i64 a2] R w = sh16 a0 a1 a2 R w := by kernel_rfl
theorem call16 {a0 : Option Addr} {a1 : Int} {a2 : Int} {w : World} {K : TK [.a [.s, .b, .s], kI] → World → Prop} (h : sh16 a0 a1 a2 (fun vs w' => ∃ t, encK [.a [.s, .b, .s], kI] t = vs ∧ K t w') w) : cl Pg 16 [.pointer a0, .int .i64 a1, .int .i64 a2] [.a [.s, .b, .s], kI] w K := cl_of Try.func16 (tie16 ..) h
/-- detent/detentlaw16.known -/
def sh8  (R : List Value → World → Prop) (w : World) : Prop :=
 cl Pg 9 [.bool false, .int .i64 8, .int .i64 16] [kP, kI] w fun (r1 : Option Addr × Int × Unit) w2 =>
 jn [kB] w2 (fun (t4 : Bool × Unit) w5 =>
 jn [kB] w5 (fun (t8 : Bool × Unit) w9 =>
 cs t8.1 (
 R [.bool false] w9) (
 al w9 5 [.int .u8 111, .int .u8 110, .int .u8 101] fun b11 w12 =>
 ef Pg (convert 28 28 (vS ⟨some ⟨b11, 0, none⟩, 3, 3⟩)) [kS] w12 fun (r13 : Sl × Unit) w14 =>
 cl Pg 10 [.pointer r1.1, .int .i64 1, .int .i64 5, vS r13.1] [kB, kI, kI] w14 fun (r15 : Bool × Int × Int × Unit) w16 =>
 al w16 5 [.int .u8 116, .int .u8 119, .int .u8 101, .int .u8 108, .int .u8 118, .int .u8 101] fun b17 w18 =>
 ef Pg (convert 28 28 (vS ⟨some ⟨b17, 0, none⟩, 6, 6⟩)) [kS] w18 fun (r19 : Sl × Unit) w20 =>
 cl Pg 10 [.pointer r1.1, .int .i64 2, .int .i64 5, vS r19.1] [kB, kI, kI] w20 fun (r21 : Bool × Int × Int × Unit) w22 =>
 cl Pg 16 [.pointer r1.1, .int .i64 3, .int .i64 5] [.a [.s, .b, .s], kI] w22 fun (r23 : (Sl × Bool × Sl × Unit) × Int × Unit) w24 =>
 al w24 33 [.slice none 0 0, .bool false, .slice none 0 0] fun b25 w26 =>
 st1 w26 b25 0 (vS r23.1.1) fun w27 =>
 st1 w27 b25 (0 + 1) (.bool r23.1.2.1) fun w28 =>
 st1 w28 b25 (0 + 2) (vS r23.1.2.2.1) fun w29 =>
 cl Pg 14 [.pointer r1.1, .slice none 0 0] [kB, kI, kI] w29 fun (r30 : Bool × Int × Int × Unit) w31 =>
 jn [kB] w31 (fun (t33 : Bool × Unit) w34 =>
 jn [kB] w34 (fun (t37 : Bool × Unit) w38 =>
 jn [kB] w38 (fun (t41 : Bool × Unit) w42 =>
 jn [kB] w42 (fun (t45 : Bool × Unit) w46 =>
 jn [kB] w46 (fun (t49 : Bool × Unit) w50 =>
 jn [kB] w50 (fun (t53 : Bool × Unit) w54 =>
 jn [kB] w54 (fun (t57 : Bool × Unit) w58 =>
 jn [kB] w58 (fun (t61 : Bool × Unit) w62 =>
 jn [kB] w62 (fun (t65 : Bool × Unit) w66 =>
 R [.bool t65.1] w66) fun J64 w67 =>
 cs t61.1 (
 cl Pg 12 [.pointer r1.1] [kS] w67 fun (r68 : Sl × Unit) w69 =>
 J64 (((r68.1.len : Int) : Int) == (0 : Int), ()) w69) (
 J64 (false, ()) w67)) fun J60 w63 =>
 cs t57.1 (
 nn r1.1 fun b70 o71 =>
 ldP w63 b70 o71 fun p72 =>
 cl Pg 15 [.pointer p72] [kI] w63 fun (r73 : Int × Unit) w74 =>
 J60 ((r73.1 : Int) == (1 : Int), ()) w74) (
 J60 (false, ()) w63)) fun J56 w59 =>
 cs t53.1 (
 J56 ((r30.2.2.1 : Int) == ((-17) : Int), ()) w59) (
 J56 (false, ()) w59)) fun J52 w55 =>
 cs t49.1 (
 ldS w55 b25 (0 + 2) fun s75 =>
 ix s75 0 1 fun b76 o77 =>
 ldI w55 .i64 b76 o77 fun n78 =>
 J52 ((n78 : Int) == (2 : Int), ()) w55) (
 J52 (false, ()) w55)) fun J48 w51 =>
 cs t45.1 (
 ldS w51 b25 (0 + 2) fun s79 =>
 J48 (((s79.len : Int) : Int) == (1 : Int), ()) w51) (
 J48 (false, ()) w51)) fun J44 w47 =>
 cs t41.1 (
 ldS w47 b25 0 fun s80 =>
 tx Pg 28 9 (vS s80) w47 fun g81 =>
 J44 (g81.toList == (bs [111, 110, 101]).toList, ()) w47) (
 J44 (false, ()) w47)) fun J40 w43 =>
 cs t37.1 (
 ldB w43 b25 (0 + 1) fun b82 =>
 J40 (b82, ()) w43) (
 J40 (false, ()) w43)) fun J36 w39 =>
 cs t33.1 (
 J36 (!r21.1, ()) w39) (
 J36 (false, ()) w39)) fun J32 w35 =>
 cs ((w64 ((w64 (r15.2.2.1 + r21.2.2.1)) + r23.2.1) : Int) == (0 : Int)) (
 J32 (r15.1, ()) w35) (
 J32 (false, ()) w35))) fun J7 w10 =>
 cs t4.1 (
 J7 (true, ()) w10) (
 nn r1.1 fun b83 o84 =>
 ldP w10 b83 o84 fun p85 =>
 J7 (p85.isNone, ()) w10)) fun J3 w6 =>
 cs ((r1.2.1 : Int) != (0 : Int)) (
 J3 (true, ()) w6) (
 J3 (r1.1.isNone, ()) w6)
theorem tie8  (R : List Value → World → Prop) (w : World) : compF Pg Try.f8 ⟨[], [], [], [(2, [(3, 3, ⟨[(23, kB)], [21, 22]⟩), (7, 6, ⟨[(30, kB)], [25, 26, 27, 28, 29]⟩)]), (8, [(7, 2, ⟨[(66, kB)], [65]⟩), (10, 3, ⟨[(70, kB)], [68, 69]⟩), (14, 3, ⟨[(74, kB)], [72, 73]⟩), (18, 5, ⟨[(80, kB)], [76, 77, 78, 79]⟩), (24, 5, ⟨[(86, kB)], [82, 83, 84, 85]⟩), (30, 6, ⟨[(93, kB)], [88, 89, 90, 91, 92]⟩), (37, 3, ⟨[(97, kB)], [95, 96]⟩), (41, 7, ⟨[(105, kB)], [99, 100, 101, 102, 103, 104]⟩), (49, 5, ⟨[(111, kB)], [107, 108, 109, 110]⟩)])]⟩ [] R w = sh8  R w := by kernel_rfl
theorem call8  {w : World} {K : TK [kB] → World → Prop} (h : sh8  (fun vs w' => ∃ t, encK [kB] t = vs ∧ K t w') w) : cl Pg 8 [] [kB] w K := cl_of Try.func8 (tie8 ..) h
/-- detent/detentlaw16.BufferOrder -/
def sh3 (a0 : Int) (a1 : Sl) (R : List Value → World → Prop) (w : World) : Prop :=
 cl Pg 8 [] [kB] w fun (r1 : Bool × Unit) w2 =>
 cs (!r1.1) (
 R [.bool false] w2) (
 jn [kB] w2 (fun (t4 : Bool × Unit) w5 =>
 jn [kB] w5 (fun (t8 : Bool × Unit) w9 =>
 jn [kB] w9 (fun (t12 : Bool × Unit) w13 =>
 cs t12.1 (
 R [.bool true] w13) (
 cl Pg 9 [.bool false, .int .i64 100, .int .i64 a0] [kP, kI] w13 fun (r15 : Option Addr × Int × Unit) w16 =>
 lp [kI] w16 ((0 : Int), ()) fun (t17 : Int × Unit) J18 w19 =>
 cs (decide ((t17.1 : Int) < ((a1.len : Int) : Int))) (
 ix a1 t17.1 1 fun b20 o21 =>
 ldS w19 b20 o21 fun s22 =>
 jn [kB] w19 (fun (t24 : Bool × Unit) w25 =>
 cs t24.1 (
 R [.bool true] w25) (
 ix a1 t17.1 1 fun b27 o28 =>
 ldS w25 b27 o28 fun s29 =>
 cl Pg 10 [.pointer r15.1, .int .i64 (w64 (t17.1 + 1)), .int .i64 1, vS s29] [kB, kI, kI] w25 fun (r30 : Bool × Int × Int × Unit) w31 =>
 jn [kB] w31 (fun (t33 : Bool × Unit) w34 =>
 cs t33.1 (
 R [.bool false] w34) (
 J18 (w64 (t17.1 + 1), ()) w34)) fun J32 w35 =>
 cs ((r30.2.1 : Int) != (0 : Int)) (
 J32 (true, ()) w35) (
 J32 ((r30.2.2.1 : Int) != (0 : Int), ()) w35))) fun J23 w26 =>
 cs (((s22.len : Int) : Int) == (0 : Int)) (
 J23 (true, ()) w26) (
 ix a1 t17.1 1 fun b36 o37 =>
 ldS w26 b36 o37 fun s38 =>
 J23 (decide (((s38.len : Int) : Int) > (100 : Int)), ()) w26)) (
 lp [kI] w19 ((0 : Int), ()) fun (t39 : Int × Unit) J40 w41 =>
 cs (decide ((t39.1 : Int) < ((a1.len : Int) : Int))) (
 cl Pg 11 [.pointer r15.1] [.a [.s, .b, .s]] w41 fun (r42 : (Sl × Bool × Sl × Unit) × Unit) w43 =>
 al w43 33 [.slice none 0 0, .bool false, .slice none 0 0] fun b44 w45 =>
 st1 w45 b44 0 (vS r42.1.1) fun w46 =>
 st1 w46 b44 (0 + 1) (.bool r42.1.2.1) fun w47 =>
 st1 w47 b44 (0 + 2) (vS r42.1.2.2.1) fun w48 =>
 dr w48 fun w49 =>
 jn [kB] w49 (fun (t51 : Bool × Unit) w52 =>
 cs t51.1 (
 R [.bool false] w52) (
 J40 (w64 (t39.1 + 1), ()) w52)) fun J50 w53 =>
 ldB w53 b44 (0 + 1) fun b54 =>
 cs (!b54) (
 J50 (true, ()) w53) (
 ldS w53 b44 0 fun s55 =>
 tx Pg 28 9 (vS s55) w53 fun g56 =>
 ix a1 t39.1 1 fun b57 o58 =>
 ldS w53 b57 o58 fun s59 =>
 tx Pg 28 9 (vS s59) w53 fun g60 =>
 J50 (!(g56.toList == g60.toList), ()) w53)) (
 cl Pg 11 [.pointer r15.1] [.a [.s, .b, .s]] w41 fun (r61 : (Sl × Bool × Sl × Unit) × Unit) w62 =>
 jn [kB] w62 (fun (t64 : Bool × Unit) w65 =>
 jn [kB] w65 (fun (t68 : Bool × Unit) w69 =>
 R [.bool t68.1] w69) fun J67 w70 =>
 cs t64.1 (
 nn r15.1 fun b71 o72 =>
 ldP w70 b71 o72 fun p73 =>
 cl Pg 13 [.pointer p73] [kI] w70 fun (r74 : Int × Unit) w75 =>
 J67 ((r74.1 : Int) == (a0 : Int), ()) w75) (
 J67 (false, ()) w70)) fun J63 w66 =>
 cs (!r61.1.2.1) (
 cl Pg 12 [.pointer r15.1] [kS] w66 fun (r76 : Sl × Unit) w77 =>
 J63 (((r76.1.len : Int) : Int) == (0 : Int), ()) w77) (
 J63 (false, ()) w66))))) fun J11 w14 =>
 cs t8.1 (
 J11 (true, ()) w14) (
 J11 (decide (((a1.len : Int) : Int) > (16 : Int)), ()) w14)) fun J7 w10 =>
 cs t4.1 (
 J7 (true, ()) w10) (
 J7 ((Int.tmod a0 4 : Int) != (0 : Int), ()) w10)) fun J3 w6 =>
 cs (decide ((a0 : Int) < (0 : Int))) (
 J3 (true, ()) w6) (
 J3 (decide ((a0 : Int) > (200 : Int)), ()) w6))
theorem tie3 (a0 : Int) (a1 : Sl) (R : List Value → World → Prop) (w : World) : compF Pg Try.f3 ⟨[(3, ⟨[(7, kI)], [4, 8, 9, 10, 36, 37, 38, 39, 40, 41, 42, 43, 44, 45, 46, 47, 48, 49, 50, 51, 52, 53, 54, 55, 56, 57, 58, 59, 60, 61, 62, 63, 64, 65, 66, 67, 68, 69, 70, 71, 72, 73]⟩), (9, ⟨[(11, kI)], [4, 12, 74, 75, 76, 77, 78, 79, 80, 81, 82, 83, 84, 85, 86, 87, 88, 89, 90, 91, 92, 93, 94, 95]⟩)], [(18, ⟨[(95, kB)], [82, 83, 84, 85, 86, 87, 88, 89, 90, 91, 92, 93, 94]⟩)], [(18, .l [(0, []), (1, []), (2, []), (3, []), (4, []), (5, []), (6, []), (7, []), (8, []), (9, []), (10, []), (11, []), (12, []), (13, [])])], [(3, [(3, 3, ⟨[(20, kB)], [18, 19]⟩), (7, 4, ⟨[(25, kB)], [22, 23, 24]⟩), (12, 4, ⟨[(30, kB)], [27, 28, 29]⟩)]), (9, [(7, 7, ⟨[(55, kB)], [49, 50, 51, 52, 53, 54]⟩)]), (12, [(3, 3, ⟨[(73, kB)], [71, 72]⟩)]), (20, [(5, 5, ⟨[(105, kB)], [101, 102, 103, 104]⟩), (11, 8, ⟨[(114, kB)], [107, 108, 109, 110, 111, 112, 113]⟩)])]⟩ [.int .i64 a0, vS a1] R w = sh3 a0 a1 R w := by kernel_rfl
theorem call3 {a0 : Int} {a1 : Sl} {w : World} {K : TK [kB] → World → Prop} (h : sh3 a0 a1 (fun vs w' => ∃ t, encK [kB] t = vs ∧ K t w') w) : cl Pg 3 [.int .i64 a0, vS a1] [kB] w K := cl_of Try.func3 (tie3 ..) h
/-- detent/detentlaw16.BufferFair -/
def sh4 (a0 : Int) (a1 : Int) (R : List Value → World → Prop) (w : World) : Prop :=
 cl Pg 8 [] [kB] w fun (r1 : Bool × Unit) w2 =>
 cs (!r1.1) (
 R [.bool false] w2) (
 cl Pg 9 [.bool false, .int .i64 100, .int .i64 100] [kP, kI] w2 fun (r3 : Option Addr × Int × Unit) w4 =>
 ef Pg (Instr.makeSlice 28 (.int .i64 40) (.int .i64 40)) [kS] w4 fun (r5 : Sl × Unit) w6 =>
 cl Pg 10 [.pointer r3.1, .int .i64 1, .int .i64 1, vS r5.1] [kB, kI, kI] w6 fun (r7 : Bool × Int × Int × Unit) w8 =>
 ef Pg (Instr.makeSlice 28 (.int .i64 (w64 (1 + (w64 (Int.tmod a0 100))))) (.int .i64 (w64 (1 + (w64 (Int.tmod a0 100)))))) [kS] w8 fun (r9 : Sl × Unit) w10 =>
 cl Pg 10 [.pointer r3.1, .int .i64 2, .int .i64 1, vS r9.1] [kB, kI, kI] w10 fun (r11 : Bool × Int × Int × Unit) w12 =>
 ef Pg (Instr.makeSlice 28 (.int .i64 (w64 (1 + (w64 (Int.tmod a1 100))))) (.int .i64 (w64 (1 + (w64 (Int.tmod a1 100)))))) [kS] w12 fun (r13 : Sl × Unit) w14 =>
 cl Pg 14 [.pointer r3.1, vS r13.1] [kB, kI, kI] w14 fun (r15 : Bool × Int × Int × Unit) w16 =>
 jn [kB] w16 (fun (t18 : Bool × Unit) w19 =>
 jn [kB] w19 (fun (t22 : Bool × Unit) w23 =>
 cs t22.1 (
 R [.bool false] w23) (
 cs (!(decide ((w64 ((w64 ((w64 (Int.tdiv (w64 ((w64 (1 + (w64 (Int.tmod a0 100)))) + 3)) 4)) * 4)) + 4) : Int) ≤ (56 : Int)))) (
 jn [kB] w23 (fun (t26 : Bool × Unit) w27 =>
 R [.bool t26.1] w27) fun J25 w28 =>
 cs (!r15.1) (
 cl Pg 12 [.pointer r3.1] [kS] w28 fun (r29 : Sl × Unit) w30 =>
 J25 (((r29.1.len : Int) : Int) == (1 : Int), ()) w30) (
 J25 (false, ()) w28)) (
 R [.bool (r15.1 == (decide ((w64 ((w64 ((w64 (Int.tdiv (w64 ((w64 (1 + (w64 (Int.tmod a1 100)))) + 3)) 4)) * 4)) + 4) : Int) ≤ (w64 ((w64 (56 - (w64 ((w64 (Int.tdiv (w64 ((w64 (1 + (w64 (Int.tmod a0 100)))) + 3)) 4)) * 4)))) - 4) : Int))))] w23))) fun J21 w24 =>
 cs t18.1 (
 J21 (true, ()) w24) (
 J21 ((r15.2.1 : Int) != (0 : Int), ()) w24)) fun J17 w20 =>
 cs ((w64 (r11.2.2.1 + r15.2.2.1) : Int) != (0 : Int)) (
 J17 (true, ()) w20) (
 J17 (!(r11.1 == (decide ((w64 ((w64 ((w64 (Int.tdiv (w64 ((w64 (1 + (w64 (Int.tmod a0 100)))) + 3)) 4)) * 4)) + 4) : Int) ≤ (56 : Int)))), ()) w20))
theorem tie4 (a0 : Int) (a1 : Int) (R : List Value → World → Prop) (w : World) : compF Pg Try.f4 ⟨[], [], [], [(10, [(5, 4, ⟨[(64, kB)], [61, 62, 63]⟩), (10, 3, ⟨[(68, kB)], [66, 67]⟩)]), (13, [(3, 5, ⟨[(78, kB)], [74, 75, 76, 77]⟩)])]⟩ [.int .u8 a0, .int .u8 a1] R w = sh4 a0 a1 R w := by kernel_rfl
theorem call4 {a0 : Int} {a1 : Int} {w : World} {K : TK [kB] → World → Prop} (h : sh4 a0 a1 (fun vs w' => ∃ t, encK [kB] t = vs ∧ K t w') w) : cl Pg 4 [.int .u8 a0, .int .u8 a1] [kB] w K := cl_of Try.func4 (tie4 ..) h
/-- detent/detentlaw16.BufferRefuses -/
def sh5 (a0 : Int) (a1 : Int) (R : List Value → World → Prop) (w : World) : Prop :=
 cl Pg 8 [] [kB] w fun (r1 : Bool × Unit) w2 =>
 cs (!r1.1) (
 R [.bool false] w2) (
 jn [kB] w2 (fun (t4 : Bool × Unit) w5 =>
 jn [kB] w5 (fun (t8 : Bool × Unit) w9 =>
 jn [kB] w9 (fun (t12 : Bool × Unit) w13 =>
 cs t12.1 (
 R [.bool true] w13) (
 cl Pg 9 [.bool true, .int .i64 a0, .int .i64 2048] [kP, kI] w13 fun (r15 : Option Addr × Int × Unit) w16 =>
 ef Pg (Instr.makeSlice 28 (.int .i64 a1) (.int .i64 a1)) [kS] w16 fun (r17 : Sl × Unit) w18 =>
 cl Pg 10 [.pointer r15.1, .int .i64 1, .int .i64 1, vS r17.1] [kB, kI, kI] w18 fun (r19 : Bool × Int × Int × Unit) w20 =>
 jn [kB] w20 (fun (t22 : Bool × Unit) w23 =>
 cs t22.1 (
 R [.bool false] w23) (
 jn [kB] w23 (fun (t26 : Bool × Unit) w27 =>
 cs t26.1 (
 jn [kB] w27 (fun (t30 : Bool × Unit) w31 =>
 jn [kB] w31 (fun (t34 : Bool × Unit) w35 =>
 jn [kB] w35 (fun (t38 : Bool × Unit) w39 =>
 R [.bool t38.1] w39) fun J37 w40 =>
 cs t34.1 (
 cl Pg 12 [.pointer r15.1] [kS] w40 fun (r41 : Sl × Unit) w42 =>
 J37 (((r41.1.len : Int) : Int) == (0 : Int), ()) w42) (
 J37 (false, ()) w40)) fun J33 w36 =>
 cs t30.1 (
 nn r15.1 fun b43 o44 =>
 ldP w36 b43 o44 fun p45 =>
 cl Pg 15 [.pointer p45] [kI] w36 fun (r46 : Int × Unit) w47 =>
 J33 ((r46.1 : Int) == (0 : Int), ()) w47) (
 J33 (false, ()) w36)) fun J29 w32 =>
 cs (!r19.1) (
 J29 ((r19.2.2.1 : Int) == ((-17) : Int), ()) w32) (
 J29 (false, ()) w32)) (
 jn [kB] w27 (fun (t49 : Bool × Unit) w50 =>
 jn [kB] w50 (fun (t53 : Bool × Unit) w54 =>
 R [.bool t53.1] w54) fun J52 w55 =>
 cs t49.1 (
 nn r15.1 fun b56 o57 =>
 ldP w55 b56 o57 fun p58 =>
 cl Pg 15 [.pointer p58] [kI] w55 fun (r59 : Int × Unit) w60 =>
 J52 ((r59.1 : Int) == (1 : Int), ()) w60) (
 J52 (false, ()) w55)) fun J48 w51 =>
 cs r19.1 (
 J48 ((r19.2.2.1 : Int) == (0 : Int), ()) w51) (
 J48 (false, ()) w51))) fun J25 w28 =>
 cs ((a1 : Int) == (0 : Int)) (
 J25 (true, ()) w28) (
 J25 (decide ((a1 : Int) > (a0 : Int)), ()) w28))) fun J21 w24 =>
 cs ((r15.2.1 : Int) != (0 : Int)) (
 J21 (true, ()) w24) (
 J21 ((r19.2.1 : Int) != (0 : Int), ()) w24))) fun J11 w14 =>
 cs t8.1 (
 J11 (true, ()) w14) (
 J11 (decide ((a1 : Int) > (1100 : Int)), ()) w14)) fun J7 w10 =>
 cs t4.1 (
 J7 (true, ()) w10) (
 J7 (decide ((a1 : Int) < (0 : Int)), ()) w10)) fun J3 w6 =>
 cs (decide ((a0 : Int) < (1 : Int))) (
 J3 (true, ()) w6) (
 J3 (decide ((a0 : Int) > (1024 : Int)), ()) w6))
theorem tie5 (a0 : Int) (a1 : Int) (R : List Value → World → Prop) (w : World) : compF Pg Try.f5 ⟨[], [], [], [(3, [(3, 3, ⟨[(17, kB)], [15, 16]⟩), (7, 3, ⟨[(21, kB)], [19, 20]⟩), (11, 3, ⟨[(25, kB)], [23, 24]⟩)]), (7, [(3, 3, ⟨[(44, kB)], [42, 43]⟩)]), (9, [(3, 4, ⟨[(51, kB)], [48, 49, 50]⟩)]), (10, [(3, 3, ⟨[(57, kB)], [55, 56]⟩), (7, 7, ⟨[(65, kB)], [59, 60, 61, 62, 63, 64]⟩), (15, 5, ⟨[(71, kB)], [67, 68, 69, 70]⟩)]), (11, [(2, 3, ⟨[(76, kB)], [74, 75]⟩), (6, 7, ⟨[(84, kB)], [78, 79, 80, 81, 82, 83]⟩)])]⟩ [.int .i64 a0, .int .i64 a1] R w = sh5 a0 a1 R w := by kernel_rfl
theorem call5 {a0 : Int} {a1 : Int} {w : World} {K : TK [kB] → World → Prop} (h : sh5 a0 a1 (fun vs w' => ∃ t, encK [kB] t = vs ∧ K t w') w) : cl Pg 5 [.int .i64 a0, .int .i64 a1] [kB] w K := cl_of Try.func5 (tie5 ..) h
/-- (*detent/mbf.Buffer).Receivers -/
def sh17 (a0 : Option Addr) (R : List Value → World → Prop) (w : World) : Prop :=
 nn a0 fun b1 o2 =>
 ldP w b1 (o2 + 3) fun p3 =>
 cl Pg 41 [.pointer p3] [kS] w fun (r4 : Sl × Unit) w5 =>
 R [vS r4.1] w5
theorem tie17 (a0 : Option Addr) (R : List Value → World → Prop) (w : World) : compF Pg Try.f17 ⟨[], [], [], []⟩ [.pointer a0] R w = sh17 a0 R w := by kernel_rfl
theorem call17 {a0 : Option Addr} {w : World} {K : TK [kS] → World → Prop} (h : sh17 a0 (fun vs w' => ∃ t, encK [kS] t = vs ∧ K t w') w) : cl Pg 17 [.pointer a0] [kS] w K := cl_of Try.func17 (tie17 ..) h
/-- detent/detentlaw16.BufferHands -/
def sh6 (a0 : Sl) (a1 : Bool) (R : List Value → World → Prop) (w : World) : Prop :=
 cl Pg 8 [] [kB] w fun (r1 : Bool × Unit) w2 =>
 cs (!r1.1) (
 R [.bool false] w2) (
 cs (decide (((a0.len : Int) : Int) > (8 : Int))) (
 R [.bool true] w2) (
 cl Pg 9 [.bool false, .int .i64 100, .int .i64 0] [kP, kI] w2 fun (r3 : Option Addr × Int × Unit) w4 =>
 lp [kI] w4 ((0 : Int), ()) fun (t5 : Int × Unit) J6 w7 =>
 cs (decide ((t5.1 : Int) < ((a0.len : Int) : Int))) (
 ix a0 t5.1 1 fun b8 o9 =>
 ldS w7 b8 o9 fun s10 =>
 jn [kB] w7 (fun (t12 : Bool × Unit) w13 =>
 cs t12.1 (
 R [.bool true] w13) (
 cs a1 (
 ix a0 t5.1 1 fun b15 o16 =>
 ldS w13 b15 o16 fun s17 =>
 cl Pg 10 [.pointer r3.1, .int .i64 (w64 (t5.1 + 1)), .int .i64 1, vS s17] [kB, kI, kI] w13 fun (r18 : Bool × Int × Int × Unit) w19 =>
 jn [kB] w19 (fun (t21 : Bool × Unit) w22 =>
 jn [kB] w22 (fun (t25 : Bool × Unit) w26 =>
 cs t25.1 (
 R [.bool false] w26) (
 J6 (w64 (t5.1 + 1), ()) w26)) fun J24 w27 =>
 cs t21.1 (
 J24 (true, ()) w27) (
 J24 ((r18.2.2.1 : Int) != (0 : Int), ()) w27)) fun J20 w23 =>
 cs r18.1 (
 J20 (true, ()) w23) (
 J20 ((r18.2.1 : Int) != (0 : Int), ()) w23)) (
 cl Pg 16 [.pointer r3.1, .int .i64 (w64 (t5.1 + 1)), .int .i64 1] [.a [.s, .b, .s], kI] w13 fun (r28 : (Sl × Bool × Sl × Unit) × Int × Unit) w29 =>
 al w29 33 [.slice none 0 0, .bool false, .slice none 0 0] fun b30 w31 =>
 st1 w31 b30 0 (vS r28.1.1) fun w32 =>
 st1 w32 b30 (0 + 1) (.bool r28.1.2.1) fun w33 =>
 st1 w33 b30 (0 + 2) (vS r28.1.2.2.1) fun w34 =>
 ldB w34 b30 (0 + 1) fun b35 =>
 jn [kB] w34 (fun (t37 : Bool × Unit) w38 =>
 cs t37.1 (
 R [.bool false] w38) (
 J6 (w64 (t5.1 + 1), ()) w38)) fun J36 w39 =>
 cs b35 (
 J36 (true, ()) w39) (
 J36 ((r28.2.1 : Int) != (0 : Int), ()) w39)))) fun J11 w14 =>
 cs (((s10.len : Int) : Int) == (0 : Int)) (
 J11 (true, ()) w14) (
 ix a0 t5.1 1 fun b40 o41 =>
 ldS w14 b40 o41 fun s42 =>
 J11 (decide (((s42.len : Int) : Int) > (100 : Int)), ()) w14)) (
 lp [kI] w7 ((0 : Int), ()) fun (t43 : Int × Unit) J44 w45 =>
 cs (decide ((t43.1 : Int) < ((a0.len : Int) : Int))) (
 cs a1 (
 cl Pg 16 [.pointer r3.1, .int .i64 (w64 (t43.1 + 9)), .int .i64 1] [.a [.s, .b, .s], kI] w45 fun (r46 : (Sl × Bool × Sl × Unit) × Int × Unit) w47 =>
 al w47 33 [.slice none 0 0, .bool false, .slice none 0 0] fun b48 w49 =>
 st1 w49 b48 0 (vS r46.1.1) fun w50 =>
 st1 w50 b48 (0 + 1) (.bool r46.1.2.1) fun w51 =>
 st1 w51 b48 (0 + 2) (vS r46.1.2.2.1) fun w52 =>
 dr w52 fun w53 =>
 jn [kB] w53 (fun (t55 : Bool × Unit) w56 =>
 cs t55.1 (
 R [.bool false] w56) (
 J44 (w64 (t43.1 + 1), ()) w56)) fun J54 w57 =>
 ldB w57 b48 (0 + 1) fun b58 =>
 cs (!b58) (
 J54 (true, ()) w57) (
 ldS w57 b48 0 fun s59 =>
 tx Pg 28 9 (vS s59) w57 fun g60 =>
 ix a0 t43.1 1 fun b61 o62 =>
 ldS w57 b61 o62 fun s63 =>
 tx Pg 28 9 (vS s63) w57 fun g64 =>
 cs (!(g60.toList == g64.toList)) (
 J54 (true, ()) w57) (
 ldS w57 b48 (0 + 2) fun s65 =>
 cs (((s65.len : Int) : Int) != (1 : Int)) (
 J54 (true, ()) w57) (
 ldS w57 b48 (0 + 2) fun s66 =>
 ix s66 0 1 fun b67 o68 =>
 ldI w57 .i64 b67 o68 fun n69 =>
 cs ((n69 : Int) != (w64 (t43.1 + 1) : Int)) (
 J54 (true, ()) w57) (
 J54 ((r46.2.1 : Int) != (0 : Int), ()) w57))))) (
 ix a0 t43.1 1 fun b70 o71 =>
 ldS w45 b70 o71 fun s72 =>
 cl Pg 10 [.pointer r3.1, .int .i64 (w64 (t43.1 + 9)), .int .i64 1, vS s72] [kB, kI, kI] w45 fun (r73 : Bool × Int × Int × Unit) w74 =>
 jn [kB] w74 (fun (t76 : Bool × Unit) w77 =>
 jn [kB] w77 (fun (t80 : Bool × Unit) w81 =>
 cs t80.1 (
 R [.bool false] w81) (
 J44 (w64 (t43.1 + 1), ()) w81)) fun J79 w82 =>
 cs t76.1 (
 J79 (true, ()) w82) (
 J79 ((r73.2.2.1 : Int) != (0 : Int), ()) w82)) fun J75 w78 =>
 cs (!r73.1) (
 J75 (true, ()) w78) (
 J75 ((r73.2.1 : Int) != (w64 (t43.1 + 1) : Int), ()) w78))) (
 cl Pg 12 [.pointer r3.1] [kS] w45 fun (r83 : Sl × Unit) w84 =>
 cl Pg 17 [.pointer r3.1] [kS] w84 fun (r85 : Sl × Unit) w86 =>
 jn [kB] w86 (fun (t88 : Bool × Unit) w89 =>
 R [.bool t88.1] w89) fun J87 w90 =>
 cs ((w64 ((r83.1.len : Int) + (r85.1.len : Int)) : Int) == (0 : Int)) (
 nn r3.1 fun b91 o92 =>
 ldP w90 b91 o92 fun p93 =>
 cl Pg 15 [.pointer p93] [kI] w90 fun (r94 : Int × Unit) w95 =>
 J87 ((r94.1 : Int) == (0 : Int), ()) w95) (
 J87 (false, ()) w90)))))
theorem tie6 (a0 : Sl) (a1 : Bool) (R : List Value → World → Prop) (w : World) : compF Pg Try.f6 ⟨[(3, ⟨[(7, kI)], [4, 8, 9, 10, 11, 12, 28, 29, 30, 31, 32, 33, 34, 35, 36, 37, 38, 39, 40, 41, 42, 43, 44, 45, 46, 47, 48, 49, 50, 51, 52, 53, 54, 55, 56, 57, 58, 59, 60, 61, 62, 63, 64, 65, 66, 67, 68, 69, 70, 71, 72, 73, 74, 75, 76, 77, 78, 79, 80, 81, 82]⟩), (11, ⟨[(13, kI)], [4, 14, 15, 16, 17, 18, 83, 84, 85, 86, 87, 88, 89, 90, 91, 92, 93, 94, 95, 96, 97, 98, 99, 100, 101, 102, 103, 104, 105, 106, 107, 108, 109, 110, 111, 112, 113, 114, 115, 116, 117, 118, 119, 120, 121, 122, 123, 124, 125, 126, 127, 128, 129, 130, 131, 132, 133, 134, 135, 136, 137, 138, 139, 140, 141, 142, 143, 144, 145, 146, 147, 148, 149, 150, 151, 152, 153]⟩)], [(23, ⟨[(129, kB)], [97, 98, 99, 100, 101, 102, 103, 104, 105, 106, 107, 108, 109, 110, 111, 112, 113, 114, 115, 116, 117, 118, 119, 120, 121, 122, 123, 124, 125, 126, 127, 128]⟩)], [(23, .l [(0, []), (1, []), (2, []), (3, []), (4, []), (5, []), (6, []), (7, []), (8, []), (9, []), (10, []), (11, []), (12, []), (13, []), (14, []), (15, []), (16, []), (17, []), (18, []), (19, []), (20, []), (21, []), (22, []), (23, []), (24, []), (25, []), (26, []), (27, []), (28, []), (29, []), (30, []), (31, []), (32, [])])], [(9, [(7, 7, ⟨[(47, kB)], [41, 42, 43, 44, 45, 46]⟩)]), (13, [(2, 3, ⟨[(65, kB)], [63, 64]⟩), (6, 3, ⟨[(69, kB)], [67, 68]⟩)]), (16, [(3, 3, ⟨[(82, kB)], [80, 81]⟩)]), (26, [(3, 5, ⟨[(149, kB)], [145, 146, 147, 148]⟩), (9, 3, ⟨[(153, kB)], [151, 152]⟩)]), (28, [(9, 7, ⟨[(169, kB)], [163, 164, 165, 166, 167, 168]⟩)])]⟩ [vS a0, .bool a1] R w = sh6 a0 a1 R w := by kernel_rfl
theorem call6 {a0 : Sl} {a1 : Bool} {w : World} {K : TK [kB] → World → Prop} (h : sh6 a0 a1 (fun vs w' => ∃ t, encK [kB] t = vs ∧ K t w') w) : cl Pg 6 [vS a0, .bool a1] [kB] w K := cl_of Try.func6 (tie6 ..) h
/-- detent/detentref6.New -/
def sh45 (a0 : Int) (R : List Value → World → Prop) (w : World) : Prop :=
 jn [kB] w (fun (t2 : Bool × Unit) w3 =>
 jn [kB] w3 (fun (t6 : Bool × Unit) w7 =>
 cs t6.1 (
 R [.pointer none, .int .i64 (-17)] w7) (
 al w7 71 [.int .i64 a0, .slice none 0 0] fun b9 w10 =>
 R [.pointer (some ⟨b9, 0, none⟩), .int .i64 0] w10)) fun J5 w8 =>
 cs t2.1 (
 J5 (true, ()) w8) (
 J5 ((Int.tmod a0 4 : Int) != (0 : Int), ()) w8)) fun J1 w4 =>
 cs (decide ((a0 : Int) < (0 : Int))) (
 J1 (true, ()) w4) (
 J1 (decide ((a0 : Int) > (65536 : Int)), ()) w4)
theorem tie45 (a0 : Int) (R : List Value → World → Prop) (w : World) : compF Pg Try.f45 ⟨[], [], [], [(1, [(3, 3, ⟨[(9, kB)], [7, 8]⟩), (7, 4, ⟨[(14, kB)], [11, 12, 13]⟩)])]⟩ [.int .i64 a0] R w = sh45 a0 R w := by kernel_rfl
theorem call45 {a0 : Int} {w : World} {K : TK [kP, kI] → World → Prop} (h : sh45 a0 (fun vs w' => ∃ t, encK [kP, kI] t = vs ∧ K t w') w) : cl Pg 45 [.int .i64 a0] [kP, kI] w K := cl_of Try.func45 (tie45 ..) h
/-- detent/detentref16.New -/
def sh18 (a0 : Bool) (a1 : Int) (a2 : Int) (R : List Value → World → Prop) (w : World) : Prop :=
 jn [kB] w (fun (t2 : Bool × Unit) w3 =>
 cs t2.1 (
 R [.pointer none, .int .i64 (-17)] w3) (
 cl Pg 45 [.int .i64 a2] [kP, kI] w3 fun (r5 : Option Addr × Int × Unit) w6 =>
 cs ((r5.2.1 : Int) != (0 : Int)) (
 R [.pointer none, .int .i64 r5.2.1] w6) (
 al w6 104 [.bool a0, .slice none 0 0] fun b7 w8 =>
 al w8 104 [.bool false, .slice none 0 0] fun b9 w10 =>
 al w10 76 [.pointer r5.1, .pointer (some ⟨b7, 0, none⟩), .pointer (some ⟨b9, 0, none⟩), .string ByteArray.empty, .string ByteArray.empty, .string ByteArray.empty, .string ByteArray.empty, .string ByteArray.empty, .string ByteArray.empty, .string ByteArray.empty, .string ByteArray.empty, .string ByteArray.empty, .string ByteArray.empty, .string ByteArray.empty, .string ByteArray.empty, .string ByteArray.empty, .string ByteArray.empty, .string ByteArray.empty, .string ByteArray.empty, .string ByteArray.empty, .int .i64 a1] fun b11 w12 =>
 R [.pointer (some ⟨b11, 0, none⟩), .int .i64 0] w12))) fun J1 w4 =>
 cs (decide ((a1 : Int) < (1 : Int))) (
 J1 (true, ()) w4) (
 J1 (decide ((a1 : Int) > (1024 : Int)), ()) w4)
theorem tie18 (a0 : Bool) (a1 : Int) (a2 : Int) (R : List Value → World → Prop) (w : World) : compF Pg Try.f18 ⟨[], [], [], [(1, [(3, 3, ⟨[(15, kB)], [13, 14]⟩)])]⟩ [.bool a0, .int .i64 a1, .int .i64 a2] R w = sh18 a0 a1 a2 R w := by kernel_rfl
theorem call18 {a0 : Bool} {a1 : Int} {a2 : Int} {w : World} {K : TK [kP, kI] → World → Prop} (h : sh18 a0 a1 a2 (fun vs w' => ∃ t, encK [kP, kI] t = vs ∧ K t w') w) : cl Pg 18 [.bool a0, .int .i64 a1, .int .i64 a2] [kP, kI] w K := cl_of Try.func18 (tie18 ..) h
/-- (*detent/detentref4.Queue).Take -/
def sh49 (a0 : Option Addr) (R : List Value → World → Prop) (w : World) : Prop :=
 al w 107 [.int .i64 0, .int .i64 0] fun b1 w2 =>
 nn a0 fun b3 o4 =>
 ldS w2 b3 (o4 + 1) fun s5 =>
 cs (((s5.len : Int) : Int) == (0 : Int)) (
 st1 w2 b1 0 (.int .i64 0) fun w6 =>
 st1 w6 b1 (0 + 1) (.int .i64 0) fun w7 =>
 ldI w7 .i64 b1 0 fun n8 =>
 ldI w7 .i64 b1 (0 + 1) fun n9 =>
 R [.agg #[.int .i64 n8, .int .i64 n9], .bool false] w7) (
 nn a0 fun b10 o11 =>
 ldS w2 b10 (o11 + 1) fun s12 =>
 ix s12 0 2 fun b13 o14 =>
 ldI w2 .i64 b13 o14 fun n15 =>
 ldI w2 .i64 b13 (o14 + 1) fun n16 =>
 al w2 107 [.int .i64 0, .int .i64 0] fun b17 w18 =>
 st1 w18 b17 0 (.int .i64 n15) fun w19 =>
 st1 w19 b17 (0 + 1) (.int .i64 n16) fun w20 =>
 al w20 107 [] fun b21 w22 =>
 nn a0 fun b23 o24 =>
 ldS w22 b23 (o24 + 1) fun s25 =>
 sb s25 1 s25.len s25.cap 2 fun s26 =>
 ef Pg (Builtin.append_ #[102, 102] 102 #[vS ⟨some ⟨b21, 0, none⟩, 0, 0⟩, vS s26]) [kS] w22 fun (r27 : Sl × Unit) w28 =>
 nn a0 fun b29 o30 =>
 st1 w28 b29 (o30 + 1) (vS r27.1) fun w31 =>
 ldI w31 .i64 b17 0 fun n32 =>
 ldI w31 .i64 b17 (0 + 1) fun n33 =>
 st1 w31 b1 0 (.int .i64 n32) fun w34 =>
 st1 w34 b1 (0 + 1) (.int .i64 n33) fun w35 =>
 ldI w35 .i64 b1 0 fun n36 =>
 ldI w35 .i64 b1 (0 + 1) fun n37 =>
 R [.agg #[.int .i64 n36, .int .i64 n37], .bool true] w35)
theorem tie49 (a0 : Option Addr) (R : List Value → World → Prop) (w : World) : compF Pg Try.f49 ⟨[], [], [], []⟩ [.pointer a0] R w = sh49 a0 R w := by kernel_rfl
theorem call49 {a0 : Option Addr} {w : World} {K : TK [.a [(.i .i64), (.i .i64)], kB] → World → Prop} (h : sh49 a0 (fun vs w' => ∃ t, encK [.a [(.i .i64), (.i .i64)], kB] t = vs ∧ K t w') w) : cl Pg 49 [.pointer a0] [.a [(.i .i64), (.i .i64)], kB] w K := cl_of Try.func49 (tie49 ..) h
/-- detent/detentref1.Align -/
def sh80 (a0 : Int) (a1 : Int) (R : List Value → World → Prop) (w : World) : Prop :=
 jn [kB] w (fun (t2 : Bool × Unit) w3 =>
 jn [kB] w3 (fun (t6 : Bool × Unit) w7 =>
 jn [kB] w7 (fun (t10 : Bool × Unit) w11 =>
 jn [kB] w11 (fun (t14 : Bool × Unit) w15 =>
 cs t14.1 (
 R [.int .i64 a0] w15) (
 ob (a1 ≠ 0) (
 R [.int .i64 (w64 ((w64 (a0 + a1)) - (Int.tmod a0 a1)))] w15))) fun J13 w16 =>
 cs t10.1 (
 J13 (true, ()) w16) (
 ob (a1 ≠ 0) (
 J13 ((Int.tmod a0 a1 : Int) == (0 : Int), ()) w16))) fun J9 w12 =>
 cs t6.1 (
 J9 (true, ()) w12) (
 J9 (decide ((a1 : Int) > (4096 : Int)), ()) w12)) fun J5 w8 =>
 cs t2.1 (
 J5 (true, ()) w8) (
 J5 (decide ((a1 : Int) < (1 : Int)), ()) w8)) fun J1 w4 =>
 cs (decide ((a0 : Int) < (0 : Int))) (
 J1 (true, ()) w4) (
 J1 (decide ((a0 : Int) > (1073741824 : Int)), ()) w4)
theorem tie80 (a0 : Int) (a1 : Int) (R : List Value → World → Prop) (w : World) : compF Pg Try.f80 ⟨[], [], [], [(1, [(3, 3, ⟨[(10, kB)], [8, 9]⟩), (7, 3, ⟨[(14, kB)], [12, 13]⟩), (11, 3, ⟨[(18, kB)], [16, 17]⟩), (15, 5, ⟨[(24, kB)], [20, 21, 22, 23]⟩)])]⟩ [.int .i64 a0, .int .i64 a1] R w = sh80 a0 a1 R w := by kernel_rfl
theorem call80 {a0 : Int} {a1 : Int} {w : World} {K : TK [kI] → World → Prop} (h : sh80 a0 a1 (fun vs w' => ∃ t, encK [kI] t = vs ∧ K t w') w) : cl Pg 80 [.int .i64 a0, .int .i64 a1] [kI] w K := cl_of Try.func80 (tie80 ..) h
/-- detent/detentref6.takes -/
def sh60 (a0 : Int) (R : List Value → World → Prop) (w : World) : Prop :=
 cl Pg 80 [.int .i64 a0, .int .i64 4] [kI] w fun (r1 : Int × Unit) w2 =>
 R [.int .i64 (w64 (4 + r1.1))] w2
theorem tie60 (a0 : Int) (R : List Value → World → Prop) (w : World) : compF Pg Try.f60 ⟨[], [], [], []⟩ [.int .i64 a0] R w = sh60 a0 R w := by kernel_rfl
theorem call60 {a0 : Int} {w : World} {K : TK [kI] → World → Prop} (h : sh60 a0 (fun vs w' => ∃ t, encK [kI] t = vs ∧ K t w') w) : cl Pg 60 [.int .i64 a0] [kI] w K := cl_of Try.func60 (tie60 ..) h
/-- (*detent/detentref6.Ring).Free -/
def sh30 (a0 : Option Addr) (R : List Value → World → Prop) (w : World) : Prop :=
 nn a0 fun b1 o2 =>
 ldI w .i64 b1 o2 fun n3 =>
 lp [kI, kI] w (n3, (0 : Int), ()) fun (t4 : Int × Int × Unit) J5 w6 =>
 nn a0 fun b7 o8 =>
 ldS w6 b7 (o8 + 1) fun s9 =>
 cs (decide ((t4.2.1 : Int) < ((s9.len : Int) : Int))) (
 nn a0 fun b10 o11 =>
 ldS w6 b10 (o11 + 1) fun s12 =>
 ix s12 t4.2.1 1 fun b13 o14 =>
 ldG w6 b13 o14 fun g15 =>
 cl Pg 60 [.int .i64 (g15.size : Int)] [kI] w6 fun (r16 : Int × Unit) w17 =>
 J5 (w64 (t4.1 - r16.1), w64 (t4.2.1 + 1), ()) w17) (
 R [.int .i64 t4.1] w6)
theorem tie30 (a0 : Option Addr) (R : List Value → World → Prop) (w : World) : compF Pg Try.f30 ⟨[(1, ⟨[(3, kI), (4, kI)], [9, 10, 11, 12, 13, 14, 15, 16, 17, 18, 19, 20, 21, 22, 23, 24, 25, 26, 27, 28]⟩)], [], [], []⟩ [.pointer a0] R w = sh30 a0 R w := by kernel_rfl
theorem call30 {a0 : Option Addr} {w : World} {K : TK [kI] → World → Prop} (h : sh30 a0 (fun vs w' => ∃ t, encK [kI] t = vs ∧ K t w') w) : cl Pg 30 [.pointer a0] [kI] w K := cl_of Try.func30 (tie30 ..) h
/-- (*detent/detentref6.Ring).Fits -/
def sh75 (a0 : Option Addr) (a1 : Int) (R : List Value → World → Prop) (w : World) : Prop :=
 jn [kB] w (fun (t2 : Bool × Unit) w3 =>
 jn [kB] w3 (fun (t6 : Bool × Unit) w7 =>
 R [.bool t6.1] w7) fun J5 w8 =>
 cs t2.1 (
 cl Pg 60 [.int .i64 a1] [kI] w8 fun (r9 : Int × Unit) w10 =>
 cl Pg 30 [.pointer a0] [kI] w10 fun (r11 : Int × Unit) w12 =>
 J5 (decide ((r9.1 : Int) ≤ (r11.1 : Int)), ()) w12) (
 J5 (false, ()) w8)) fun J1 w4 =>
 cs (decide ((a1 : Int) ≥ (0 : Int))) (
 J1 (decide ((a1 : Int) ≤ (1024 : Int)), ()) w4) (
 J1 (false, ()) w4)
theorem tie75 (a0 : Option Addr) (a1 : Int) (R : List Value → World → Prop) (w : World) : compF Pg Try.f75 ⟨[], [], [], [(1, [(3, 3, ⟨[(10, kB)], [8, 9]⟩), (7, 6, ⟨[(17, kB)], [12, 13, 14, 15, 16]⟩)])]⟩ [.pointer a0, .int .i64 a1] R w = sh75 a0 a1 R w := by kernel_rfl
theorem call75 {a0 : Option Addr} {a1 : Int} {w : World} {K : TK [kB] → World → Prop} (h : sh75 a0 a1 (fun vs w' => ∃ t, encK [kB] t = vs ∧ K t w') w) : cl Pg 75 [.pointer a0, .int .i64 a1] [kB] w K := cl_of Try.func75 (tie75 ..) h
/-- (*detent/detentref6.Ring).Put -/
def sh50 (a0 : Option Addr) (a1 : Sl) (R : List Value → World → Prop) (w : World) : Prop :=
 cl Pg 75 [.pointer a0, .int .i64 (a1.len : Int)] [kB] w fun (r1 : Bool × Unit) w2 =>
 cs (!r1.1) (
 R [.bool false] w2) (
 dr w2 fun w3 =>
 nn a0 fun b4 o5 =>
 ldS w3 b4 (o5 + 1) fun s6 =>
 tx Pg 28 9 (vS a1) w3 fun g7 =>
(
 al w3 9 [] fun b8 w9 =>
((convert 28 9 (vS a1)).run Pg w9 = .ok (.string g7) w9) ∧ (
(w9.cell? ⟨b4, o5 + 1, none⟩ = some (vS s6)) ∧ (
(
 ef Pg (Builtin.append_ #[69, 69] 69 #[vS ⟨some ⟨b8, 0, none⟩, 0, 0⟩, vS s6]) [kS] w9 fun (r10 : Sl × Unit) w11 =>
((convert 28 9 (vS a1)).run Pg w11 = .ok (.string g7) w11) ∧ (
 al w11 9 [.string g7] fun b12 w13 =>
(w13.cell? ⟨b4, o5 + 1, none⟩ = some (vS s6)) ∧ (
 ef Pg (Builtin.append_ #[69, 69] 69 #[vS r10.1, vS ⟨some ⟨b12, 0, none⟩, 1, 1⟩]) [kS] w13 fun (r14 : Sl × Unit) w15 =>
 nn a0 fun b16 o17 =>
 st1 w15 b16 (o17 + 1) (vS r14.1) fun w18 =>
 R [.bool true] w18))) ∧ (
 al w9 9 [.string g7] fun b19 w20 =>
(w20.cell? ⟨b4, o5 + 1, none⟩ = some (vS s6)) ∧ (
 ef Pg (Builtin.append_ #[69, 69] 69 #[vS ⟨some ⟨b8, 0, none⟩, 0, 0⟩, vS s6]) [kS] w20 fun (r21 : Sl × Unit) w22 =>
((convert 28 9 (vS a1)).run Pg w22 = .ok (.string g7) w22) ∧ (
 ef Pg (Builtin.append_ #[69, 69] 69 #[vS r21.1, vS ⟨some ⟨b19, 0, none⟩, 1, 1⟩]) [kS] w22 fun (r23 : Sl × Unit) w24 =>
 nn a0 fun b25 o26 =>
 st1 w24 b25 (o26 + 1) (vS r23.1) fun w27 =>
 R [.bool true] w27)))))) ∧ (
 al w3 9 [.string g7] fun b28 w29 =>
(w29.cell? ⟨b4, o5 + 1, none⟩ = some (vS s6)) ∧ (
 al w29 9 [] fun b30 w31 =>
((convert 28 9 (vS a1)).run Pg w31 = .ok (.string g7) w31) ∧ (
(w31.cell? ⟨b4, o5 + 1, none⟩ = some (vS s6)) ∧ (
 ef Pg (Builtin.append_ #[69, 69] 69 #[vS ⟨some ⟨b30, 0, none⟩, 0, 0⟩, vS s6]) [kS] w31 fun (r32 : Sl × Unit) w33 =>
((convert 28 9 (vS a1)).run Pg w33 = .ok (.string g7) w33) ∧ (
 ef Pg (Builtin.append_ #[69, 69] 69 #[vS r32.1, vS ⟨some ⟨b28, 0, none⟩, 1, 1⟩]) [kS] w33 fun (r34 : Sl × Unit) w35 =>
 nn a0 fun b36 o37 =>
 st1 w35 b36 (o37 + 1) (vS r34.1) fun w38 =>
 R [.bool true] w38))))))
theorem tie50 (a0 : Option Addr) (a1 : Sl) (R : List Value → World → Prop) (w : World) : compF Pg Try.f50 ⟨[], [], [(3, .t [(0, []), (2, []), (3, []), (4, []), (5, []), (7, []), (8, [])] 1 [] (.t [] 6 [1, 5, 4, 3, 2] (.l [(9, [8, 7]), (10, [6, 9, 1, 5, 8, 4, 7, 3, 2]), (11, []), (12, []), (13, [12, 10, 0, 1, 2, 3, 4, 5, 6, 7, 8, 9, 11])]) 9 [8, 7] (.l [(6, [1, 5, 4, 3, 2]), (10, [6, 9, 1, 5, 8, 4, 7, 3, 2]), (11, []), (12, []), (13, [12, 10, 0, 1, 2, 3, 4, 5, 6, 7, 8, 9, 11])])) 9 [8, 7] (.l [(1, []), (6, [1, 5, 4, 3, 2]), (10, [6, 9, 1, 5, 8, 4, 7, 3, 2]), (11, []), (12, []), (13, [12, 10, 0, 1, 2, 3, 4, 5, 6, 7, 8, 9, 11])]))], []⟩ [.pointer a0, vS a1] R w = sh50 a0 a1 R w := by kernel_rfl
theorem call50 {a0 : Option Addr} {a1 : Sl} {w : World} {K : TK [kB] → World → Prop} (h : sh50 a0 a1 (fun vs w' => ∃ t, encK [kB] t = vs ∧ K t w') w) : cl Pg 50 [.pointer a0, vS a1] [kB] w K := cl_of Try.func50 (tie50 ..) h
/-- (*detent/detentref16.Buffer).TrySend -/
def sh20 (a0 : Option Addr) (a1 : Sl) (R : List Value → World → Prop) (w : World) : Prop :=
 jn [kB] w (fun (t2 : Bool × Unit) w3 =>
 cs t2.1 (
 R [.bool false, .int .i64 0, .int .i64 (-17)] w3) (
 nn a0 fun b5 o6 =>
 ldP w3 b5 (o6 + 2) fun p7 =>
 cl Pg 49 [.pointer p7] [.a [(.i .i64), (.i .i64)], kB] w3 fun (r8 : (Int × Int × Unit) × Bool × Unit) w9 =>
 al w9 107 [.int .i64 0, .int .i64 0] fun b10 w11 =>
 st1 w11 b10 0 (.int .i64 r8.1.1) fun w12 =>
 st1 w12 b10 (0 + 1) (.int .i64 r8.1.2.1) fun w13 =>
 cs r8.2.1 (
 dr w13 fun w14 =>
 ldI w14 .i64 b10 0 fun n15 =>
 R [.bool true, .int .i64 n15, .int .i64 0] w14) (
 nn a0 fun b16 o17 =>
 ldP w13 b16 (o17 + 1) fun p18 =>
 nn p18 fun b19 o20 =>
 ldS w13 b19 (o20 + 1) fun s21 =>
 jn [kB] w13 (fun (t23 : Bool × Unit) w24 =>
 R [.bool t23.1, .int .i64 0, .int .i64 0] w24) fun J22 w25 =>
 cs (((s21.len : Int) : Int) == (0 : Int)) (
 nn a0 fun b26 o27 =>
 ldP w25 b26 o27 fun p28 =>
 cl Pg 50 [.pointer p28, vS a1] [kB] w25 fun (r29 : Bool × Unit) w30 =>
 J22 (r29.1, ()) w30) (
 J22 (false, ()) w25)))) fun J1 w4 =>
 cs (((a1.len : Int) : Int) == (0 : Int)) (
 J1 (true, ()) w4) (
 nn a0 fun b31 o32 =>
 ldI w4 .i64 b31 (o32 + 20) fun n33 =>
 J1 (decide (((a1.len : Int) : Int) > (n33 : Int)), ()) w4)
theorem tie20 (a0 : Option Addr) (a1 : Sl) (R : List Value → World → Prop) (w : World) : compF Pg Try.f20 ⟨[], [], [(5, .l [(0, []), (1, []), (2, []), (3, []), (4, [])])], [(1, [(4, 8, ⟨[(20, kB)], [13, 14, 15, 16, 17, 18, 19]⟩)]), (6, [(10, 7, ⟨[(48, kB)], [42, 43, 44, 45, 46, 47]⟩)])]⟩ [.pointer a0, vS a1] R w = sh20 a0 a1 R w := by kernel_rfl
theorem call20 {a0 : Option Addr} {a1 : Sl} {w : World} {K : TK [kB, kI, kI] → World → Prop} (h : sh20 a0 a1 (fun vs w' => ∃ t, encK [kB, kI, kI] t = vs ∧ K t w') w) : cl Pg 20 [.pointer a0, vS a1] [kB, kI, kI] w K := cl_of Try.func20 (tie20 ..) h
/-- detent/detentref4.Good -/
def sh46 (a0 : Int) (a1 : Int) (R : List Value → World → Prop) (w : World) : Prop :=
 jn [kB] w (fun (t2 : Bool × Unit) w3 =>
 jn [kB] w3 (fun (t6 : Bool × Unit) w7 =>
 jn [kB] w7 (fun (t10 : Bool × Unit) w11 =>
 R [.bool t10.1] w11) fun J9 w12 =>
 cs t6.1 (
 J9 (decide ((a1 : Int) ≤ (16 : Int)), ()) w12) (
 J9 (false, ()) w12)) fun J5 w8 =>
 cs t2.1 (
 J5 (decide ((a1 : Int) ≥ (1 : Int)), ()) w8) (
 J5 (false, ()) w8)) fun J1 w4 =>
 cs (decide ((a0 : Int) ≥ (1 : Int))) (
 J1 (decide ((a0 : Int) ≤ (16 : Int)), ()) w4) (
 J1 (false, ()) w4)
theorem tie46 (a0 : Int) (a1 : Int) (R : List Value → World → Prop) (w : World) : compF Pg Try.f46 ⟨[], [], [], [(1, [(3, 3, ⟨[(10, kB)], [8, 9]⟩), (7, 3, ⟨[(14, kB)], [12, 13]⟩), (11, 3, ⟨[(18, kB)], [16, 17]⟩)])]⟩ [.int .i64 a0, .int .i64 a1] R w = sh46 a0 a1 R w := by kernel_rfl
theorem call46 {a0 : Int} {a1 : Int} {w : World} {K : TK [kB] → World → Prop} (h : sh46 a0 a1 (fun vs w' => ∃ t, encK [kB] t = vs ∧ K t w') w) : cl Pg 46 [.int .i64 a0, .int .i64 a1] [kB] w K := cl_of Try.func46 (tie46 ..) h
/-- (*detent/detentref4.Queue).At -/
def sh47 (a0 : Option Addr) (a1 : Int) (R : List Value → World → Prop) (w : World) : Prop :=
 lp [kI] w ((0 : Int), ()) fun (t1 : Int × Unit) J2 w3 =>
 nn a0 fun b4 o5 =>
 ldS w3 b4 (o5 + 1) fun s6 =>
 cs (decide ((t1.1 : Int) < ((s6.len : Int) : Int))) (
 nn a0 fun b7 o8 =>
 ldS w3 b7 (o8 + 1) fun s9 =>
 ix s9 t1.1 2 fun b10 o11 =>
 ldI w3 .i64 b10 o11 fun n12 =>
 cs ((n12 : Int) == (a1 : Int)) (
 R [.int .i64 t1.1] w3) (
 J2 (w64 (t1.1 + 1), ()) w3)) (
 R [.int .i64 (-1)] w3)
theorem tie47 (a0 : Option Addr) (a1 : Int) (R : List Value → World → Prop) (w : World) : compF Pg Try.f47 ⟨[(1, ⟨[(5, kI)], [4, 6, 7, 8, 9, 10, 11, 12, 13, 14, 15, 16, 17, 18, 19, 20, 21, 22, 23, 24, 25]⟩)], [], [], []⟩ [.pointer a0, .int .i64 a1] R w = sh47 a0 a1 R w := by kernel_rfl
theorem call47 {a0 : Option Addr} {a1 : Int} {w : World} {K : TK [kI] → World → Prop} (h : sh47 a0 a1 (fun vs w' => ∃ t, encK [kI] t = vs ∧ K t w') w) : cl Pg 47 [.pointer a0, .int .i64 a1] [kI] w K := cl_of Try.func47 (tie47 ..) h
/-- (*detent/detentref4.Queue).put -/
def sh74 (a0 : Option Addr) (a1 : (Int × Int × Unit)) (R : List Value → World → Prop) (w : World) : Prop :=
 al w 107 [.int .i64 a1.1, .int .i64 a1.2.1] fun b1 w2 =>
 nn a0 fun b3 o4 =>
 ldS w2 b3 (o4 + 1) fun s5 =>
 nn a0 fun b6 o7 =>
 ldB w2 b6 o7 fun b8 =>
 jn [kI] w2 (fun (t10 : Int × Unit) w11 =>
 dr w11 fun w13 =>
 nn a0 fun b14 o15 =>
 ldS w13 b14 (o15 + 1) fun s16 =>
 sb s16 0 t10.1 s16.cap 2 fun s17 =>
 ldI w13 .i64 b1 0 fun n18 =>
 ldI w13 .i64 b1 (0 + 1) fun n19 =>
(
 al w13 107 [] fun b20 w21 =>
(w21.cell? ⟨b1, 0, none⟩ = some (.int .i64 n18) ∧ w21.cell? ⟨b1, 0 + 1, none⟩ = some (.int .i64 n19)) ∧ (
(w21.cell? ⟨b14, o15 + 1, none⟩ = some (vS s16)) ∧ (
(
 ef Pg (Builtin.append_ #[102, 102] 102 #[vS ⟨some ⟨b20, 0, none⟩, 0, 0⟩, vS s17]) [kS] w21 fun (r22 : Sl × Unit) w23 =>
(w23.cell? ⟨b1, 0, none⟩ = some (.int .i64 n18) ∧ w23.cell? ⟨b1, 0 + 1, none⟩ = some (.int .i64 n19)) ∧ (
 al w23 107 [.int .i64 n18, .int .i64 n19] fun b24 w25 =>
(w25.cell? ⟨b14, o15 + 1, none⟩ = some (vS s16)) ∧ (
 ef Pg (Builtin.append_ #[102, 102] 102 #[vS r22.1, vS ⟨some ⟨b24, 0, none⟩, 1, 1⟩]) [kS] w25 fun (r26 : Sl × Unit) w27 =>
 nn a0 fun b28 o29 =>
 ldS w27 b28 (o29 + 1) fun s30 =>
 sb s30 t10.1 s30.len s30.cap 2 fun s31 =>
 ef Pg (Builtin.append_ #[102, 102] 102 #[vS r26.1, vS s31]) [kS] w27 fun (r32 : Sl × Unit) w33 =>
 nn a0 fun b34 o35 =>
 st1 w33 b34 (o35 + 1) (vS r32.1) fun w36 =>
 R [] w36))) ∧ (
 al w21 107 [.int .i64 n18, .int .i64 n19] fun b37 w38 =>
(w38.cell? ⟨b14, o15 + 1, none⟩ = some (vS s16)) ∧ (
 ef Pg (Builtin.append_ #[102, 102] 102 #[vS ⟨some ⟨b20, 0, none⟩, 0, 0⟩, vS s17]) [kS] w38 fun (r39 : Sl × Unit) w40 =>
(w40.cell? ⟨b1, 0, none⟩ = some (.int .i64 n18) ∧ w40.cell? ⟨b1, 0 + 1, none⟩ = some (.int .i64 n19)) ∧ (
 ef Pg (Builtin.append_ #[102, 102] 102 #[vS r39.1, vS ⟨some ⟨b37, 0, none⟩, 1, 1⟩]) [kS] w40 fun (r41 : Sl × Unit) w42 =>
 nn a0 fun b43 o44 =>
 ldS w42 b43 (o44 + 1) fun s45 =>
 sb s45 t10.1 s45.len s45.cap 2 fun s46 =>
 ef Pg (Builtin.append_ #[102, 102] 102 #[vS r41.1, vS s46]) [kS] w42 fun (r47 : Sl × Unit) w48 =>
 nn a0 fun b49 o50 =>
 st1 w48 b49 (o50 + 1) (vS r47.1) fun w51 =>
 R [] w51)))))) ∧ (
 al w13 107 [.int .i64 n18, .int .i64 n19] fun b52 w53 =>
(w53.cell? ⟨b14, o15 + 1, none⟩ = some (vS s16)) ∧ (
 al w53 107 [] fun b54 w55 =>
(w55.cell? ⟨b1, 0, none⟩ = some (.int .i64 n18) ∧ w55.cell? ⟨b1, 0 + 1, none⟩ = some (.int .i64 n19)) ∧ (
(w55.cell? ⟨b14, o15 + 1, none⟩ = some (vS s16)) ∧ (
 ef Pg (Builtin.append_ #[102, 102] 102 #[vS ⟨some ⟨b54, 0, none⟩, 0, 0⟩, vS s17]) [kS] w55 fun (r56 : Sl × Unit) w57 =>
(w57.cell? ⟨b1, 0, none⟩ = some (.int .i64 n18) ∧ w57.cell? ⟨b1, 0 + 1, none⟩ = some (.int .i64 n19)) ∧ (
 ef Pg (Builtin.append_ #[102, 102] 102 #[vS r56.1, vS ⟨some ⟨b52, 0, none⟩, 1, 1⟩]) [kS] w57 fun (r58 : Sl × Unit) w59 =>
 nn a0 fun b60 o61 =>
 ldS w59 b60 (o61 + 1) fun s62 =>
 sb s62 t10.1 s62.len s62.cap 2 fun s63 =>
 ef Pg (Builtin.append_ #[102, 102] 102 #[vS r58.1, vS s63]) [kS] w59 fun (r64 : Sl × Unit) w65 =>
 nn a0 fun b66 o67 =>
 st1 w65 b66 (o67 + 1) (vS r64.1) fun w68 =>
 R [] w68)))))) fun J9 w12 =>
 cs b8 (
 lp [kI] w12 ((s5.len : Int), ()) fun (t69 : Int × Unit) J70 w71 =>
 dr w71 fun w72 =>
 jn [kB] w72 (fun (t74 : Bool × Unit) w75 =>
 cs t74.1 (
 J70 (w64 (t69.1 - 1), ()) w75) (
 J9 (t69.1, ()) w75)) fun J73 w76 =>
 cs (decide ((t69.1 : Int) > (0 : Int))) (
 nn a0 fun b77 o78 =>
 ldS w76 b77 (o78 + 1) fun s79 =>
 ix s79 (w64 (t69.1 - 1)) 2 fun b80 o81 =>
 ldI w76 .i64 b80 (o81 + 1) fun n82 =>
 ldI w76 .i64 b1 (0 + 1) fun n83 =>
 J73 (decide ((n82 : Int) > (n83 : Int)), ()) w76) (
 J73 (false, ()) w76)) (
 J9 ((s5.len : Int), ()) w12)
theorem tie74 (a0 : Option Addr) (a1 : (Int × Int × Unit)) (R : List Value → World → Prop) (w : World) : compF Pg Try.f74 ⟨[(0, ⟨[(4, kI)], [15, 16, 17, 18, 19, 20, 21, 22, 23, 24, 25, 26, 27, 28, 29, 30, 31, 32]⟩), (2, ⟨[(4, kI)], [15, 16, 17, 18, 19, 20, 21, 22, 23, 24, 25, 26, 27, 28, 29, 30, 31, 32]⟩)], [(3, ⟨[(30, kB)], [15, 16, 17, 18, 19, 20, 21, 22, 23, 24, 25, 26, 27, 28, 29]⟩)], [(5, .t [(1, []), (2, []), (3, []), (4, []), (5, []), (6, []), (8, [])] 0 [] (.t [] 7 [0, 6, 4, 5, 3, 2, 1] (.l [(9, [8]), (10, [7, 9, 0, 6, 8, 4, 5, 3, 2, 1]), (11, [])]) 9 [8] (.l [(7, [0, 6, 4, 5, 3, 2, 1]), (10, [7, 9, 0, 6, 8, 4, 5, 3, 2, 1]), (11, [])])) 9 [8] (.l [(0, []), (7, [0, 6, 4, 5, 3, 2, 1]), (10, [7, 9, 0, 6, 8, 4, 5, 3, 2, 1]), (11, [])])), (3, .l [(0, []), (1, []), (2, []), (3, []), (4, []), (5, []), (6, []), (7, []), (8, []), (9, []), (10, []), (11, []), (12, []), (13, []), (14, []), (15, [])])], []⟩ [.pointer a0, .agg #[.int .i64 a1.1, .int .i64 a1.2.1]] R w = sh74 a0 a1 R w := by kernel_rfl
theorem call74 {a0 : Option Addr} {a1 : (Int × Int × Unit)} {w : World} {K : TK [] → World → Prop} (h : sh74 a0 a1 (fun vs w' => ∃ t, encK [] t = vs ∧ K t w') w) : cl Pg 74 [.pointer a0, .agg #[.int .i64 a1.1, .int .i64 a1.2.1]] [] w K := cl_of Try.func74 (tie74 ..) h
/-- (*detent/detentref4.Queue).Add -/
def sh48 (a0 : Option Addr) (a1 : Int) (a2 : Int) (R : List Value → World → Prop) (w : World) : Prop :=
 cl Pg 46 [.int .i64 a1, .int .i64 a2] [kB] w fun (r1 : Bool × Unit) w2 =>
 cs (!r1.1) (
 R [.int .i64 (-17)] w2) (
 cl Pg 47 [.pointer a0, .int .i64 a1] [kI] w2 fun (r3 : Int × Unit) w4 =>
 cs (decide ((r3.1 : Int) ≥ (0 : Int))) (
 R [.int .i64 (-41)] w4) (
 cl Pg 74 [.pointer a0, .agg #[.int .i64 a1, .int .i64 a2]] [] w4 fun (r5 : Unit) w6 =>
 R [.int .i64 0] w6))
theorem tie48 (a0 : Option Addr) (a1 : Int) (a2 : Int) (R : List Value → World → Prop) (w : World) : compF Pg Try.f48 ⟨[], [], [], []⟩ [.pointer a0, .int .i64 a1, .int .i64 a2] R w = sh48 a0 a1 a2 R w := by kernel_rfl
theorem call48 {a0 : Option Addr} {a1 : Int} {a2 : Int} {w : World} {K : TK [kI] → World → Prop} (h : sh48 a0 a1 a2 (fun vs w' => ∃ t, encK [kI] t = vs ∧ K t w') w) : cl Pg 48 [.pointer a0, .int .i64 a1, .int .i64 a2] [kI] w K := cl_of Try.func48 (tie48 ..) h
/-- (*detent/detentref16.Buffer).Send -/
def sh19 (a0 : Option Addr) (a1 : Int) (a2 : Int) (a3 : Sl) (R : List Value → World → Prop) (w : World) : Prop :=
 cl Pg 20 [.pointer a0, vS a3] [kB, kI, kI] w fun (r1 : Bool × Int × Int × Unit) w2 =>
 jn [kB] w2 (fun (t4 : Bool × Unit) w5 =>
 cs t4.1 (
 R [.bool r1.1, .int .i64 r1.2.1, .int .i64 r1.2.2.1] w5) (
 cl Pg 46 [.int .i64 a1, .int .i64 a2] [kB] w5 fun (r7 : Bool × Unit) w8 =>
 cs (!r7.1) (
 R [.bool false, .int .i64 0, .int .i64 (-17)] w8) (
 nn a0 fun b9 o10 =>
 ldP w8 b9 (o10 + 2) fun p11 =>
 cl Pg 47 [.pointer p11, .int .i64 a1] [kI] w8 fun (r12 : Int × Unit) w13 =>
 cs (decide ((r12.1 : Int) ≥ (0 : Int))) (
 R [.bool false, .int .i64 0, .int .i64 (-41)] w13) (
 nn a0 fun b14 o15 =>
 ldP w13 b14 (o15 + 1) fun p16 =>
 cl Pg 48 [.pointer p16, .int .i64 a1, .int .i64 a2] [kI] w13 fun (r17 : Int × Unit) w18 =>
 jn [] w18 (fun (t20 : Unit) w21 =>
 R [.bool false, .int .i64 0, .int .i64 r17.1] w21) fun J19 w22 =>
 cs ((r17.1 : Int) == (0 : Int)) (
 dr w22 fun w23 =>
 tx Pg 28 9 (vS a3) w23 fun g24 =>
 nn a0 fun b25 o26 =>
 ixA b25 (o26 + 3) 17 a1 1 fun b27 o28 =>
 st1 w23 b27 o28 (.string g24) fun w29 =>
 J19 () w29) (
 J19 () w22))))) fun J3 w6 =>
 cs r1.1 (
 J3 (true, ()) w6) (
 J3 ((r1.2.2.1 : Int) != (0 : Int), ()) w6)
theorem tie19 (a0 : Option Addr) (a1 : Int) (a2 : Int) (a3 : Sl) (R : List Value → World → Prop) (w : World) : compF Pg Try.f19 ⟨[(3, ⟨[], [50, 51, 52, 53, 54, 55, 56]⟩)], [], [(10, .l [(0, []), (1, []), (2, []), (3, []), (4, []), (5, []), (6, []), (7, [6, 3, 0, 1, 2, 5, 4])])], [(2, [(2, 3, ⟨[(26, kB)], [24, 25]⟩)])]⟩ [.pointer a0, .int .i64 a1, .int .i64 a2, vS a3] R w = sh19 a0 a1 a2 a3 R w := by kernel_rfl
theorem call19 {a0 : Option Addr} {a1 : Int} {a2 : Int} {a3 : Sl} {w : World} {K : TK [kB, kI, kI] → World → Prop} (h : sh19 a0 a1 a2 a3 (fun vs w' => ∃ t, encK [kB, kI, kI] t = vs ∧ K t w') w) : cl Pg 19 [.pointer a0, .int .i64 a1, .int .i64 a2, vS a3] [kB, kI, kI] w K := cl_of Try.func19 (tie19 ..) h
/-- (*detent/detentref6.Ring).Get -/
def sh51 (a0 : Option Addr) (R : List Value → World → Prop) (w : World) : Prop :=
 nn a0 fun b1 o2 =>
 ldS w b1 (o2 + 1) fun s3 =>
 cs (((s3.len : Int) : Int) == (0 : Int)) (
 R [.slice none 0 0, .bool false] w) (
 nn a0 fun b4 o5 =>
 ldS w b4 (o5 + 1) fun s6 =>
 ix s6 0 1 fun b7 o8 =>
 ldG w b7 o8 fun g9 =>
 ef Pg (convert 9 28 (.string g9)) [kS] w fun (r10 : Sl × Unit) w11 =>
 al w11 9 [] fun b12 w13 =>
 nn a0 fun b14 o15 =>
 ldS w13 b14 (o15 + 1) fun s16 =>
 sb s16 1 s16.len s16.cap 1 fun s17 =>
 ef Pg (Builtin.append_ #[69, 69] 69 #[vS ⟨some ⟨b12, 0, none⟩, 0, 0⟩, vS s17]) [kS] w13 fun (r18 : Sl × Unit) w19 =>
 nn a0 fun b20 o21 =>
 st1 w19 b20 (o21 + 1) (vS r18.1) fun w22 =>
 R [vS r10.1, .bool true] w22)
theorem tie51 (a0 : Option Addr) (R : List Value → World → Prop) (w : World) : compF Pg Try.f51 ⟨[], [], [], []⟩ [.pointer a0] R w = sh51 a0 R w := by kernel_rfl
theorem call51 {a0 : Option Addr} {w : World} {K : TK [kS, kB] → World → Prop} (h : sh51 a0 (fun vs w' => ∃ t, encK [kS, kB] t = vs ∧ K t w') w) : cl Pg 51 [.pointer a0] [kS, kB] w K := cl_of Try.func51 (tie51 ..) h
/-- (*detent/detentref16.Buffer).fill -/
def sh52 (a0 : Option Addr) (R : List Value → World → Prop) (w : World) : Prop :=
 lp [kS] w (⟨none, 0, 0⟩, ()) fun (t1 : Sl × Unit) J2 w3 =>
 dr w3 fun w4 =>
 jn [kB] w4 (fun (t6 : Bool × Unit) w7 =>
 cs t6.1 (
 nn a0 fun b9 o10 =>
 ldP w7 b9 (o10 + 1) fun p11 =>
 cl Pg 49 [.pointer p11] [.a [(.i .i64), (.i .i64)], kB] w7 fun (r12 : (Int × Int × Unit) × Bool × Unit) w13 =>
 al w13 107 [.int .i64 0, .int .i64 0] fun b14 w15 =>
 st1 w15 b14 0 (.int .i64 r12.1.1) fun w16 =>
 st1 w16 b14 (0 + 1) (.int .i64 r12.1.2.1) fun w17 =>
 ldI w17 .i64 b14 0 fun n18 =>
 al w17 3 [.int .i64 n18] fun b19 w20 =>
 ef Pg (Builtin.append_ #[31, 31] 31 #[vS t1.1, vS ⟨some ⟨b19, 0, none⟩, 1, 1⟩]) [kS] w20 fun (r21 : Sl × Unit) w22 =>
 J2 (r21.1, ()) w22) (
 R [vS t1.1] w7)) fun J5 w8 =>
 nn a0 fun b23 o24 =>
 ldP w8 b23 (o24 + 1) fun p25 =>
 nn p25 fun b26 o27 =>
 ldS w8 b26 (o27 + 1) fun s28 =>
 cs (decide (((s28.len : Int) : Int) > (0 : Int))) (
 nn a0 fun b29 o30 =>
 ldP w8 b29 o30 fun p31 =>
 nn a0 fun b32 o33 =>
 ldP w8 b32 (o33 + 1) fun p34 =>
 nn p34 fun b35 o36 =>
 ldS w8 b35 (o36 + 1) fun s37 =>
 ix s37 0 2 fun b38 o39 =>
 ldI w8 .i64 b38 o39 fun n40 =>
 nn a0 fun b41 o42 =>
 ixA b41 (o42 + 3) 17 n40 1 fun b43 o44 =>
 ldG w8 b43 o44 fun g45 =>
 ef Pg (convert 9 28 (.string g45)) [kS] w8 fun (r46 : Sl × Unit) w47 =>
(w47.cell? ⟨b29, o30, none⟩ = some (.pointer p31)) ∧ (
 cl Pg 50 [.pointer p31, vS r46.1] [kB] w47 fun (r48 : Bool × Unit) w49 =>
 J5 (r48.1, ()) w49)) (
 J5 (false, ()) w8)
theorem tie52 (a0 : Option Addr) (R : List Value → World → Prop) (w : World) : compF Pg Try.f52 ⟨[(1, ⟨[(3, kS)], [4, 5, 6, 7, 8, 9, 10, 11, 12, 13, 14, 15, 16, 17, 18, 19, 20, 21, 22, 23, 24, 25, 26, 27, 28, 29, 30, 31, 32, 33, 34, 35, 36, 37, 38, 39, 40, 41, 42, 43, 44, 45, 46, 47, 48, 49, 50]⟩)], [(2, ⟨[(37, kB)], [6, 7, 8, 9, 10, 11, 12, 13, 14, 15, 16, 17, 18, 19, 20, 21, 22, 23, 24, 25, 26, 27, 28, 29, 30, 31, 32, 33, 34, 35, 36]⟩)], [(2, .l [(0, []), (1, []), (2, []), (3, []), (4, []), (5, []), (6, []), (7, []), (8, []), (9, []), (10, []), (11, []), (12, []), (13, []), (14, []), (15, []), (16, []), (17, []), (18, []), (19, []), (20, []), (21, []), (22, []), (23, []), (24, []), (25, []), (26, []), (27, []), (28, []), (29, [28, 9, 27, 8, 26, 24, 7, 25, 23, 6, 14, 22, 5, 21, 4, 20, 3, 19, 2, 18, 1, 17, 0, 16, 15]), (30, [13, 29, 9, 12, 28, 8, 11, 27, 7, 10, 26, 24, 6, 25, 23, 5, 14, 22, 4, 21, 3, 20, 2, 19, 1, 18, 0, 17, 16, 15]), (31, [])])], []⟩ [.pointer a0] R w = sh52 a0 R w := by kernel_rfl
theorem call52 {a0 : Option Addr} {w : World} {K : TK [kS] → World → Prop} (h : sh52 a0 (fun vs w' => ∃ t, encK [kS] t = vs ∧ K t w') w) : cl Pg 52 [.pointer a0] [kS] w K := cl_of Try.func52 (tie52 ..) h
/-- (*detent/detentref16.Buffer).TryRecv -/
def sh23 (a0 : Option Addr) (R : List Value → World → Prop) (w : World) : Prop :=
 al w 59 [.string ByteArray.empty, .bool false, .slice none 0 0] fun b1 w2 =>
 nn a0 fun b3 o4 =>
 ldP w2 b3 o4 fun p5 =>
 cl Pg 51 [.pointer p5] [kS, kB] w2 fun (r6 : Sl × Bool × Unit) w7 =>
 cs r6.2.1 (
 dr w7 fun w8 =>
 tx Pg 28 9 (vS r6.1) w8 fun g9 =>
 cl Pg 52 [.pointer a0] [kS] w8 fun (r10 : Sl × Unit) w11 =>
((convert 28 9 (vS r6.1)).run Pg w11 = .ok (.string g9) w11) ∧ (
 st1 w11 b1 0 (.string g9) fun w12 =>
 st1 w12 b1 (0 + 1) (.bool true) fun w13 =>
 st1 w13 b1 (0 + 2) (vS r10.1) fun w14 =>
 ldG w14 b1 0 fun g15 =>
 ldB w14 b1 (0 + 1) fun b16 =>
 ldS w14 b1 (0 + 2) fun s17 =>
 R [.agg #[.string g15, .bool b16, vS s17]] w14)) (
 nn a0 fun b18 o19 =>
 ldP w7 b18 (o19 + 1) fun p20 =>
 cl Pg 49 [.pointer p20] [.a [(.i .i64), (.i .i64)], kB] w7 fun (r21 : (Int × Int × Unit) × Bool × Unit) w22 =>
 al w22 107 [.int .i64 0, .int .i64 0] fun b23 w24 =>
 st1 w24 b23 0 (.int .i64 r21.1.1) fun w25 =>
 st1 w25 b23 (0 + 1) (.int .i64 r21.1.2.1) fun w26 =>
 cs r21.2.1 (
 dr w26 fun w27 =>
 ldI w27 .i64 b23 0 fun n28 =>
 nn a0 fun b29 o30 =>
 ixA b29 (o30 + 3) 17 n28 1 fun b31 o32 =>
 ldG w27 b31 o32 fun g33 =>
 ldI w27 .i64 b23 0 fun n34 =>
 al w27 3 [.int .i64 n34] fun b35 w36 =>
(w36.cell? ⟨b31, o32, none⟩ = some (.string g33)) ∧ (
(w36.cell? ⟨b23, 0, none⟩ = some (.int .i64 n28)) ∧ (
 st1 w36 b1 0 (.string g33) fun w37 =>
 st1 w37 b1 (0 + 1) (.bool true) fun w38 =>
 st1 w38 b1 (0 + 2) (vS ⟨some ⟨b35, 0, none⟩, 1, 1⟩) fun w39 =>
 ldG w39 b1 0 fun g40 =>
 ldB w39 b1 (0 + 1) fun b41 =>
 ldS w39 b1 (0 + 2) fun s42 =>
 R [.agg #[.string g40, .bool b41, vS s42]] w39))) (
 st1 w26 b1 0 (.string ByteArray.empty) fun w43 =>
 st1 w43 b1 (0 + 1) (.bool false) fun w44 =>
 st1 w44 b1 (0 + 2) (.slice none 0 0) fun w45 =>
 ldG w45 b1 0 fun g46 =>
 ldB w45 b1 (0 + 1) fun b47 =>
 ldS w45 b1 (0 + 2) fun s48 =>
 R [.agg #[.string g46, .bool b47, vS s48]] w45))
theorem tie23 (a0 : Option Addr) (R : List Value → World → Prop) (w : World) : compF Pg Try.f23 ⟨[], [], [(3, .l [(0, []), (1, []), (2, []), (3, [2]), (4, []), (5, [4, 3, 0, 1, 2])]), (6, .l [(0, []), (1, []), (2, []), (3, []), (4, []), (5, []), (6, []), (7, []), (8, []), (9, [8, 7]), (10, []), (11, [10, 0, 1, 2, 3, 4, 5, 6, 7, 8, 9])])], []⟩ [.pointer a0] R w = sh23 a0 R w := by kernel_rfl
theorem call23 {a0 : Option Addr} {w : World} {K : TK [.a [.g, .b, .s]] → World → Prop} (h : sh23 a0 (fun vs w' => ∃ t, encK [.a [.g, .b, .s]] t = vs ∧ K t w') w) : cl Pg 23 [.pointer a0] [.a [.g, .b, .s]] w K := cl_of Try.func23 (tie23 ..) h
/-- (*detent/detentref16.Buffer).Recv -/
def sh21 (a0 : Option Addr) (a1 : Int) (a2 : Int) (R : List Value → World → Prop) (w : World) : Prop :=
 al w 59 [.string ByteArray.empty, .bool false, .slice none 0 0] fun b1 w2 =>
 cl Pg 23 [.pointer a0] [.a [.g, .b, .s]] w2 fun (r3 : (ByteArray × Bool × Sl × Unit) × Unit) w4 =>
 al w4 59 [.string ByteArray.empty, .bool false, .slice none 0 0] fun b5 w6 =>
 st1 w6 b5 0 (.string r3.1.1) fun w7 =>
 st1 w7 b5 (0 + 1) (.bool r3.1.2.1) fun w8 =>
 st1 w8 b5 (0 + 2) (vS r3.1.2.2.1) fun w9 =>
 ldB w9 b5 (0 + 1) fun b10 =>
 cs b10 (
 ldG w9 b5 0 fun g11 =>
 ldB w9 b5 (0 + 1) fun b12 =>
 ldS w9 b5 (0 + 2) fun s13 =>
 st1 w9 b1 0 (.string g11) fun w14 =>
 st1 w14 b1 (0 + 1) (.bool b12) fun w15 =>
 st1 w15 b1 (0 + 2) (vS s13) fun w16 =>
 ldG w16 b1 0 fun g17 =>
 ldB w16 b1 (0 + 1) fun b18 =>
 ldS w16 b1 (0 + 2) fun s19 =>
 R [.agg #[.string g17, .bool b18, vS s19], .int .i64 0] w16) (
 cl Pg 46 [.int .i64 a1, .int .i64 a2] [kB] w9 fun (r20 : Bool × Unit) w21 =>
 cs (!r20.1) (
 ldG w21 b5 0 fun g22 =>
 ldB w21 b5 (0 + 1) fun b23 =>
 ldS w21 b5 (0 + 2) fun s24 =>
 st1 w21 b1 0 (.string g22) fun w25 =>
 st1 w25 b1 (0 + 1) (.bool b23) fun w26 =>
 st1 w26 b1 (0 + 2) (vS s24) fun w27 =>
 ldG w27 b1 0 fun g28 =>
 ldB w27 b1 (0 + 1) fun b29 =>
 ldS w27 b1 (0 + 2) fun s30 =>
 R [.agg #[.string g28, .bool b29, vS s30], .int .i64 (-17)] w27) (
 nn a0 fun b31 o32 =>
 ldP w21 b31 (o32 + 1) fun p33 =>
 cl Pg 47 [.pointer p33, .int .i64 a1] [kI] w21 fun (r34 : Int × Unit) w35 =>
 cs (decide ((r34.1 : Int) ≥ (0 : Int))) (
 ldG w35 b5 0 fun g36 =>
 ldB w35 b5 (0 + 1) fun b37 =>
 ldS w35 b5 (0 + 2) fun s38 =>
 st1 w35 b1 0 (.string g36) fun w39 =>
 st1 w39 b1 (0 + 1) (.bool b37) fun w40 =>
 st1 w40 b1 (0 + 2) (vS s38) fun w41 =>
 ldG w41 b1 0 fun g42 =>
 ldB w41 b1 (0 + 1) fun b43 =>
 ldS w41 b1 (0 + 2) fun s44 =>
 R [.agg #[.string g42, .bool b43, vS s44], .int .i64 (-41)] w41) (
 dr w35 fun w45 =>
 ldG w45 b5 0 fun g46 =>
 ldB w45 b5 (0 + 1) fun b47 =>
 ldS w45 b5 (0 + 2) fun s48 =>
 nn a0 fun b49 o50 =>
 ldP w45 b49 (o50 + 2) fun p51 =>
 cl Pg 48 [.pointer p51, .int .i64 a1, .int .i64 a2] [kI] w45 fun (r52 : Int × Unit) w53 =>
(w53.cell? ⟨b5, 0, none⟩ = some (.string g46) ∧ w53.cell? ⟨b5, 0 + 1, none⟩ = some (.bool b47) ∧ w53.cell? ⟨b5, 0 + 2, none⟩ = some (vS s48)) ∧ (
 st1 w53 b1 0 (.string g46) fun w54 =>
 st1 w54 b1 (0 + 1) (.bool b47) fun w55 =>
 st1 w55 b1 (0 + 2) (vS s48) fun w56 =>
 ldG w56 b1 0 fun g57 =>
 ldB w56 b1 (0 + 1) fun b58 =>
 ldS w56 b1 (0 + 2) fun s59 =>
 R [.agg #[.string g57, .bool b58, vS s59], .int .i64 r52.1] w56))))
theorem tie21 (a0 : Option Addr) (a1 : Int) (a2 : Int) (R : List Value → World → Prop) (w : World) : compF Pg Try.f21 ⟨[], [], [(8, .l [(0, []), (1, []), (2, []), (3, []), (4, []), (5, []), (6, []), (7, [4, 5, 6, 3, 2, 1]), (8, [0, 7, 4, 5, 6, 3, 2, 1]), (9, [])])], []⟩ [.pointer a0, .int .i64 a1, .int .i64 a2] R w = sh21 a0 a1 a2 R w := by kernel_rfl
theorem call21 {a0 : Option Addr} {a1 : Int} {a2 : Int} {w : World} {K : TK [.a [.g, .b, .s], kI] → World → Prop} (h : sh21 a0 a1 a2 (fun vs w' => ∃ t, encK [.a [.g, .b, .s], kI] t = vs ∧ K t w') w) : cl Pg 21 [.pointer a0, .int .i64 a1, .int .i64 a2] [.a [.g, .b, .s], kI] w K := cl_of Try.func21 (tie21 ..) h
/-- detent/detentlaw3.Same -/
def sh24 (a0 : Sl) (a1 : Sl) (R : List Value → World → Prop) (w : World) : Prop :=
 cs (((a0.len : Int) : Int) != ((a1.len : Int) : Int)) (
 R [.bool false] w) (
 lp [kI] w ((0 : Int), ()) fun (t1 : Int × Unit) J2 w3 =>
 cs (decide ((t1.1 : Int) < ((a0.len : Int) : Int))) (
 dr w3 fun w4 =>
 ix a0 t1.1 1 fun b5 o6 =>
 ldI w4 .i64 b5 o6 fun n7 =>
 ix a1 t1.1 1 fun b8 o9 =>
 ldI w4 .i64 b8 o9 fun n10 =>
 cs ((n7 : Int) != (n10 : Int)) (
 R [.bool false] w4) (
 J2 (w64 (t1.1 + 1), ()) w4)) (
 R [.bool true] w3))
theorem tie24 (a0 : Sl) (a1 : Sl) (R : List Value → World → Prop) (w : World) : compF Pg Try.f24 ⟨[(2, ⟨[(5, kI)], [4, 11, 12, 13, 14, 15, 16, 17, 18, 19, 20, 21, 22, 23, 24, 25]⟩)], [], [(6, .l [(0, []), (1, []), (2, []), (3, []), (4, []), (5, []), (6, []), (7, []), (8, [])])], []⟩ [vS a0, vS a1] R w = sh24 a0 a1 R w := by kernel_rfl
theorem call24 {a0 : Sl} {a1 : Sl} {w : World} {K : TK [kB] → World → Prop} (h : sh24 a0 a1 (fun vs w' => ∃ t, encK [kB] t = vs ∧ K t w') w) : cl Pg 24 [vS a0, vS a1] [kB] w K := cl_of Try.func24 (tie24 ..) h
/-- detent/detentlaw16.got -/
def sh22 (a0 : (Sl × Bool × Sl × Unit)) (a1 : (ByteArray × Bool × Sl × Unit)) (R : List Value → World → Prop) (w : World) : Prop :=
 al w 33 [vS a0.1, .bool a0.2.1, vS a0.2.2.1] fun b1 w2 =>
 al w2 59 [.string a1.1, .bool a1.2.1, vS a1.2.2.1] fun b3 w4 =>
 ldS w4 b1 0 fun s5 =>
 tx Pg 28 9 (vS s5) w4 fun g6 =>
 ldG w4 b3 0 fun g7 =>
 jn [kB] w4 (fun (t9 : Bool × Unit) w10 =>
 jn [kB] w10 (fun (t13 : Bool × Unit) w14 =>
 R [.bool t13.1] w14) fun J12 w15 =>
 cs t9.1 (
 ldS w15 b1 (0 + 2) fun s16 =>
 ldS w15 b3 (0 + 2) fun s17 =>
 cl Pg 24 [vS s16, vS s17] [kB] w15 fun (r18 : Bool × Unit) w19 =>
 J12 (r18.1, ()) w19) (
 J12 (false, ()) w15)) fun J8 w11 =>
 cs (g6.toList == g7.toList) (
 ldB w11 b1 (0 + 1) fun b20 =>
 ldB w11 b3 (0 + 1) fun b21 =>
 J8 (b20 == b21, ()) w11) (
 J8 (false, ()) w11)
theorem tie22 (a0 : (Sl × Bool × Sl × Unit)) (a1 : (ByteArray × Bool × Sl × Unit)) (R : List Value → World → Prop) (w : World) : compF Pg Try.f22 ⟨[], [], [], [(1, [(7, 6, ⟨[(17, kB)], [12, 13, 14, 15, 16]⟩), (14, 6, ⟨[(24, kB)], [19, 20, 21, 22, 23]⟩)])]⟩ [.agg #[vS a0.1, .bool a0.2.1, vS a0.2.2.1], .agg #[.string a1.1, .bool a1.2.1, vS a1.2.2.1]] R w = sh22 a0 a1 R w := by kernel_rfl
theorem call22 {a0 : (Sl × Bool × Sl × Unit)} {a1 : (ByteArray × Bool × Sl × Unit)} {w : World} {K : TK [kB] → World → Prop} (h : sh22 a0 a1 (fun vs w' => ∃ t, encK [kB] t = vs ∧ K t w') w) : cl Pg 22 [.agg #[vS a0.1, .bool a0.2.1, vS a0.2.2.1], .agg #[.string a1.1, .bool a1.2.1, vS a1.2.2.1]] [kB] w K := cl_of Try.func22 (tie22 ..) h
/-- (*detent/mbf.Buffer).Drop -/
def sh25 (a0 : Option Addr) (a1 : Int) (R : List Value → World → Prop) (w : World) : Prop :=
 nn a0 fun b1 o2 =>
 ldP w b1 (o2 + 3) fun p3 =>
 nn p3 fun b4 o5 =>
 cl Pg 53 [.pointer (some ⟨b4, o5, none⟩), .int .i64 a1] [kB] w fun (r6 : Bool × Unit) w7 =>
 jn [kB] w7 (fun (t9 : Bool × Unit) w10 =>
 cs t9.1 (
 R [.slice none 0 0] w10) (
 nn a0 fun b12 o13 =>
 ldM w10 b12 (o13 + 4) fun m14 =>
 ef Pg (Builtin.delete_ #[39, 3] 0 #[.map m14, .int .i64 a1]) [] w10 fun (r15 : Unit) w16 =>
 cl Pg 38 [.pointer a0] [kS] w16 fun (r17 : Sl × Unit) w18 =>
 R [vS r17.1] w18)) fun J8 w11 =>
 cs r6.1 (
 J8 (true, ()) w11) (
 nn a0 fun b19 o20 =>
 ldP w11 b19 (o20 + 2) fun p21 =>
 nn p21 fun b22 o23 =>
 cl Pg 53 [.pointer (some ⟨b22, o23, none⟩), .int .i64 a1] [kB] w11 fun (r24 : Bool × Unit) w25 =>
 J8 (!r24.1, ()) w25)
theorem tie25 (a0 : Option Addr) (a1 : Int) (R : List Value → World → Prop) (w : World) : compF Pg Try.f25 ⟨[], [], [], [(1, [(9, 10, ⟨[(23, kB)], [14, 15, 16, 17, 18, 19, 20, 21, 22]⟩)])]⟩ [.pointer a0, .int .i64 a1] R w = sh25 a0 a1 R w := by kernel_rfl
theorem call25 {a0 : Option Addr} {a1 : Int} {w : World} {K : TK [kS] → World → Prop} (h : sh25 a0 a1 (fun vs w' => ∃ t, encK [kS] t = vs ∧ K t w') w) : cl Pg 25 [.pointer a0, .int .i64 a1] [kS] w K := cl_of Try.func25 (tie25 ..) h
/-- (*detent/detentref4.Queue).Remove -/
def sh54 (a0 : Option Addr) (a1 : Int) (R : List Value → World → Prop) (w : World) : Prop :=
 cl Pg 47 [.pointer a0, .int .i64 a1] [kI] w fun (r1 : Int × Unit) w2 =>
 cs (decide ((r1.1 : Int) < (0 : Int))) (
 R [.bool false] w2) (
 al w2 107 [] fun b3 w4 =>
 nn a0 fun b5 o6 =>
 ldS w4 b5 (o6 + 1) fun s7 =>
 sb s7 0 r1.1 s7.cap 2 fun s8 =>
 ef Pg (Builtin.append_ #[102, 102] 102 #[vS ⟨some ⟨b3, 0, none⟩, 0, 0⟩, vS s8]) [kS] w4 fun (r9 : Sl × Unit) w10 =>
 nn a0 fun b11 o12 =>
 ldS w10 b11 (o12 + 1) fun s13 =>
 sb s13 (w64 (r1.1 + 1)) s13.len s13.cap 2 fun s14 =>
 ef Pg (Builtin.append_ #[102, 102] 102 #[vS r9.1, vS s14]) [kS] w10 fun (r15 : Sl × Unit) w16 =>
 nn a0 fun b17 o18 =>
 st1 w16 b17 (o18 + 1) (vS r15.1) fun w19 =>
 R [.bool true] w19)
theorem tie54 (a0 : Option Addr) (a1 : Int) (R : List Value → World → Prop) (w : World) : compF Pg Try.f54 ⟨[], [], [], []⟩ [.pointer a0, .int .i64 a1] R w = sh54 a0 a1 R w := by kernel_rfl
theorem call54 {a0 : Option Addr} {a1 : Int} {w : World} {K : TK [kB] → World → Prop} (h : sh54 a0 a1 (fun vs w' => ∃ t, encK [kB] t = vs ∧ K t w') w) : cl Pg 54 [.pointer a0, .int .i64 a1] [kB] w K := cl_of Try.func54 (tie54 ..) h
/-- (*detent/detentref16.Buffer).Drop -/
def sh26 (a0 : Option Addr) (a1 : Int) (R : List Value → World → Prop) (w : World) : Prop :=
 nn a0 fun b1 o2 =>
 ldP w b1 (o2 + 1) fun p3 =>
 cl Pg 54 [.pointer p3, .int .i64 a1] [kB] w fun (r4 : Bool × Unit) w5 =>
 jn [kB] w5 (fun (t7 : Bool × Unit) w8 =>
 cs t7.1 (
 cl Pg 52 [.pointer a0] [kS] w8 fun (r10 : Sl × Unit) w11 =>
 R [vS r10.1] w11) (
 R [.slice none 0 0] w8)) fun J6 w9 =>
 cs r4.1 (
 J6 (true, ()) w9) (
 nn a0 fun b12 o13 =>
 ldP w9 b12 (o13 + 2) fun p14 =>
 cl Pg 54 [.pointer p14, .int .i64 a1] [kB] w9 fun (r15 : Bool × Unit) w16 =>
 J6 (r15.1, ()) w16)
theorem tie26 (a0 : Option Addr) (a1 : Int) (R : List Value → World → Prop) (w : World) : compF Pg Try.f26 ⟨[], [], [], [(1, [(7, 7, ⟨[(18, kB)], [12, 13, 14, 15, 16, 17]⟩)])]⟩ [.pointer a0, .int .i64 a1] R w = sh26 a0 a1 R w := by kernel_rfl
theorem call26 {a0 : Option Addr} {a1 : Int} {w : World} {K : TK [kS] → World → Prop} (h : sh26 a0 a1 (fun vs w' => ∃ t, encK [kS] t = vs ∧ K t w') w) : cl Pg 26 [.pointer a0, .int .i64 a1] [kS] w K := cl_of Try.func26 (tie26 ..) h
/-- (*detent/order.Queue).Change -/
def sh55 (a0 : Option Addr) (a1 : Int) (a2 : Int) (R : List Value → World → Prop) (w : World) : Prop :=
 nn a0 fun b1 o2 =>
 cl Pg 62 [.pointer (some ⟨b1, o2, none⟩), .int .i64 a1] [kI] w fun (r3 : Int × Unit) w4 =>
 jn [kB] w4 (fun (t6 : Bool × Unit) w7 =>
 cs t6.1 (
 R [.bool false] w7) (
 nn a0 fun b9 o10 =>
 ldB w7 b9 (o10 + 1) fun b11 =>
 cs (!b11) (
 nn a0 fun b12 o13 =>
 ldS w7 b12 o13 fun s14 =>
 ix s14 r3.1 2 fun b15 o16 =>
 st1 w7 b15 (o16 + 1) (.int .i64 a2) fun w17 =>
 R [.bool true] w17) (
 nn a0 fun b18 o19 =>
 cl Pg 53 [.pointer (some ⟨b18, o19, none⟩), .int .i64 a1] [kB] w7 fun (r20 : Bool × Unit) w21 =>
 cl Pg 64 [.pointer a0, .agg #[.int .i64 a1, .int .i64 a2]] [] w21 fun (r22 : Unit) w23 =>
 R [.bool true] w23))) fun J5 w8 =>
 cs (decide ((r3.1 : Int) < (0 : Int))) (
 J5 (true, ()) w8) (
 cl Pg 63 [.int .i64 a2] [kB] w8 fun (r24 : Bool × Unit) w25 =>
 J5 (!r24.1, ()) w25)
theorem tie55 (a0 : Option Addr) (a1 : Int) (a2 : Int) (R : List Value → World → Prop) (w : World) : compF Pg Try.f55 ⟨[], [], [], [(2, [(3, 4, ⟨[(19, kB)], [16, 17, 18]⟩)])]⟩ [.pointer a0, .int .i64 a1, .int .i64 a2] R w = sh55 a0 a1 a2 R w := by kernel_rfl
theorem call55 {a0 : Option Addr} {a1 : Int} {a2 : Int} {w : World} {K : TK [kB] → World → Prop} (h : sh55 a0 a1 a2 (fun vs w' => ∃ t, encK [kB] t = vs ∧ K t w') w) : cl Pg 55 [.pointer a0, .int .i64 a1, .int .i64 a2] [kB] w K := cl_of Try.func55 (tie55 ..) h
/-- (*detent/mbf.Buffer).Change -/
def sh27 (a0 : Option Addr) (a1 : Int) (a2 : Int) (R : List Value → World → Prop) (w : World) : Prop :=
 nn a0 fun b1 o2 =>
 ldP w b1 (o2 + 2) fun p3 =>
 cl Pg 55 [.pointer p3, .int .i64 a1, .int .i64 a2] [kB] w fun (r4 : Bool × Unit) w5 =>
 cs r4.1 (
 cl Pg 38 [.pointer a0] [kS] w5 fun (r6 : Sl × Unit) w7 =>
 R [vS r6.1, .bool true] w7) (
 nn a0 fun b8 o9 =>
 ldP w5 b8 (o9 + 3) fun p10 =>
 cl Pg 55 [.pointer p10, .int .i64 a1, .int .i64 a2] [kB] w5 fun (r11 : Bool × Unit) w12 =>
 R [.slice none 0 0, .bool r11.1] w12)
theorem tie27 (a0 : Option Addr) (a1 : Int) (a2 : Int) (R : List Value → World → Prop) (w : World) : compF Pg Try.f27 ⟨[], [], [], []⟩ [.pointer a0, .int .i64 a1, .int .i64 a2] R w = sh27 a0 a1 a2 R w := by kernel_rfl
theorem call27 {a0 : Option Addr} {a1 : Int} {a2 : Int} {w : World} {K : TK [kS, kB] → World → Prop} (h : sh27 a0 a1 a2 (fun vs w' => ∃ t, encK [kS, kB] t = vs ∧ K t w') w) : cl Pg 27 [.pointer a0, .int .i64 a1, .int .i64 a2] [kS, kB] w K := cl_of Try.func27 (tie27 ..) h
/-- (*detent/detentref4.Queue).Change -/
def sh56 (a0 : Option Addr) (a1 : Int) (a2 : Int) (R : List Value → World → Prop) (w : World) : Prop :=
 cl Pg 47 [.pointer a0, .int .i64 a1] [kI] w fun (r1 : Int × Unit) w2 =>
 jn [kB] w2 (fun (t4 : Bool × Unit) w5 =>
 jn [kB] w5 (fun (t8 : Bool × Unit) w9 =>
 cs t8.1 (
 R [.bool false] w9) (
 nn a0 fun b11 o12 =>
 ldB w9 b11 o12 fun b13 =>
 cs b13 (
 cl Pg 54 [.pointer a0, .int .i64 a1] [kB] w9 fun (r14 : Bool × Unit) w15 =>
 cl Pg 74 [.pointer a0, .agg #[.int .i64 a1, .int .i64 a2]] [] w15 fun (r16 : Unit) w17 =>
 R [.bool true] w17) (
 al w9 107 [] fun b18 w19 =>
 nn a0 fun b20 o21 =>
 ldS w19 b20 (o21 + 1) fun s22 =>
 ef Pg (Builtin.append_ #[102, 102] 102 #[vS ⟨some ⟨b18, 0, none⟩, 0, 0⟩, vS s22]) [kS] w19 fun (r23 : Sl × Unit) w24 =>
 nn a0 fun b25 o26 =>
 st1 w24 b25 (o26 + 1) (vS r23.1) fun w27 =>
 nn a0 fun b28 o29 =>
 ldS w27 b28 (o29 + 1) fun s30 =>
 ix s30 r1.1 2 fun b31 o32 =>
 st1 w27 b31 (o32 + 1) (.int .i64 a2) fun w33 =>
 R [.bool true] w33))) fun J7 w10 =>
 cs t4.1 (
 J7 (true, ()) w10) (
 J7 (decide ((a2 : Int) > (16 : Int)), ()) w10)) fun J3 w6 =>
 cs (decide ((r1.1 : Int) < (0 : Int))) (
 J3 (true, ()) w6) (
 J3 (decide ((a2 : Int) < (1 : Int)), ()) w6)
theorem tie56 (a0 : Option Addr) (a1 : Int) (a2 : Int) (R : List Value → World → Prop) (w : World) : compF Pg Try.f56 ⟨[], [], [], [(2, [(3, 3, ⟨[(16, kB)], [14, 15]⟩), (7, 3, ⟨[(20, kB)], [18, 19]⟩)])]⟩ [.pointer a0, .int .i64 a1, .int .i64 a2] R w = sh56 a0 a1 a2 R w := by kernel_rfl
theorem call56 {a0 : Option Addr} {a1 : Int} {a2 : Int} {w : World} {K : TK [kB] → World → Prop} (h : sh56 a0 a1 a2 (fun vs w' => ∃ t, encK [kB] t = vs ∧ K t w') w) : cl Pg 56 [.pointer a0, .int .i64 a1, .int .i64 a2] [kB] w K := cl_of Try.func56 (tie56 ..) h
/-- (*detent/detentref16.Buffer).Change -/
def sh28 (a0 : Option Addr) (a1 : Int) (a2 : Int) (R : List Value → World → Prop) (w : World) : Prop :=
 nn a0 fun b1 o2 =>
 ldP w b1 (o2 + 1) fun p3 =>
 cl Pg 56 [.pointer p3, .int .i64 a1, .int .i64 a2] [kB] w fun (r4 : Bool × Unit) w5 =>
 jn [kB] w5 (fun (t7 : Bool × Unit) w8 =>
 cs t7.1 (
 cl Pg 52 [.pointer a0] [kS] w8 fun (r10 : Sl × Unit) w11 =>
 R [vS r10.1, .bool true] w11) (
 R [.slice none 0 0, .bool false] w8)) fun J6 w9 =>
 cs r4.1 (
 J6 (true, ()) w9) (
 nn a0 fun b12 o13 =>
 ldP w9 b12 (o13 + 2) fun p14 =>
 cl Pg 56 [.pointer p14, .int .i64 a1, .int .i64 a2] [kB] w9 fun (r15 : Bool × Unit) w16 =>
 J6 (r15.1, ()) w16)
theorem tie28 (a0 : Option Addr) (a1 : Int) (a2 : Int) (R : List Value → World → Prop) (w : World) : compF Pg Try.f28 ⟨[], [], [], [(1, [(8, 8, ⟨[(23, kB)], [16, 17, 18, 19, 20, 21, 22]⟩)])]⟩ [.pointer a0, .int .i64 a1, .int .i64 a2] R w = sh28 a0 a1 a2 R w := by kernel_rfl
theorem call28 {a0 : Option Addr} {a1 : Int} {a2 : Int} {w : World} {K : TK [kS, kB] → World → Prop} (h : sh28 a0 a1 a2 (fun vs w' => ∃ t, encK [kS, kB] t = vs ∧ K t w') w) : cl Pg 28 [.pointer a0, .int .i64 a1, .int .i64 a2] [kS, kB] w K := cl_of Try.func28 (tie28 ..) h
/-- maps.Clone[map[int][]byte,int,[]byte] -/
def sh57 (a0 : Option Nat) (R : List Value → World → Prop) (w : World) : Prop :=
 cs a0.isNone (
 R [.map none] w) (
 xt Pg 77 [.iface 39 (.map a0)] [.l .n] w fun (r1 : Iv × Unit) w2 =>
 ef Pg (Instr.typeAssert (.iface r1.1.t r1.1.v) 20 39 false) [kM] w2 fun (r3 : Option Nat × Unit) w4 =>
 R [.map r3.1] w4)
theorem tie57 (a0 : Option Nat) (R : List Value → World → Prop) (w : World) : compF Pg Try.f57 ⟨[], [], [], []⟩ [.map a0] R w = sh57 a0 R w := by kernel_rfl
theorem call57 {a0 : Option Nat} {w : World} {K : TK [kM] → World → Prop} (h : sh57 a0 (fun vs w' => ∃ t, encK [kM] t = vs ∧ K t w') w) : cl Pg 57 [.map a0] [kM] w K := cl_of Try.func57 (tie57 ..) h
/-- (*detent/arena.Arena).Twin -/
def sh78 (a0 : Option Addr) (R : List Value → World → Prop) (w : World) : Prop :=
 dr w fun w1 =>
 nn a0 fun b2 o3 =>
 ldS w1 b2 o3 fun s4 =>
 nn a0 fun b5 o6 =>
 ldI w1 .i64 b5 (o6 + 1) fun n7 =>
 cl Pg 36 [vS s4] [kS] w1 fun (r8 : Sl × Unit) w9 =>
(w9.cell? ⟨b5, o6 + 1, none⟩ = some (.int .i64 n7)) ∧ (
 al w9 124 [vS r8.1, .int .i64 n7] fun b10 w11 =>
 R [.pointer (some ⟨b10, 0, none⟩)] w11)
theorem tie78 (a0 : Option Addr) (R : List Value → World → Prop) (w : World) : compF Pg Try.f78 ⟨[], [], [(1, .l [(0, []), (1, []), (2, []), (3, []), (5, []), (6, []), (7, []), (8, []), (4, [3, 2, 1, 0]), (9, []), (10, [9, 4, 8, 3, 7, 2, 6, 1, 5, 0]), (11, [])])], []⟩ [.pointer a0] R w = sh78 a0 R w := by kernel_rfl
theorem call78 {a0 : Option Addr} {w : World} {K : TK [kP] → World → Prop} (h : sh78 a0 (fun vs w' => ∃ t, encK [kP] t = vs ∧ K t w') w) : cl Pg 78 [.pointer a0] [kP] w K := cl_of Try.func78 (tie78 ..) h
/-- (*detent/ring.Ring).Twin -/
def sh58 (a0 : Option Addr) (R : List Value → World → Prop) (w : World) : Prop :=
 dr w fun w1 =>
 nn a0 fun b2 o3 =>
 ldP w1 b2 o3 fun p4 =>
 nn a0 fun b5 o6 =>
 ldI w1 .i64 b5 (o6 + 1) fun n7 =>
 nn a0 fun b8 o9 =>
 ldI w1 .i64 b8 (o9 + 2) fun n10 =>
 nn a0 fun b11 o12 =>
 ldI w1 .i64 b11 (o12 + 3) fun n13 =>
 cl Pg 78 [.pointer p4] [kP] w1 fun (r14 : Option Addr × Unit) w15 =>
(w15.cell? ⟨b11, o12 + 3, none⟩ = some (.int .i64 n13)) ∧ (
(w15.cell? ⟨b8, o9 + 2, none⟩ = some (.int .i64 n10)) ∧ (
(w15.cell? ⟨b5, o6 + 1, none⟩ = some (.int .i64 n7)) ∧ (
 al w15 98 [.pointer r14.1, .int .i64 n7, .int .i64 n10, .int .i64 n13] fun b16 w17 =>
 R [.pointer (some ⟨b16, 0, none⟩)] w17)))
theorem tie58 (a0 : Option Addr) (R : List Value → World → Prop) (w : World) : compF Pg Try.f58 ⟨[], [], [(1, .l [(0, []), (1, []), (2, []), (3, []), (5, []), (6, []), (7, []), (8, []), (9, []), (10, []), (11, []), (12, []), (13, []), (14, []), (15, []), (16, []), (4, [3, 2, 1, 0]), (17, []), (18, [17, 4, 8, 12, 16, 3, 7, 11, 15, 2, 6, 10, 14, 1, 5, 9, 13, 0]), (19, [])])], []⟩ [.pointer a0] R w = sh58 a0 R w := by kernel_rfl
theorem call58 {a0 : Option Addr} {w : World} {K : TK [kP] → World → Prop} (h : sh58 a0 (fun vs w' => ∃ t, encK [kP] t = vs ∧ K t w') w) : cl Pg 58 [.pointer a0] [kP] w K := cl_of Try.func58 (tie58 ..) h
/-- (*detent/order.Queue).Twin -/
def sh59 (a0 : Option Addr) (R : List Value → World → Prop) (w : World) : Prop :=
 dr w fun w1 =>
 nn a0 fun b2 o3 =>
 ldS w1 b2 o3 fun s4 =>
 nn a0 fun b5 o6 =>
 ldB w1 b5 (o6 + 1) fun b7 =>
 cl Pg 79 [vS s4] [kS] w1 fun (r8 : Sl × Unit) w9 =>
(w9.cell? ⟨b5, o6 + 1, none⟩ = some (.bool b7)) ∧ (
 al w9 86 [vS r8.1, .bool b7] fun b10 w11 =>
 R [.pointer (some ⟨b10, 0, none⟩)] w11)
theorem tie59 (a0 : Option Addr) (R : List Value → World → Prop) (w : World) : compF Pg Try.f59 ⟨[], [], [(1, .l [(0, []), (1, []), (2, []), (3, []), (4, []), (7, []), (8, []), (9, []), (10, []), (5, [4, 3, 2, 1, 0]), (6, []), (11, []), (12, [11, 6, 10, 5, 9, 4, 8, 3, 7, 2, 1, 0]), (13, [])])], []⟩ [.pointer a0] R w = sh59 a0 R w := by kernel_rfl
theorem call59 {a0 : Option Addr} {w : World} {K : TK [kP] → World → Prop} (h : sh59 a0 (fun vs w' => ∃ t, encK [kP] t = vs ∧ K t w') w) : cl Pg 59 [.pointer a0] [kP] w K := cl_of Try.func59 (tie59 ..) h
/-- (*detent/detentref4.Queue).IDs -/
def sh31 (a0 : Option Addr) (R : List Value → World → Prop) (w : World) : Prop :=
 lp [kS, kI] w (⟨none, 0, 0⟩, (0 : Int), ()) fun (t1 : Sl × Int × Unit) J2 w3 =>
 nn a0 fun b4 o5 =>
 ldS w3 b4 (o5 + 1) fun s6 =>
 cs (decide ((t1.2.1 : Int) < ((s6.len : Int) : Int))) (
 nn a0 fun b7 o8 =>
 ldS w3 b7 (o8 + 1) fun s9 =>
 ix s9 t1.2.1 2 fun b10 o11 =>
 ldI w3 .i64 b10 o11 fun n12 =>
 al w3 3 [.int .i64 n12] fun b13 w14 =>
 ef Pg (Builtin.append_ #[31, 31] 31 #[vS t1.1, vS ⟨some ⟨b13, 0, none⟩, 1, 1⟩]) [kS] w14 fun (r15 : Sl × Unit) w16 =>
 J2 (r15.1, w64 (t1.2.1 + 1), ()) w16) (
 R [vS t1.1] w3)
theorem tie31 (a0 : Option Addr) (R : List Value → World → Prop) (w : World) : compF Pg Try.f31 ⟨[(1, ⟨[(3, kS), (4, kI)], [5, 6, 7, 8, 9, 10, 11, 12, 13, 14, 15, 16, 17, 18, 19, 20, 21, 22, 23, 24]⟩)], [], [], []⟩ [.pointer a0] R w = sh31 a0 R w := by kernel_rfl
theorem call31 {a0 : Option Addr} {w : World} {K : TK [kS] → World → Prop} (h : sh31 a0 (fun vs w' => ∃ t, encK [kS] t = vs ∧ K t w') w) : cl Pg 31 [.pointer a0] [kS] w K := cl_of Try.func31 (tie31 ..) h
/-- detent/detentlaw16.BufferPlays -/
def sh7 (a0 : Bool) (a1 : Int) (a2 : Int) (a3 : Sl) (R : List Value → World → Prop) (w : World) : Prop :=
 cl Pg 8 [] [kB] w fun (r1 : Bool × Unit) w2 =>
 cs (!r1.1) (
 R [.bool false] w2) (
 jn [kB] w2 (fun (t4 : Bool × Unit) w5 =>
 cs t4.1 (
 R [.bool true] w5) (
 cl Pg 9 [.bool a0, .int .i64 a1, .int .i64 a2] [kP, kI] w5 fun (r7 : Option Addr × Int × Unit) w8 =>
 cl Pg 18 [.bool a0, .int .i64 a1, .int .i64 a2] [kP, kI] w8 fun (r9 : Option Addr × Int × Unit) w10 =>
 jn [kB] w10 (fun (t12 : Bool × Unit) w13 =>
 cs t12.1 (
 R [.bool false] w13) (
 cs r9.1.isNone (
 R [.bool true] w13) (
 lp [kP, kI] w13 (r7.1, (0 : Int), ()) fun (t15 : Option Addr × Int × Unit) J16 w17 =>
 cs (decide ((t15.2.1 : Int) < ((a3.len : Int) : Int))) (
 ix a3 t15.2.1 4 fun b18 o19 =>
 ldI w17 .i64 b18 o19 fun n20 =>
 ldI w17 .i64 b18 (o19 + 1) fun n21 =>
 ldI w17 .i64 b18 (o19 + 2) fun n22 =>
 ldS w17 b18 (o19 + 3) fun s23 =>
 al w17 54 [.int .i64 0, .int .i64 0, .int .i64 0, .slice none 0 0] fun b24 w25 =>
 st1 w25 b24 0 (.int .i64 n20) fun w26 =>
 st1 w26 b24 (0 + 1) (.int .i64 n21) fun w27 =>
 st1 w27 b24 (0 + 2) (.int .i64 n22) fun w28 =>
 st1 w28 b24 (0 + 3) (vS s23) fun w29 =>
 ldS w29 b24 (0 + 3) fun s30 =>
 cs (decide (((s30.len : Int) : Int) > (1100 : Int))) (
 R [.bool true] w29) (
 ldI w29 .i64 b24 0 fun n31 =>
 jn [kP] w29 (fun (t33 : Option Addr × Unit) w34 =>
 dr w34 fun w36 =>
 jn [kB] w36 (fun (t38 : Bool × Unit) w39 =>
 cs t38.1 (
 R [.bool false] w39) (
 J16 (t33.1, w64 (t15.2.1 + 1), ()) w39)) fun J37 w40 =>
 nn t33.1 fun b41 o42 =>
 ldP w40 b41 o42 fun p43 =>
 nn r9.1 fun b44 o45 =>
 ldP w40 b44 o45 fun p46 =>
 nn p46 fun b47 o48 =>
 ldS w40 b47 (o48 + 1) fun s49 =>
 cl Pg 15 [.pointer p43] [kI] w40 fun (r50 : Int × Unit) w51 =>
(w51.cell? ⟨b47, o48 + 1, none⟩ = some (vS s49)) ∧ (
(w51.cell? ⟨b44, o45, none⟩ = some (.pointer p46)) ∧ (
 cs ((r50.1 : Int) != ((s49.len : Int) : Int)) (
 J37 (true, ()) w51) (
 nn t33.1 fun b52 o53 =>
 ldP w51 b52 o53 fun p54 =>
 nn r9.1 fun b55 o56 =>
 ldP w51 b55 o56 fun p57 =>
 cl Pg 13 [.pointer p54] [kI] w51 fun (r58 : Int × Unit) w59 =>
(w59.cell? ⟨b55, o56, none⟩ = some (.pointer p57)) ∧ (
 cl Pg 30 [.pointer p57] [kI] w59 fun (r60 : Int × Unit) w61 =>
 cs ((r58.1 : Int) != (r60.1 : Int)) (
 J37 (true, ()) w61) (
 nn r9.1 fun b62 o63 =>
 ldP w61 b62 (o63 + 1) fun p64 =>
 cl Pg 12 [.pointer t33.1] [kS] w61 fun (r65 : Sl × Unit) w66 =>
(w66.cell? ⟨b62, o63 + 1, none⟩ = some (.pointer p64)) ∧ (
 cl Pg 31 [.pointer p64] [kS] w66 fun (r67 : Sl × Unit) w68 =>
 cl Pg 24 [vS r65.1, vS r67.1] [kB] w68 fun (r69 : Bool × Unit) w70 =>
 cs (!r69.1) (
 J37 (true, ()) w70) (
 nn r9.1 fun b71 o72 =>
 ldP w70 b71 (o72 + 2) fun p73 =>
 cl Pg 17 [.pointer t33.1] [kS] w70 fun (r74 : Sl × Unit) w75 =>
(w75.cell? ⟨b71, o72 + 2, none⟩ = some (.pointer p73)) ∧ (
 cl Pg 31 [.pointer p73] [kS] w75 fun (r76 : Sl × Unit) w77 =>
 cl Pg 24 [vS r74.1, vS r76.1] [kB] w77 fun (r78 : Bool × Unit) w79 =>
 J37 (!r78.1, ()) w79))))))))) fun J32 w35 =>
 cs ((n31 : Int) == (1 : Int)) (
 ldI w35 .i64 b24 (0 + 1) fun n80 =>
 ldI w35 .i64 b24 (0 + 2) fun n81 =>
 ldS w35 b24 (0 + 3) fun s82 =>
 cl Pg 10 [.pointer t15.1, .int .i64 n80, .int .i64 n81, vS s82] [kB, kI, kI] w35 fun (r83 : Bool × Int × Int × Unit) w84 =>
 ldI w84 .i64 b24 (0 + 1) fun n85 =>
 ldI w84 .i64 b24 (0 + 2) fun n86 =>
 ldS w84 b24 (0 + 3) fun s87 =>
 cl Pg 19 [.pointer r9.1, .int .i64 n85, .int .i64 n86, vS s87] [kB, kI, kI] w84 fun (r88 : Bool × Int × Int × Unit) w89 =>
 jn [kB] w89 (fun (t91 : Bool × Unit) w92 =>
 jn [kB] w92 (fun (t95 : Bool × Unit) w96 =>
 cs t95.1 (
 R [.bool false] w96) (
 J32 (t15.1, ()) w96)) fun J94 w97 =>
 cs t91.1 (
 J94 (true, ()) w97) (
 J94 ((r83.2.2.1 : Int) != (r88.2.2.1 : Int), ()) w97)) fun J90 w93 =>
 cs (!(r83.1 == r88.1)) (
 J90 (true, ()) w93) (
 J90 ((r83.2.1 : Int) != (r88.2.1 : Int), ()) w93)) (
 jn [kP] w35 (fun (t99 : Option Addr × Unit) w100 =>
 J32 (t99.1, ()) w100) fun J98 w101 =>
 cs ((n31 : Int) == (2 : Int)) (
 ldS w101 b24 (0 + 3) fun s102 =>
 cl Pg 14 [.pointer t15.1, vS s102] [kB, kI, kI] w101 fun (r103 : Bool × Int × Int × Unit) w104 =>
 ldS w104 b24 (0 + 3) fun s105 =>
 cl Pg 20 [.pointer r9.1, vS s105] [kB, kI, kI] w104 fun (r106 : Bool × Int × Int × Unit) w107 =>
 jn [kB] w107 (fun (t109 : Bool × Unit) w110 =>
 jn [kB] w110 (fun (t113 : Bool × Unit) w114 =>
 cs t113.1 (
 R [.bool false] w114) (
 J98 (t15.1, ()) w114)) fun J112 w115 =>
 cs t109.1 (
 J112 (true, ()) w115) (
 J112 ((r103.2.2.1 : Int) != (r106.2.2.1 : Int), ()) w115)) fun J108 w111 =>
 cs (!(r103.1 == r106.1)) (
 J108 (true, ()) w111) (
 J108 ((r103.2.1 : Int) != (r106.2.1 : Int), ()) w111)) (
 jn [kP] w101 (fun (t117 : Option Addr × Unit) w118 =>
 J98 (t117.1, ()) w118) fun J116 w119 =>
 cs ((n31 : Int) == (3 : Int)) (
 ldI w119 .i64 b24 (0 + 1) fun n120 =>
 ldI w119 .i64 b24 (0 + 2) fun n121 =>
 cl Pg 16 [.pointer t15.1, .int .i64 n120, .int .i64 n121] [.a [.s, .b, .s], kI] w119 fun (r122 : (Sl × Bool × Sl × Unit) × Int × Unit) w123 =>
 al w123 33 [.slice none 0 0, .bool false, .slice none 0 0] fun b124 w125 =>
 st1 w125 b124 0 (vS r122.1.1) fun w126 =>
 st1 w126 b124 (0 + 1) (.bool r122.1.2.1) fun w127 =>
 st1 w127 b124 (0 + 2) (vS r122.1.2.2.1) fun w128 =>
 ldI w128 .i64 b24 (0 + 1) fun n129 =>
 ldI w128 .i64 b24 (0 + 2) fun n130 =>
 cl Pg 21 [.pointer r9.1, .int .i64 n129, .int .i64 n130] [.a [.g, .b, .s], kI] w128 fun (r131 : (ByteArray × Bool × Sl × Unit) × Int × Unit) w132 =>
 al w132 59 [.string ByteArray.empty, .bool false, .slice none 0 0] fun b133 w134 =>
 st1 w134 b133 0 (.string r131.1.1) fun w135 =>
 st1 w135 b133 (0 + 1) (.bool r131.1.2.1) fun w136 =>
 st1 w136 b133 (0 + 2) (vS r131.1.2.2.1) fun w137 =>
 ldS w137 b124 0 fun s138 =>
 ldB w137 b124 (0 + 1) fun b139 =>
 ldS w137 b124 (0 + 2) fun s140 =>
 ldG w137 b133 0 fun g141 =>
 ldB w137 b133 (0 + 1) fun b142 =>
 ldS w137 b133 (0 + 2) fun s143 =>
 cl Pg 22 [.agg #[vS s138, .bool b139, vS s140], .agg #[.string g141, .bool b142, vS s143]] [kB] w137 fun (r144 : Bool × Unit) w145 =>
 jn [kB] w145 (fun (t147 : Bool × Unit) w148 =>
 cs t147.1 (
 R [.bool false] w148) (
 J116 (t15.1, ()) w148)) fun J146 w149 =>
 cs (!r144.1) (
 J146 (true, ()) w149) (
 J146 ((r122.2.1 : Int) != (r131.2.1 : Int), ()) w149)) (
 jn [kP] w119 (fun (t151 : Option Addr × Unit) w152 =>
 J116 (t151.1, ()) w152) fun J150 w153 =>
 cs ((n31 : Int) == (4 : Int)) (
 cl Pg 11 [.pointer t15.1] [.a [.s, .b, .s]] w153 fun (r154 : (Sl × Bool × Sl × Unit) × Unit) w155 =>
 cl Pg 23 [.pointer r9.1] [.a [.g, .b, .s]] w155 fun (r156 : (ByteArray × Bool × Sl × Unit) × Unit) w157 =>
 cl Pg 22 [.agg #[vS r154.1.1, .bool r154.1.2.1, vS r154.1.2.2.1], .agg #[.string r156.1.1, .bool r156.1.2.1, vS r156.1.2.2.1]] [kB] w157 fun (r158 : Bool × Unit) w159 =>
 cs (!r158.1) (
 R [.bool false] w159) (
 J150 (t15.1, ()) w159)) (
 jn [kP] w153 (fun (t161 : Option Addr × Unit) w162 =>
 J150 (t161.1, ()) w162) fun J160 w163 =>
 cs ((n31 : Int) == (5 : Int)) (
 dr w163 fun w164 =>
 ldI w164 .i64 b24 (0 + 1) fun n165 =>
 ldI w164 .i64 b24 (0 + 1) fun n166 =>
 cl Pg 25 [.pointer t15.1, .int .i64 n165] [kS] w164 fun (r167 : Sl × Unit) w168 =>
(w168.cell? ⟨b24, 0 + 1, none⟩ = some (.int .i64 n166)) ∧ (
 cl Pg 26 [.pointer r9.1, .int .i64 n166] [kS] w168 fun (r169 : Sl × Unit) w170 =>
 cl Pg 24 [vS r167.1, vS r169.1] [kB] w170 fun (r171 : Bool × Unit) w172 =>
 cs (!r171.1) (
 R [.bool false] w172) (
 J160 (t15.1, ()) w172))) (
 jn [kP] w163 (fun (t174 : Option Addr × Unit) w175 =>
 J160 (t174.1, ()) w175) fun J173 w176 =>
 cs ((n31 : Int) == (6 : Int)) (
 ldI w176 .i64 b24 (0 + 1) fun n177 =>
 ldI w176 .i64 b24 (0 + 2) fun n178 =>
 cl Pg 27 [.pointer t15.1, .int .i64 n177, .int .i64 n178] [kS, kB] w176 fun (r179 : Sl × Bool × Unit) w180 =>
 ldI w180 .i64 b24 (0 + 1) fun n181 =>
 ldI w180 .i64 b24 (0 + 2) fun n182 =>
 cl Pg 28 [.pointer r9.1, .int .i64 n181, .int .i64 n182] [kS, kB] w180 fun (r183 : Sl × Bool × Unit) w184 =>
 cl Pg 24 [vS r179.1, vS r183.1] [kB] w184 fun (r185 : Bool × Unit) w186 =>
 jn [kB] w186 (fun (t188 : Bool × Unit) w189 =>
 cs t188.1 (
 R [.bool false] w189) (
 J173 (t15.1, ()) w189)) fun J187 w190 =>
 cs (!r185.1) (
 J187 (true, ()) w190) (
 J187 (!(r179.2.1 == r183.2.1), ()) w190)) (
 jn [kP] w176 (fun (t192 : Option Addr × Unit) w193 =>
 J173 (t192.1, ()) w193) fun J191 w194 =>
 cs ((n31 : Int) == (7 : Int)) (
 cl Pg 29 [.pointer t15.1] [kP] w194 fun (r195 : Option Addr × Unit) w196 =>
 cs r195.1.isNone (
 R [.bool false] w196) (
 lp [kI] w196 ((0 : Int), ()) fun (t197 : Int × Unit) J198 w199 =>
 jn [kB] w199 (fun (t201 : Bool × Unit) w202 =>
 cs t201.1 (
 nn t15.1 fun b204 o205 =>
 ldP w202 b204 o205 fun p206 =>
 cl Pg 15 [.pointer p206] [kI] w202 fun (r207 : Int × Unit) w208 =>
 cs (decide ((r207.1 : Int) > (4000 : Int))) (
 R [.bool false] w208) (
 J198 (w64 (t197.1 + 1), ()) w208)) (
 J191 (r195.1, ()) w202)) fun J200 w203 =>
 cs (decide ((t197.1 : Int) < (50 : Int))) (
 cl Pg 11 [.pointer t15.1] [.a [.s, .b, .s]] w203 fun (r209 : (Sl × Bool × Sl × Unit) × Unit) w210 =>
 J200 (r209.1.2.1, ()) w210) (
 J200 (false, ()) w203))) (
 J191 (t15.1, ()) w194))))))))) (
 R [.bool true] w17)))) fun J11 w14 =>
 cs ((r7.2.1 : Int) != (r9.2.1 : Int)) (
 J11 (true, ()) w14) (
 J11 (!(r7.1.isNone == ((r9.2.1 : Int) != (0 : Int))), ()) w14))) fun J3 w6 =>
 cs (decide (((a3.len : Int) : Int) > (80 : Int))) (
 J3 (true, ()) w6) (
 jn [kB] w6 (fun (t212 : Bool × Unit) w213 =>
 J3 (t212.1, ()) w213) fun J211 w214 =>
 cs (decide ((a2 : Int) > (4000 : Int))) (
 J211 (decide ((a2 : Int) ≤ (65536 : Int)), ()) w214) (
 J211 (false, ()) w214)))
theorem tie7 (a0 : Bool) (a1 : Int) (a2 : Int) (a3 : Sl) (R : List Value → World → Prop) (w : World) : compF Pg Try.f7 ⟨[(5, ⟨[(9, kP), (13, kI)], [8, 14, 15, 16, 17, 18, 19, 20, 21, 22, 23, 24, 25, 26, 27, 28, 29, 30, 31, 32, 33, 34, 35, 36, 76, 77, 78, 79, 80, 81, 82, 83, 84, 85, 86, 87, 88, 89, 90, 91, 92, 93, 94, 95, 96, 97, 98, 99, 100, 101, 102, 103, 104, 105, 106, 107, 108, 109, 110, 111, 112, 113, 114, 115, 116, 117, 118, 119, 120, 121, 122, 123, 124, 125, 126, 127, 128, 129, 130, 131, 132, 133, 134, 135, 136, 137, 138, 139, 140, 141, 142, 143, 144, 145, 146, 147, 148, 149, 150, 151, 152, 153, 154, 155, 156, 157, 158, 159, 160, 161, 162, 163, 164, 165, 166, 167, 168, 169, 170, 171, 172, 173, 174, 175, 176, 177, 178, 179, 180, 181, 182, 183, 184, 185, 186, 187, 188, 189, 190, 191, 192, 193, 194, 195, 196, 197, 198, 199, 200, 201, 202, 203, 204, 205, 206, 207, 208, 209, 210, 211, 212, 213, 214, 215, 216, 217, 218, 219, 220, 221, 222, 223, 224, 225, 226, 227, 228, 229, 230, 231, 232, 233, 234, 235, 236, 237, 238, 239, 240, 241, 242, 243, 244, 245, 246, 247, 248, 249, 250, 251, 252, 253, 254, 255, 256, 257, 258, 259, 260, 261, 262, 263, 264, 265, 266, 267, 268, 269, 270, 271, 272, 273, 274, 275, 276, 277, 278, 279, 280, 281, 282, 283, 284, 285, 286, 287, 288, 289, 290, 291, 292, 293, 294, 295, 296, 297, 298, 299, 300, 301, 302, 303, 304, 305, 306, 307, 308, 309, 310]⟩), (10, ⟨[(9, kP)], [8, 15, 16, 17, 18, 19, 20, 21, 22, 23, 24, 25, 26, 27, 28, 29, 30, 31, 32, 33, 34, 35, 36, 94, 95, 96, 97, 98, 99, 100, 101, 102, 103, 104, 105, 106, 107, 108, 109, 110, 111, 112, 113, 114, 115, 116, 117, 118, 119, 120, 121, 122, 123, 124, 125, 126, 127, 128, 129, 130, 131, 132, 133, 134, 135, 136, 137, 138, 139, 140, 141, 142, 143, 144, 145, 146, 147, 148, 149, 150, 151, 152, 153, 154, 155, 156, 157, 158, 159, 160, 161, 162, 163, 164, 165, 166, 167, 168, 169, 170, 171, 172, 173, 174, 175, 176, 177, 178, 179, 180, 181, 182, 183, 184, 185, 186, 187, 188, 189, 190, 191, 192, 193, 194, 195, 196, 197, 198, 199, 200, 201, 202, 203, 204, 205, 206, 207, 208, 209, 210, 211, 212, 213, 214, 215, 216, 217, 218, 219, 220, 221, 222, 223, 224, 225, 226, 227, 228, 229, 230, 231, 232, 233, 234, 235, 236, 237, 238, 239, 240, 241, 242, 243, 244, 245, 246, 247, 248, 249, 250, 251, 252, 253, 254, 255, 256, 257, 258, 259, 260, 261]⟩), (12, ⟨[(9, kP)], [8, 21, 22, 23, 24, 25, 26, 27, 28, 29, 30, 31, 32, 33, 34, 35, 36, 133, 134, 135, 136, 137, 138, 139, 140, 141, 142, 143, 144, 145, 146, 147, 148, 149, 150, 151, 152, 153, 154, 155, 156, 157, 158, 159, 160, 161, 162, 163, 164, 165, 166, 167, 168, 169, 170, 171, 172, 173, 174, 175, 176, 177, 178, 179, 180, 181, 182, 183, 184, 185, 186, 187, 188, 189, 190, 191, 192, 193, 194, 195, 196, 197, 198, 199, 200, 201, 202, 203, 204, 205, 206, 207, 208, 209, 210, 211, 212, 213, 214, 215, 216, 217, 218, 219, 220, 221, 222, 223, 224, 225, 226, 227, 228, 229, 230, 231, 232, 233, 234, 235, 236, 237, 238, 239, 240, 241, 242, 243, 244, 245, 246, 247, 248, 249, 250, 251, 252, 253, 254, 255, 256, 257, 258, 259, 260, 261]⟩), (14, ⟨[(9, kP)], [8, 27, 28, 29, 30, 31, 32, 33, 34, 35, 36, 164, 165, 166, 167, 168, 169, 170, 171, 172, 173, 174, 175, 176, 177, 178, 179, 180, 181, 182, 183, 184, 185, 186, 187, 188, 189, 190, 191, 192, 193, 194, 195, 196, 197, 198, 199, 200, 201, 202, 203, 204, 205, 206, 207, 208, 209, 210, 211, 212, 213, 214, 215, 216, 217, 218, 219, 220, 221, 222, 223, 224, 225, 226, 227, 228, 229, 230, 231, 232, 233, 234, 235, 236, 237, 238, 239, 240, 241, 242, 243, 244, 245, 246, 247, 248, 249, 250, 251, 252, 253, 254, 255, 256, 257, 258, 259, 260, 261]⟩), (16, ⟨[(9, kP)], [8, 31, 32, 33, 34, 35, 36, 193, 194, 195, 196, 197, 198, 199, 200, 201, 202, 203, 204, 205, 206, 207, 208, 209, 210, 211, 212, 213, 214, 215, 216, 217, 218, 219, 220, 221, 222, 223, 224, 225, 226, 227, 228, 229, 230, 231, 232, 233, 234, 235, 236, 237, 238, 239, 240, 241, 242, 243, 244, 245, 246, 247, 248, 249, 250, 251, 252, 253, 254, 255, 256, 257, 258, 259, 260, 261]⟩), (18, ⟨[(9, kP)], [8, 31, 32, 33, 34, 35, 36, 201, 202, 203, 204, 205, 206, 207, 208, 209, 210, 211, 212, 213, 214, 215, 216, 217, 218, 219, 220, 221, 222, 223, 224, 225, 226, 227, 228, 229, 230, 231, 232, 233, 234, 235, 236, 237, 238, 239, 240, 241, 242, 243, 244, 245, 246, 247, 248, 249, 250, 251, 252, 253, 254, 255, 256, 257, 258, 259, 260, 261]⟩), (20, ⟨[(9, kP)], [8, 31, 32, 33, 34, 35, 36, 213, 214, 215, 216, 217, 218, 219, 220, 221, 222, 223, 224, 225, 226, 227, 228, 229, 230, 231, 232, 233, 234, 235, 236, 237, 238, 239, 240, 241, 242, 243, 244, 245, 246, 247, 248, 249, 250, 251, 252, 253, 254, 255, 256, 257, 258, 259, 260, 261]⟩), (22, ⟨[(9, kP)], [8, 35, 36, 242, 243, 244, 245, 246, 247, 248, 249, 250, 251, 252, 253, 254, 255, 256, 257, 258, 259, 260, 261]⟩), (25, ⟨[(36, kI)], [8, 246, 247, 248, 249, 250, 251, 252, 253, 254, 255, 256, 257, 258, 259, 260]⟩)], [(54, ⟨[(310, kB)], [262, 263, 264, 265, 266, 267, 268, 269, 270, 271, 272, 273, 274, 275, 276, 277, 278, 279, 280, 281, 282, 283, 284, 285, 286, 287, 288, 289, 290, 291, 292, 293, 294, 295, 296, 297, 298, 299, 300, 301, 302, 303, 304, 305, 306, 307, 308, 309]⟩)], [(54, .l [(0, []), (1, []), (2, []), (3, []), (5, []), (6, []), (7, []), (8, []), (9, []), (10, []), (11, []), (12, []), (4, [3, 2, 1, 0]), (13, []), (14, []), (15, []), (16, []), (17, []), (18, []), (20, []), (21, []), (22, []), (23, []), (19, [18, 14, 17, 13, 4, 16, 12, 3, 15, 11, 2, 10, 1, 9, 0, 8, 7, 6, 5]), (24, [23, 19, 14, 22, 18, 13, 4, 21, 17, 12, 3, 20, 16, 11, 2, 15, 10, 1, 9, 0, 8, 7, 6, 5]), (25, []), (26, []), (27, []), (28, []), (30, []), (31, []), (32, []), (33, []), (29, [28, 27, 26, 24, 14, 25, 23, 19, 13, 4, 22, 18, 12, 3, 21, 17, 11, 2, 20, 16, 10, 1, 15, 9, 0, 8, 7, 6, 5]), (34, [33, 29, 27, 32, 28, 26, 24, 31, 14, 25, 23, 19, 30, 13, 4, 22, 18, 12, 3, 21, 17, 11, 2, 20, 16, 10, 1, 15, 9, 0, 8, 7, 6, 5]), (35, [29, 34, 27, 28, 33, 26, 24, 32, 14, 25, 23, 19, 31, 13, 4, 22, 18, 30, 12, 3, 21, 17, 11, 2, 20, 16, 10, 1, 15, 9, 0, 8, 7, 6, 5]), (36, []), (37, []), (38, []), (39, []), (41, []), (42, []), (43, []), (44, []), (40, [39, 38, 37, 35, 27, 36, 29, 34, 26, 24, 28, 33, 14, 25, 23, 19, 32, 13, 4, 22, 18, 31, 12, 3, 21, 17, 30, 11, 2, 20, 16, 10, 1, 15, 9, 0, 8, 7, 6, 5]), (45, [44, 40, 38, 43, 39, 37, 35, 42, 27, 36, 29, 34, 41, 26, 24, 28, 33, 14, 25, 23, 19, 32, 13, 4, 22, 18, 31, 12, 3, 21, 17, 30, 11, 2, 20, 16, 10, 1, 15, 9, 0, 8, 7, 6, 5]), (46, [40, 45, 38, 39, 44, 37, 35, 43, 27, 36, 29, 34, 42, 26, 24, 28, 33, 41, 14, 25, 23, 19, 32, 13, 4, 22, 18, 31, 12, 3, 21, 17, 30, 11, 2, 20, 16, 10, 1, 15, 9, 0, 8, 7, 6, 5]), (47, []), (48, [])]), (37, .l [(0, []), (1, []), (2, []), (4, []), (5, []), (6, []), (3, [0, 2, 1]), (7, [4, 6, 3, 5, 0, 2, 1]), (8, [3, 7, 0, 2, 4, 6, 1, 5]), (9, [])])], [(3, [(4, 7, ⟨[(49, kB)], [43, 44, 45, 46, 47, 48]⟩), (7, 3, ⟨[(48, kB)], [46, 47]⟩)]), (7, [(4, 6, ⟨[(73, kB)], [68, 69, 70, 71, 72]⟩)]), (21, [(4, 4, ⟨[(125, kB)], [122, 123, 124]⟩), (9, 4, ⟨[(130, kB)], [127, 128, 129]⟩)]), (26, [(4, 4, ⟨[(156, kB)], [153, 154, 155]⟩), (9, 4, ⟨[(161, kB)], [158, 159, 160]⟩)]), (31, [(5, 4, ⟨[(190, kB)], [187, 188, 189]⟩)]), (42, [(5, 4, ⟨[(239, kB)], [236, 237, 238]⟩)]), (49, [(3, 4, ⟨[(252, kB)], [249, 250, 251]⟩)])]⟩ [.bool a0, .int .i64 a1, .int .i64 a2, vS a3] R w = sh7 a0 a1 a2 a3 R w := by kernel_rfl
theorem call7 {a0 : Bool} {a1 : Int} {a2 : Int} {a3 : Sl} {w : World} {K : TK [kB] → World → Prop} (h : sh7 a0 a1 a2 a3 (fun vs w' => ∃ t, encK [kB] t = vs ∧ K t w') w) : cl Pg 7 [.bool a0, .int .i64 a1, .int .i64 a2, vS a3] [kB] w K := cl_of Try.func7 (tie7 ..) h
end Go.Proofs.Ytjamgdepbjipdaa.B
