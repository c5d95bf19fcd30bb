/- Printed by sh.py: each Go function as a typed shallow program, and its tie to the code. -/
import Derived.Test.YtkhalaoonamkjaaSound4
import Derived.Test.YtkhalaoonamkjaaProg
namespace Go.Proofs.Ytkhalaoonamkjaa.B
open Go Go.Proofs
set_option linter.unusedVariables false
set_option maxRecDepth 100000
noncomputable abbrev Pg : Program := Try.prog
/-- detent/order.New -/
def sh28 (a0 : Bool) (R : List Value → World → Prop) (w : World) : Prop :=
 al w 42 [.slice none 0 0, .bool a0] fun b1 w2 =>
 R [.pointer (some ⟨b1, 0, none⟩)] w2
theorem tie28 (a0 : Bool) (R : List Value → World → Prop) (w : World) : compF Pg Try.f28 ⟨[], [], [], []⟩ [.bool a0] R w = sh28 a0 R w := by kernel_rfl
theorem call28 {a0 : Bool} {w : World} {K : TK [kP] → World → Prop} (h : sh28 a0 (fun vs w' => ∃ t, encK [kP] t = vs ∧ K t w') w) : cl Pg 28 [.bool a0] [kP] w K := cl_of Try.func28 (tie28 ..) h
/-- detent/flag.NewFlag -/
def sh10 (a0 : Bool) (a1 : Bool) (a2 : Bool) (a3 : Int) (R : List Value → World → Prop) (w : World) : Prop :=
 cl Pg 28 [.bool a0] [kP] w fun (r1 : Option Addr × Unit) w2 =>
 ef Pg (Instr.makeMap 34 none) [kM] w2 fun (r3 : Option Nat × Unit) w4 =>
 al w4 36 [.pointer r1.1, .int .u32 a3, .bool a1, .bool a2, .map r3.1] fun b5 w6 =>
 R [.pointer (some ⟨b5, 0, none⟩)] w6
theorem tie10 (a0 : Bool) (a1 : Bool) (a2 : Bool) (a3 : Int) (R : List Value → World → Prop) (w : World) : compF Pg Try.f10 ⟨[], [], [], []⟩ [.bool a0, .bool a1, .bool a2, .int .u32 a3] R w = sh10 a0 a1 a2 a3 R w := by kernel_rfl
theorem call10 {a0 : Bool} {a1 : Bool} {a2 : Bool} {a3 : Int} {w : World} {K : TK [kP] → World → Prop} (h : sh10 a0 a1 a2 a3 (fun vs w' => ∃ t, encK [kP] t = vs ∧ K t w') w) : cl Pg 10 [.bool a0, .bool a1, .bool a2, .int .u32 a3] [kP] w K := cl_of Try.func10 (tie10 ..) h
/-- (*detent/order.Line).Len -/
def sh13 (a0 : Option Addr) (R : List Value → World → Prop) (w : World) : Prop :=
 nn a0 fun b1 o2 =>
 ldS w b1 o2 fun s3 =>
 R [.int .i64 (s3.len : Int)] w
theorem tie13 (a0 : Option Addr) (R : List Value → World → Prop) (w : World) : compF Pg Try.f13 ⟨[], [], [], []⟩ [.pointer a0] R w = sh13 a0 R w := by kernel_rfl
theorem call13 {a0 : Option Addr} {w : World} {K : TK [kI] → World → Prop} (h : sh13 a0 (fun vs w' => ∃ t, encK [kI] t = vs ∧ K t w') w) : cl Pg 13 [.pointer a0] [kI] w K := cl_of Try.func13 (tie13 ..) h
/-- (detent/flag.wish).met -/
def sh31 (a0 : (Int × Int × Unit)) (a1 : Int) (R : List Value → World → Prop) (w : World) : Prop :=
 al w 75 [.int .u32 a0.1, .int .i64 a0.2.1] fun b1 w2 =>
 ldI w2 .i64 b1 (0 + 1) fun n3 =>
 cs ((n3 : Int) == (0 : Int)) (
 ldI w2 .u32 b1 0 fun n4 =>
 jn [kB] w2 (fun (t6 : Bool × Unit) w7 =>
 R [.bool t6.1] w7) fun J5 w8 =>
 cs ((n4 : Int) != (0 : Int)) (
 ldI w8 .u32 b1 0 fun n9 =>
 ldI w8 .u32 b1 0 fun n10 =>
 J5 ((bAnd .u32 a1 n9 : Int) == (n10 : Int), ()) w8) (
 J5 (false, ()) w8)) (
 ldI w2 .u32 b1 0 fun n11 =>
 R [.bool ((bAnd .u32 a1 n11 : Int) != (0 : Int))] w2)
theorem tie31 (a0 : (Int × Int × Unit)) (a1 : Int) (R : List Value → World → Prop) (w : World) : compF Pg Try.f31 ⟨[], [], [], [(2, [(4, 8, ⟨[(19, kB)], [12, 13, 14, 15, 16, 17, 18]⟩)])]⟩ [.agg #[.int .u32 a0.1, .int .i64 a0.2.1], .int .u32 a1] R w = sh31 a0 a1 R w := by kernel_rfl
theorem call31 {a0 : (Int × Int × Unit)} {a1 : Int} {w : World} {K : TK [kB] → World → Prop} (h : sh31 a0 a1 (fun vs w' => ∃ t, encK [kB] t = vs ∧ K t w') w) : cl Pg 31 [.agg #[.int .u32 a0.1, .int .i64 a0.2.1], .int .u32 a1] [kB] w K := cl_of Try.func31 (tie31 ..) h
/-- (*detent/flag.Flag).Poll -/
def sh15 (a0 : Option Addr) (a1 : Int) (a2 : Int) (R : List Value → World → Prop) (w : World) : Prop :=
 jn [kB] w (fun (t2 : Bool × Unit) w3 =>
 cs t2.1 (
 R [.int .u32 0, .bool false, .int .i64 (-17)] w3) (
 nn a0 fun b5 o6 =>
 ldB w3 b5 (o6 + 2) fun b7 =>
 jn [kB] w3 (fun (t9 : Bool × Unit) w10 =>
 cs t9.1 (
 R [.int .u32 0, .bool false, .int .i64 (-28)] w10) (
 nn a0 fun b12 o13 =>
 ldI w10 .u32 b12 (o13 + 1) fun n14 =>
 cl Pg 31 [.agg #[.int .u32 a1, .int .i64 a2], .int .u32 n14] [kB] w10 fun (r15 : Bool × Unit) w16 =>
 cs (!r15.1) (
 R [.int .u32 0, .bool false, .int .i64 0] w16) (
 nn a0 fun b17 o18 =>
 ldI w16 .u32 b17 (o18 + 1) fun n19 =>
 nn a0 fun b20 o21 =>
 ldB w16 b20 (o21 + 3) fun b22 =>
 jn [] w16 (fun (t24 : Unit) w25 =>
 R [.int .u32 n19, .bool true, .int .i64 0] w25) fun J23 w26 =>
 cs b22 (
 nn a0 fun b27 o28 =>
 st1 w26 b27 (o28 + 1) (.int .u32 0) fun w29 =>
 J23 () w29) (
 J23 () w26)))) fun J8 w11 =>
 cs (!b7) (
 nn a0 fun b30 o31 =>
 ldP w11 b30 o31 fun p32 =>
 nn p32 fun b33 o34 =>
 cl Pg 13 [.pointer (some ⟨b33, o34, none⟩)] [kI] w11 fun (r35 : Int × Unit) w36 =>
 J8 (decide ((r35.1 : Int) > (0 : Int)), ()) w36) (
 J8 (false, ()) w11))) fun J1 w4 =>
 cs ((a1 : Int) == (0 : Int)) (
 J1 (true, ()) w4) (
 jn [kB] w4 (fun (t38 : Bool × Unit) w39 =>
 J1 (t38.1, ()) w39) fun J37 w40 =>
 cs ((a2 : Int) != (0 : Int)) (
 J37 ((a2 : Int) != (1 : Int), ()) w40) (
 J37 (false, ()) w40))
theorem tie15 (a0 : Option Addr) (a1 : Int) (a2 : Int) (R : List Value → World → Prop) (w : World) : compF Pg Try.f15 ⟨[(4, ⟨[], [55, 56, 57]⟩)], [], [], [(1, [(3, 7, ⟨[(20, kB)], [14, 15, 16, 17, 18, 19]⟩), (6, 3, ⟨[(19, kB)], [17, 18]⟩)]), (3, [(6, 9, ⟨[(36, kB)], [28, 29, 30, 31, 32, 33, 34, 35]⟩)])]⟩ [.pointer a0, .int .u32 a1, .int .i64 a2] R w = sh15 a0 a1 a2 R w := by kernel_rfl
theorem call15 {a0 : Option Addr} {a1 : Int} {a2 : Int} {w : World} {K : TK [.l (.i .u32), kB, kI] → World → Prop} (h : sh15 a0 a1 a2 (fun vs w' => ∃ t, encK [.l (.i .u32), kB, kI] t = vs ∧ K t w') w) : cl Pg 15 [.pointer a0, .int .u32 a1, .int .i64 a2] [.l (.i .u32), kB, kI] w K := cl_of Try.func15 (tie15 ..) h
/-- slices.IndexFunc[[]detent/order.Item,detent/order.Item] -/
def sh50 (a0 : Sl) (a1 : Fv) (R : List Value → World → Prop) (w : World) : Prop :=
 lp [kI] w ((0 : Int), ()) fun (t1 : Int × Unit) J2 w3 =>
 cs (decide ((t1.1 : Int) < ((a0.len : Int) : Int))) (
 ix a0 t1.1 2 fun b4 o5 =>
 ldI w3 .i64 b4 o5 fun n6 =>
 ldI w3 .i64 b4 (o5 + 1) fun n7 =>
 ob (enterable Pg a1.fid = true) (
 cl Pg a1.fid (a1.pre ++ ([.agg #[.int .i64 n6, .int .i64 n7]] ++ a1.post)) [kB] w3 fun (r8 : Bool × Unit) w9 =>
 cs r8.1 (
 R [.int .i64 t1.1] w9) (
 J2 (w64 (t1.1 + 1), ()) w9))) (
 R [.int .i64 (-1)] w3)
theorem tie50 (a0 : Sl) (a1 : Fv) (R : List Value → World → Prop) (w : World) : compF Pg Try.f50 ⟨[(1, ⟨[(8, kI)], [4, 5, 9, 10, 11, 12, 13, 14, 15, 16, 17, 18]⟩)], [], [], []⟩ [vS a0, vF a1] R w = sh50 a0 a1 R w := by kernel_rfl
theorem call50 {a0 : Sl} {a1 : Fv} {w : World} {K : TK [kI] → World → Prop} (h : sh50 a0 a1 (fun vs w' => ∃ t, encK [kI] t = vs ∧ K t w') w) : cl Pg 50 [vS a0, vF a1] [kI] w K := cl_of Try.func50 (tie50 ..) h
/-- (*detent/order.Line).at$1 -/
def sh51 (a0 : (Int × Int × Unit)) (c0 : Nat) (R : List Value → World → Prop) (w : World) : Prop :=
 al w 78 [.int .i64 a0.1, .int .i64 a0.2.1] fun b1 w2 =>
 ldI w2 .i64 b1 0 fun n3 =>
 ldI w2 .i64 c0 0 fun n4 =>
 R [.bool ((n3 : Int) == (n4 : Int))] w2
theorem tie51 (a0 : (Int × Int × Unit)) (c0 : Nat) (R : List Value → World → Prop) (w : World) : compF Pg Try.f51 ⟨[], [], [], []⟩ [.agg #[.int .i64 a0.1, .int .i64 a0.2.1], .pointer (some ⟨c0, 0, none⟩)] R w = sh51 a0 c0 R w := by kernel_rfl
theorem call51 {a0 : (Int × Int × Unit)} {c0 : Nat} {w : World} {K : TK [kB] → World → Prop} (h : sh51 a0 c0 (fun vs w' => ∃ t, encK [kB] t = vs ∧ K t w') w) : cl Pg 51 [.agg #[.int .i64 a0.1, .int .i64 a0.2.1], .pointer (some ⟨c0, 0, none⟩)] [kB] w K := cl_of Try.func51 (tie51 ..) h
/-- (*detent/order.Line).at -/
def sh33 (a0 : Option Addr) (a1 : Int) (R : List Value → World → Prop) (w : World) : Prop :=
 al w 3 [.int .i64 a1] fun b1 w2 =>
 nn a0 fun b3 o4 =>
 ldS w2 b3 o4 fun s5 =>
 cl Pg 50 [vS s5, .func (.func 51) #[] #[.pointer (some ⟨b1, 0, none⟩)]] [kI] w2 fun (r6 : Int × Unit) w7 =>
 R [.int .i64 r6.1] w7
theorem tie33 (a0 : Option Addr) (a1 : Int) (R : List Value → World → Prop) (w : World) : compF Pg Try.f33 ⟨[], [], [], []⟩ [.pointer a0, .int .i64 a1] R w = sh33 a0 a1 R w := by kernel_rfl
theorem call33 {a0 : Option Addr} {a1 : Int} {w : World} {K : TK [kI] → World → Prop} (h : sh33 a0 a1 (fun vs w' => ∃ t, encK [kI] t = vs ∧ K t w') w) : cl Pg 33 [.pointer a0, .int .i64 a1] [kI] w K := cl_of Try.func33 (tie33 ..) h
/-- (*detent/order.Line).Has -/
def sh14 (a0 : Option Addr) (a1 : Int) (R : List Value → World → Prop) (w : World) : Prop :=
 cl Pg 33 [.pointer a0, .int .i64 a1] [kI] w fun (r1 : Int × Unit) w2 =>
 R [.bool (decide ((r1.1 : Int) ≥ (0 : Int)))] w2
theorem tie14 (a0 : Option Addr) (a1 : Int) (R : List Value → World → Prop) (w : World) : compF Pg Try.f14 ⟨[], [], [], []⟩ [.pointer a0, .int .i64 a1] R w = sh14 a0 a1 R w := by kernel_rfl
theorem call14 {a0 : Option Addr} {a1 : Int} {w : World} {K : TK [kB] → World → Prop} (h : sh14 a0 a1 (fun vs w' => ∃ t, encK [kB] t = vs ∧ K t w') w) : cl Pg 14 [.pointer a0, .int .i64 a1] [kB] w K := cl_of Try.func14 (tie14 ..) h
/-- detent/order.may -/
def sh40 (a0 : Int) (R : List Value → World → Prop) (w : World) : Prop :=
 jn [kB] w (fun (t2 : Bool × Unit) w3 =>
 R [.bool t2.1] w3) fun J1 w4 =>
 cs (decide ((a0 : Int) ≥ (1 : Int))) (
 J1 (decide ((a0 : Int) ≤ (16 : Int)), ()) w4) (
 J1 (false, ()) w4)
theorem tie40 (a0 : Int) (R : List Value → World → Prop) (w : World) : compF Pg Try.f40 ⟨[], [], [], [(1, [(3, 3, ⟨[(8, kB)], [6, 7]⟩)])]⟩ [.int .i64 a0] R w = sh40 a0 R w := by kernel_rfl
theorem call40 {a0 : Int} {w : World} {K : TK [kB] → World → Prop} (h : sh40 a0 (fun vs w' => ∃ t, encK [kB] t = vs ∧ K t w') w) : cl Pg 40 [.int .i64 a0] [kB] w K := cl_of Try.func40 (tie40 ..) h
/-- slices.Reverse[[]detent/order.Item,detent/order.Item] -/
def sh59 (a0 : Sl) (R : List Value → World → Prop) (w : World) : Prop :=
 lp [kI, kI] w ((0 : Int), w64 ((a0.len : Int) - 1), ()) fun (t1 : Int × Int × Unit) J2 w3 =>
 cs (decide ((t1.1 : Int) < (t1.2.1 : Int))) (
 dr w3 fun w4 =>
 ix a0 t1.2.1 2 fun b5 o6 =>
 ldI w4 .i64 b5 o6 fun n7 =>
 ldI w4 .i64 b5 (o6 + 1) fun n8 =>
 ix a0 t1.1 2 fun b9 o10 =>
 ldI w4 .i64 b9 o10 fun n11 =>
 ldI w4 .i64 b9 (o10 + 1) fun n12 =>
 ix a0 t1.1 2 fun b13 o14 =>
 st1 w4 b13 o14 (.int .i64 n7) fun w15 =>
 st1 w15 b13 (o14 + 1) (.int .i64 n8) fun w16 =>
 ix a0 t1.2.1 2 fun b17 o18 =>
 st1 w16 b17 o18 (.int .i64 n11) fun w19 =>
 st1 w19 b17 (o18 + 1) (.int .i64 n12) fun w20 =>
 J2 (w64 (t1.1 + 1), w64 (t1.2.1 - 1), ()) w20) (
 R [] w3)
theorem tie59 (a0 : Sl) (R : List Value → World → Prop) (w : World) : compF Pg Try.f59 ⟨[(1, ⟨[(2, kI), (3, kI)], [7, 8, 9, 10, 11, 12, 13, 14, 15, 16, 17, 18, 19, 20, 21, 22, 23, 24, 25, 26, 27]⟩)], [], [(3, .l [(0, []), (1, []), (2, []), (3, []), (4, []), (5, []), (6, []), (7, []), (8, []), (9, []), (10, []), (11, []), (12, []), (13, [12, 7, 0, 1, 4, 5, 6, 11, 10, 8, 9]), (14, []), (15, [14, 11, 13, 0, 1, 2, 3, 4, 5, 6, 7, 8, 9, 10, 12])])], []⟩ [vS a0] R w = sh59 a0 R w := by kernel_rfl
theorem call59 {a0 : Sl} {w : World} {K : TK [] → World → Prop} (h : sh59 a0 (fun vs w' => ∃ t, encK [] t = vs ∧ K t w') w) : cl Pg 59 [vS a0] [] w K := cl_of Try.func59 (tie59 ..) h
/-- slices.rotateLeft[detent/order.Item] -/
def sh58 (a0 : Sl) (a1 : Int) (R : List Value → World → Prop) (w : World) : Prop :=
 sb a0 0 a1 a0.cap 2 fun s1 =>
 cl Pg 59 [vS s1] [] w fun (r2 : Unit) w3 =>
 sb a0 a1 a0.len a0.cap 2 fun s4 =>
 cl Pg 59 [vS s4] [] w3 fun (r5 : Unit) w6 =>
 cl Pg 59 [vS a0] [] w6 fun (r7 : Unit) w8 =>
 R [] w8
theorem tie58 (a0 : Sl) (a1 : Int) (R : List Value → World → Prop) (w : World) : compF Pg Try.f58 ⟨[], [], [], []⟩ [vS a0, .int .i64 a1] R w = sh58 a0 a1 R w := by kernel_rfl
theorem call58 {a0 : Sl} {a1 : Int} {w : World} {K : TK [] → World → Prop} (h : sh58 a0 a1 (fun vs w' => ∃ t, encK [] t = vs ∧ K t w') w) : cl Pg 58 [vS a0, .int .i64 a1] [] w K := cl_of Try.func58 (tie58 ..) h
/-- slices.rotateRight[detent/order.Item] -/
def sh57 (a0 : Sl) (a1 : Int) (R : List Value → World → Prop) (w : World) : Prop :=
 cl Pg 58 [vS a0, .int .i64 (w64 ((a0.len : Int) - a1))] [] w fun (r1 : Unit) w2 =>
 R [] w2
theorem tie57 (a0 : Sl) (a1 : Int) (R : List Value → World → Prop) (w : World) : compF Pg Try.f57 ⟨[], [], [], []⟩ [vS a0, .int .i64 a1] R w = sh57 a0 a1 R w := by kernel_rfl
theorem call57 {a0 : Sl} {a1 : Int} {w : World} {K : TK [] → World → Prop} (h : sh57 a0 a1 (fun vs w' => ∃ t, encK [] t = vs ∧ K t w') w) : cl Pg 57 [vS a0, .int .i64 a1] [] w K := cl_of Try.func57 (tie57 ..) h
/-- slices.Insert[[]detent/order.Item,detent/order.Item] -/
def sh54 (a0 : Sl) (a1 : Int) (a2 : Sl) (R : List Value → World → Prop) (w : World) : Prop :=
 sb a0 a1 a0.len a0.cap 2 fun s1 =>
 cs (((a2.len : Int) : Int) == (0 : Int)) (
 R [vS a0] w) (
 cs ((a1 : Int) == ((a0.len : Int) : Int)) (
 ef Pg (Builtin.append_ #[38, 38] 38 #[vS a0, vS a2]) [kS] w fun (r2 : Sl × Unit) w3 =>
 R [vS r2.1] w3) (
 cs (decide ((w64 ((a0.len : Int) + (a2.len : Int)) : Int) > ((a0.cap : Int) : Int))) (
 sb a0 0 a1 a0.cap 2 fun s4 =>
 ef Pg (Builtin.append_ #[38, 3] 38 #[vS s4, .int .i64 (w64 ((w64 ((a0.len : Int) + (a2.len : Int))) - a1))]) [kS] w fun (r5 : Sl × Unit) w6 =>
 sb r5.1 a1 r5.1.len r5.1.cap 2 fun s7 =>
 ef Pg (Builtin.copy_ #[38, 38] 3 #[vS s7, vS a2]) [kI] w6 fun (r8 : Int × Unit) w9 =>
 dr w9 fun w10 =>
 sb r5.1 (w64 (a1 + (a2.len : Int))) r5.1.len r5.1.cap 2 fun s11 =>
 sb a0 a1 a0.len a0.cap 2 fun s12 =>
 ef Pg (Builtin.copy_ #[38, 38] 3 #[vS s11, vS s12]) [kI] w10 fun (r13 : Int × Unit) w14 =>
 R [vS r5.1] w14) (
 sb a0 0 (w64 ((a0.len : Int) + (a2.len : Int))) a0.cap 2 fun s15 =>
 sb s15 (w64 (a1 + (a2.len : Int))) s15.len s15.cap 2 fun s16 =>
 xt Pg 56 [vS a2, vS s16] [kB] w fun (r17 : Bool × Unit) w18 =>
 cs (!r17.1) (
 dr w18 fun w19 =>
 sb s15 (w64 (a1 + (a2.len : Int))) s15.len s15.cap 2 fun s20 =>
 sb s15 a1 s15.len s15.cap 2 fun s21 =>
 ef Pg (Builtin.copy_ #[38, 38] 3 #[vS s20, vS s21]) [kI] w19 fun (r22 : Int × Unit) w23 =>
 sb s15 a1 s15.len s15.cap 2 fun s24 =>
 ef Pg (Builtin.copy_ #[38, 38] 3 #[vS s24, vS a2]) [kI] w23 fun (r25 : Int × Unit) w26 =>
 R [vS s15] w26) (
 sb s15 (a0.len : Int) s15.len s15.cap 2 fun s27 =>
 ef Pg (Builtin.copy_ #[38, 38] 3 #[vS s27, vS a2]) [kI] w18 fun (r28 : Int × Unit) w29 =>
 sb s15 a1 s15.len s15.cap 2 fun s30 =>
 cl Pg 57 [vS s30, .int .i64 (a2.len : Int)] [] w29 fun (r31 : Unit) w32 =>
 R [vS s15] w32))))
theorem tie54 (a0 : Sl) (a1 : Int) (a2 : Sl) (R : List Value → World → Prop) (w : World) : compF Pg Try.f54 ⟨[], [], [(11, .l [(0, []), (1, []), (2, []), (3, []), (4, []), (5, []), (6, []), (7, []), (8, [4, 7, 0, 3, 5, 6, 1, 2])]), (15, .l [(0, []), (1, []), (2, []), (3, []), (4, []), (5, []), (6, []), (7, []), (8, [4, 7, 0, 3, 5, 6, 1, 2])])], []⟩ [vS a0, .int .i64 a1, vS a2] R w = sh54 a0 a1 a2 R w := by kernel_rfl
theorem call54 {a0 : Sl} {a1 : Int} {a2 : Sl} {w : World} {K : TK [kS] → World → Prop} (h : sh54 a0 a1 a2 (fun vs w' => ∃ t, encK [kS] t = vs ∧ K t w') w) : cl Pg 54 [vS a0, .int .i64 a1, vS a2] [kS] w K := cl_of Try.func54 (tie54 ..) h
/-- (*detent/order.Queue).put -/
def sh41 (a0 : Option Addr) (a1 : (Int × Int × Unit)) (R : List Value → World → Prop) (w : World) : Prop :=
 al w 78 [.int .i64 a1.1, .int .i64 a1.2.1] fun b1 w2 =>
 nn a0 fun b3 o4 =>
 ldS w2 b3 o4 fun s5 =>
 lp [kI] w2 ((s5.len : Int), ()) fun (t6 : Int × Unit) J7 w8 =>
 dr w8 fun w9 =>
 jn [kB] w9 (fun (t11 : Bool × Unit) w12 =>
 cs t11.1 (
 J7 (w64 (t6.1 - 1), ()) w12) (
 dr w12 fun w14 =>
 nn a0 fun b15 o16 =>
 ldS w14 b15 o16 fun s17 =>
 ldI w14 .i64 b1 0 fun n18 =>
 ldI w14 .i64 b1 (0 + 1) fun n19 =>
 al w14 78 [.int .i64 n18, .int .i64 n19] fun b20 w21 =>
(w21.cell? ⟨b15, o16, none⟩ = some (vS s17)) ∧ (
 cl Pg 54 [vS s17, .int .i64 t6.1, vS ⟨some ⟨b20, 0, none⟩, 1, 1⟩] [kS] w21 fun (r22 : Sl × Unit) w23 =>
 nn a0 fun b24 o25 =>
 st1 w23 b24 o25 (vS r22.1) fun w26 =>
 R [] w26))) fun J10 w13 =>
 nn a0 fun b27 o28 =>
 ldB w13 b27 (o28 + 1) fun b29 =>
 cs b29 (
 cs (decide ((t6.1 : Int) > (0 : Int))) (
 nn a0 fun b30 o31 =>
 ldS w13 b30 o31 fun s32 =>
 ix s32 (w64 (t6.1 - 1)) 2 fun b33 o34 =>
 ldI w13 .i64 b33 (o34 + 1) fun n35 =>
 ldI w13 .i64 b1 (0 + 1) fun n36 =>
 J10 (decide ((n35 : Int) > (n36 : Int)), ()) w13) (
 J10 (false, ()) w13)) (
 J10 (false, ()) w13)
theorem tie41 (a0 : Option Addr) (a1 : (Int × Int × Unit)) (R : List Value → World → Prop) (w : World) : compF Pg Try.f41 ⟨[(1, ⟨[(4, kI)], [11, 12, 13, 14, 15, 16, 17, 18, 19, 20, 21, 22, 23, 24, 25, 26, 27, 28, 29, 30, 31, 32, 33, 34, 35]⟩)], [(2, ⟨[(33, kB)], [11, 12, 13, 14, 15, 16, 17, 18, 19, 20, 21, 22, 23, 24, 25, 26, 27, 28, 29, 30, 31, 32]⟩)], [(2, .l [(0, []), (1, []), (2, []), (3, []), (4, []), (5, []), (6, []), (7, []), (8, []), (9, []), (10, []), (11, []), (12, []), (13, []), (14, []), (15, []), (16, []), (17, []), (18, []), (19, []), (20, []), (21, []), (22, [])]), (4, .l [(0, []), (1, []), (2, []), (3, []), (4, []), (5, []), (6, []), (7, []), (8, [7]), (9, [5, 6, 8, 4, 7, 3, 2, 1]), (10, []), (11, []), (12, []), (13, [12, 9, 0, 1, 2, 3, 4, 5, 6, 7, 8, 11, 10])])], []⟩ [.pointer a0, .agg #[.int .i64 a1.1, .int .i64 a1.2.1]] R w = sh41 a0 a1 R w := by kernel_rfl
theorem call41 {a0 : Option Addr} {a1 : (Int × Int × Unit)} {w : World} {K : TK [] → World → Prop} (h : sh41 a0 a1 (fun vs w' => ∃ t, encK [] t = vs ∧ K t w') w) : cl Pg 41 [.pointer a0, .agg #[.int .i64 a1.1, .int .i64 a1.2.1]] [] w K := cl_of Try.func41 (tie41 ..) h
/-- (*detent/order.Queue).Add -/
def sh29 (a0 : Option Addr) (a1 : Int) (a2 : Int) (R : List Value → World → Prop) (w : World) : Prop :=
 jn [kB] w (fun (t2 : Bool × Unit) w3 =>
 jn [kB] w3 (fun (t6 : Bool × Unit) w7 =>
 cs t6.1 (
 R [.int .i64 (-17)] w7) (
 nn a0 fun b9 o10 =>
 cl Pg 14 [.pointer (some ⟨b9, o10, none⟩), .int .i64 a1] [kB] w7 fun (r11 : Bool × Unit) w12 =>
 cs r11.1 (
 R [.int .i64 (-41)] w12) (
 cl Pg 41 [.pointer a0, .agg #[.int .i64 a1, .int .i64 a2]] [] w12 fun (r13 : Unit) w14 =>
 R [.int .i64 0] w14))) fun J5 w8 =>
 cs t2.1 (
 J5 (true, ()) w8) (
 cl Pg 40 [.int .i64 a2] [kB] w8 fun (r15 : Bool × Unit) w16 =>
 J5 (!r15.1, ()) w16)) fun J1 w4 =>
 cs (decide ((a1 : Int) < (1 : Int))) (
 J1 (true, ()) w4) (
 J1 (decide ((a1 : Int) > (16 : Int)), ()) w4)
theorem tie29 (a0 : Option Addr) (a1 : Int) (a2 : Int) (R : List Value → World → Prop) (w : World) : compF Pg Try.f29 ⟨[], [], [], [(1, [(3, 3, ⟨[(13, kB)], [11, 12]⟩), (7, 4, ⟨[(18, kB)], [15, 16, 17]⟩)])]⟩ [.pointer a0, .int .i64 a1, .int .i64 a2] R w = sh29 a0 a1 a2 R w := by kernel_rfl
theorem call29 {a0 : Option Addr} {a1 : Int} {a2 : Int} {w : World} {K : TK [kI] → World → Prop} (h : sh29 a0 a1 a2 (fun vs w' => ∃ t, encK [kI] t = vs ∧ K t w') w) : cl Pg 29 [.pointer a0, .int .i64 a1, .int .i64 a2] [kI] w K := cl_of Try.func29 (tie29 ..) h
/-- (*detent/flag.Flag).Wait -/
def sh11 (a0 : Option Addr) (a1 : Int) (a2 : Int) (a3 : Int) (a4 : Int) (R : List Value → World → Prop) (w : World) : Prop :=
 cl Pg 15 [.pointer a0, .int .u32 a3, .int .i64 a4] [.l (.i .u32), kB, kI] w fun (r1 : Int × Bool × Int × Unit) w2 =>
 jn [kB] w2 (fun (t4 : Bool × Unit) w5 =>
 cs t4.1 (
 R [.int .u32 r1.1, .bool r1.2.1, .int .i64 r1.2.2.1] w5) (
 nn a0 fun b7 o8 =>
 ldP w5 b7 o8 fun p9 =>
 cl Pg 29 [.pointer p9, .int .i64 a1, .int .i64 a2] [kI] w5 fun (r10 : Int × Unit) w11 =>
 cs ((r10.1 : Int) != (0 : Int)) (
 R [.int .u32 0, .bool false, .int .i64 r10.1] w11) (
 nn a0 fun b12 o13 =>
 ldM w11 b12 (o13 + 4) fun m14 =>
 efU Pg (Instr.mapUpdate 34 (.map m14) (.int .i64 a1) (.agg #[.int .u32 a3, .int .i64 a4])) w11 fun w15 =>
 R [.int .u32 0, .bool false, .int .i64 0] w15))) fun J3 w6 =>
 cs r1.2.1 (
 J3 (true, ()) w6) (
 J3 ((r1.2.2.1 : Int) != (0 : Int), ()) w6)
theorem tie11 (a0 : Option Addr) (a1 : Int) (a2 : Int) (a3 : Int) (a4 : Int) (R : List Value → World → Prop) (w : World) : compF Pg Try.f11 ⟨[], [], [], [(2, [(2, 3, ⟨[(29, kB)], [27, 28]⟩)])]⟩ [.pointer a0, .int .i64 a1, .int .i64 a2, .int .u32 a3, .int .i64 a4] R w = sh11 a0 a1 a2 a3 a4 R w := by kernel_rfl
theorem call11 {a0 : Option Addr} {a1 : Int} {a2 : Int} {a3 : Int} {a4 : Int} {w : World} {K : TK [.l (.i .u32), kB, kI] → World → Prop} (h : sh11 a0 a1 a2 a3 a4 (fun vs w' => ∃ t, encK [.l (.i .u32), kB, kI] t = vs ∧ K t w') w) : cl Pg 11 [.pointer a0, .int .i64 a1, .int .i64 a2, .int .u32 a3, .int .i64 a4] [.l (.i .u32), kB, kI] w K := cl_of Try.func11 (tie11 ..) h
/-- slices.Delete[[]detent/order.Item,detent/order.Item] -/
def sh53 (a0 : Sl) (a1 : Int) (a2 : Int) (R : List Value → World → Prop) (w : World) : Prop :=
 sb a0 a1 a2 (a0.len : Int) 2 fun s1 =>
 cs ((a1 : Int) == (a2 : Int)) (
 R [vS a0] w) (
 dr w fun w2 =>
 sb a0 0 a1 a0.cap 2 fun s3 =>
 sb a0 a2 a0.len a0.cap 2 fun s4 =>
 ef Pg (Builtin.append_ #[38, 38] 38 #[vS s3, vS s4]) [kS] w2 fun (r5 : Sl × Unit) w6 =>
 sb r5.1 (r5.1.len : Int) (a0.len : Int) r5.1.cap 2 fun s7 =>
 ef Pg (Builtin.clear_ #[38] 0 #[vS s7]) [] w6 fun (r8 : Unit) w9 =>
 R [vS r5.1] w9)
theorem tie53 (a0 : Sl) (a1 : Int) (a2 : Int) (R : List Value → World → Prop) (w : World) : compF Pg Try.f53 ⟨[], [], [(5, .l [(0, []), (1, []), (2, []), (3, []), (4, []), (5, []), (6, [2, 5, 0, 1, 3, 4]), (7, [])])], []⟩ [vS a0, .int .i64 a1, .int .i64 a2] R w = sh53 a0 a1 a2 R w := by kernel_rfl
theorem call53 {a0 : Sl} {a1 : Int} {a2 : Int} {w : World} {K : TK [kS] → World → Prop} (h : sh53 a0 a1 a2 (fun vs w' => ∃ t, encK [kS] t = vs ∧ K t w') w) : cl Pg 53 [vS a0, .int .i64 a1, .int .i64 a2] [kS] w K := cl_of Try.func53 (tie53 ..) h
/-- (*detent/order.Line).Remove -/
def sh38 (a0 : Option Addr) (a1 : Int) (R : List Value → World → Prop) (w : World) : Prop :=
 cl Pg 33 [.pointer a0, .int .i64 a1] [kI] w fun (r1 : Int × Unit) w2 =>
 cs (decide ((r1.1 : Int) < (0 : Int))) (
 R [.bool false] w2) (
 nn a0 fun b3 o4 =>
 ldS w2 b3 o4 fun s5 =>
 cl Pg 53 [vS s5, .int .i64 r1.1, .int .i64 (w64 (r1.1 + 1))] [kS] w2 fun (r6 : Sl × Unit) w7 =>
 nn a0 fun b8 o9 =>
 st1 w7 b8 o9 (vS r6.1) fun w10 =>
 R [.bool true] w10)
theorem tie38 (a0 : Option Addr) (a1 : Int) (R : List Value → World → Prop) (w : World) : compF Pg Try.f38 ⟨[], [], [], []⟩ [.pointer a0, .int .i64 a1] R w = sh38 a0 a1 R w := by kernel_rfl
theorem call38 {a0 : Option Addr} {a1 : Int} {w : World} {K : TK [kB] → World → Prop} (h : sh38 a0 a1 (fun vs w' => ∃ t, encK [kB] t = vs ∧ K t w') w) : cl Pg 38 [.pointer a0, .int .i64 a1] [kB] w K := cl_of Try.func38 (tie38 ..) h
/-- (*detent/flag.Flag).Drop -/
def sh22 (a0 : Option Addr) (a1 : Int) (R : List Value → World → Prop) (w : World) : Prop :=
 nn a0 fun b1 o2 =>
 ldM w b1 (o2 + 4) fun m3 =>
 ef Pg (Builtin.delete_ #[34, 3] 0 #[.map m3, .int .i64 a1]) [] w fun (r4 : Unit) w5 =>
 nn a0 fun b6 o7 =>
 ldP w5 b6 o7 fun p8 =>
 nn p8 fun b9 o10 =>
 cl Pg 38 [.pointer (some ⟨b9, o10, none⟩), .int .i64 a1] [kB] w5 fun (r11 : Bool × Unit) w12 =>
 R [.bool r11.1] w12
theorem tie22 (a0 : Option Addr) (a1 : Int) (R : List Value → World → Prop) (w : World) : compF Pg Try.f22 ⟨[], [], [], []⟩ [.pointer a0, .int .i64 a1] R w = sh22 a0 a1 R w := by kernel_rfl
theorem call22 {a0 : Option Addr} {a1 : Int} {w : World} {K : TK [kB] → World → Prop} (h : sh22 a0 a1 (fun vs w' => ∃ t, encK [kB] t = vs ∧ K t w') w) : cl Pg 22 [.pointer a0, .int .i64 a1] [kB] w K := cl_of Try.func22 (tie22 ..) h
/-- slices.Clip[[]detent/order.Item,detent/order.Item] -/
def sh48 (a0 : Sl) (R : List Value → World → Prop) (w : World) : Prop :=
 sb a0 0 (a0.len : Int) (a0.len : Int) 2 fun s1 =>
 R [vS s1] w
theorem tie48 (a0 : Sl) (R : List Value → World → Prop) (w : World) : compF Pg Try.f48 ⟨[], [], [], []⟩ [vS a0] R w = sh48 a0 R w := by kernel_rfl
theorem call48 {a0 : Sl} {w : World} {K : TK [kS] → World → Prop} (h : sh48 a0 (fun vs w' => ∃ t, encK [kS] t = vs ∧ K t w') w) : cl Pg 48 [vS a0] [kS] w K := cl_of Try.func48 (tie48 ..) h
/-- slices.Clone[[]detent/order.Item,detent/order.Item] -/
def sh49 (a0 : Sl) (R : List Value → World → Prop) (w : World) : Prop :=
 cs a0.a.isNone (
 R [.slice none 0 0] w) (
 al w 78 [] fun b1 w2 =>
 ef Pg (Builtin.append_ #[38, 38] 38 #[vS ⟨some ⟨b1, 0, none⟩, 0, 0⟩, vS a0]) [kS] w2 fun (r3 : Sl × Unit) w4 =>
 R [vS r3.1] w4)
theorem tie49 (a0 : Sl) (R : List Value → World → Prop) (w : World) : compF Pg Try.f49 ⟨[], [], [], []⟩ [vS a0] R w = sh49 a0 R w := by kernel_rfl
theorem call49 {a0 : Sl} {w : World} {K : TK [kS] → World → Prop} (h : sh49 a0 (fun vs w' => ∃ t, encK [kS] t = vs ∧ K t w') w) : cl Pg 49 [vS a0] [kS] w K := cl_of Try.func49 (tie49 ..) h
/-- (*detent/order.Line).Row -/
def sh30 (a0 : Option Addr) (R : List Value → World → Prop) (w : World) : Prop :=
 nn a0 fun b1 o2 =>
 ldS w b1 o2 fun s3 =>
 cl Pg 49 [vS s3] [kS] w fun (r4 : Sl × Unit) w5 =>
 cl Pg 48 [vS r4.1] [kS] w5 fun (r6 : Sl × Unit) w7 =>
 R [vS r6.1] w7
theorem tie30 (a0 : Option Addr) (R : List Value → World → Prop) (w : World) : compF Pg Try.f30 ⟨[], [], [], []⟩ [.pointer a0] R w = sh30 a0 R w := by kernel_rfl
theorem call30 {a0 : Option Addr} {w : World} {K : TK [kS] → World → Prop} (h : sh30 a0 (fun vs w' => ∃ t, encK [kS] t = vs ∧ K t w') w) : cl Pg 30 [.pointer a0] [kS] w K := cl_of Try.func30 (tie30 ..) h
/-- slices.Clip[[]detent/flag.Woken,detent/flag.Woken] -/
def sh32 (a0 : Sl) (R : List Value → World → Prop) (w : World) : Prop :=
 sb a0 0 (a0.len : Int) (a0.len : Int) 2 fun s1 =>
 R [vS s1] w
theorem tie32 (a0 : Sl) (R : List Value → World → Prop) (w : World) : compF Pg Try.f32 ⟨[], [], [], []⟩ [vS a0] R w = sh32 a0 R w := by kernel_rfl
theorem call32 {a0 : Sl} {w : World} {K : TK [kS] → World → Prop} (h : sh32 a0 (fun vs w' => ∃ t, encK [kS] t = vs ∧ K t w') w) : cl Pg 32 [vS a0] [kS] w K := cl_of Try.func32 (tie32 ..) h
/-- (*detent/flag.Flag).Raise -/
def sh12 (a0 : Option Addr) (a1 : Sl) (R : List Value → World → Prop) (w : World) : Prop :=
 lp [kI] w ((0 : Int), ()) fun (t1 : Int × Unit) J2 w3 =>
 cs (decide ((t1.1 : Int) < ((a1.len : Int) : Int))) (
 ix a1 t1.1 1 fun b4 o5 =>
 ldI w3 .u32 b4 o5 fun n6 =>
 nn a0 fun b7 o8 =>
 ldI w3 .u32 b7 (o8 + 1) fun n9 =>
 nn a0 fun b10 o11 =>
 st1 w3 b10 (o11 + 1) (.int .u32 (bOr .u32 n9 n6)) fun w12 =>
 J2 (w64 (t1.1 + 1), ()) w12) (
 nn a0 fun b13 o14 =>
 ldP w3 b13 o14 fun p15 =>
 nn p15 fun b16 o17 =>
 cl Pg 30 [.pointer (some ⟨b16, o17, none⟩)] [kS] w3 fun (r18 : Sl × Unit) w19 =>
 lp [kS, kI] w19 (⟨none, 0, 0⟩, (0 : Int), ()) fun (t20 : Sl × Int × Unit) J21 w22 =>
 cs (decide ((t20.2.1 : Int) < ((r18.1.len : Int) : Int))) (
 ix r18.1 t20.2.1 2 fun b23 o24 =>
 ldI w22 .i64 b23 o24 fun n25 =>
 ldI w22 .i64 b23 (o24 + 1) fun n26 =>
 al w22 78 [.int .i64 0, .int .i64 0] fun b27 w28 =>
 st1 w28 b27 0 (.int .i64 n25) fun w29 =>
 st1 w29 b27 (0 + 1) (.int .i64 n26) fun w30 =>
 dr w30 fun w31 =>
 nn a0 fun b32 o33 =>
 ldM w31 b32 (o33 + 4) fun m34 =>
 ldI w31 .i64 b27 0 fun n35 =>
 nn a0 fun b36 o37 =>
 ldI w31 .u32 b36 (o37 + 1) fun n38 =>
 ef Pg (Instr.lookup 34 (.map m34) (.int .i64 n35) false) [.a [(.i .u32), (.i .i64)]] w31 fun (r39 : (Int × Int × Unit) × Unit) w40 =>
(w40.cell? ⟨b36, o37 + 1, none⟩ = some (.int .u32 n38)) ∧ (
 cl Pg 31 [.agg #[.int .u32 r39.1.1, .int .i64 r39.1.2.1], .int .u32 n38] [kB] w40 fun (r41 : Bool × Unit) w42 =>
 cs (!r41.1) (
 J21 (t20.1, w64 (t20.2.1 + 1), ()) w42) (
 ldI w42 .i64 b27 0 fun n43 =>
 cl Pg 22 [.pointer a0, .int .i64 n43] [kB] w42 fun (r44 : Bool × Unit) w45 =>
 dr w45 fun w46 =>
 ldI w46 .i64 b27 0 fun n47 =>
 nn a0 fun b48 o49 =>
 ldI w46 .u32 b48 (o49 + 1) fun n50 =>
 al w46 48 [.int .i64 n47, .int .u32 n50] fun b51 w52 =>
 ef Pg (Builtin.append_ #[31, 31] 31 #[vS t20.1, vS ⟨some ⟨b51, 0, none⟩, 1, 1⟩]) [kS] w52 fun (r53 : Sl × Unit) w54 =>
 nn a0 fun b55 o56 =>
 ldB w54 b55 (o56 + 3) fun b57 =>
 cs b57 (
 nn a0 fun b58 o59 =>
 st1 w54 b58 (o59 + 1) (.int .u32 0) fun w60 =>
 cl Pg 32 [vS r53.1] [kS] w60 fun (r61 : Sl × Unit) w62 =>
 R [vS r61.1] w62) (
 J21 (r53.1, w64 (t20.2.1 + 1), ()) w54)))) (
 cl Pg 32 [vS t20.1] [kS] w22 fun (r63 : Sl × Unit) w65 =>
 R [vS r63.1] w65))
theorem tie12 (a0 : Option Addr) (a1 : Sl) (R : List Value → World → Prop) (w : World) : compF Pg Try.f12 ⟨[(1, ⟨[(12, kI)], [6, 13, 14, 15, 16, 17, 18, 19, 20, 21, 22, 23, 24]⟩), (5, ⟨[(7, kS), (33, kI)], [9, 34, 35, 36, 37, 38, 39, 40, 41, 42, 43, 44, 45, 46, 47, 48, 49, 50, 51, 52, 53, 54, 55, 56, 57, 58, 59, 60, 61, 62, 63, 64, 65, 66, 67, 68, 69, 70, 71]⟩)], [], [(10, .l [(0, []), (1, []), (2, []), (3, []), (4, []), (5, []), (7, []), (8, []), (9, []), (10, []), (6, [3, 5, 2, 4, 1, 0]), (11, [6, 10, 3, 5, 9, 2, 4, 8, 1, 7, 0]), (12, [])]), (12, .l [(0, []), (1, []), (2, []), (3, []), (4, []), (5, []), (6, []), (7, []), (8, [7, 2, 6, 1, 5, 4, 3]), (9, [0, 8, 7, 2, 6, 1, 5, 4, 3]), (10, [])])], []⟩ [.pointer a0, vS a1] R w = sh12 a0 a1 R w := by kernel_rfl
theorem call12 {a0 : Option Addr} {a1 : Sl} {w : World} {K : TK [kS] → World → Prop} (h : sh12 a0 a1 (fun vs w' => ∃ t, encK [kS] t = vs ∧ K t w') w) : cl Pg 12 [.pointer a0, vS a1] [kS] w K := cl_of Try.func12 (tie12 ..) h
/-- detent/detentlaw12.known -/
def sh9  (R : List Value → World → Prop) (w : World) : Prop :=
 cl Pg 10 [.bool false, .bool true, .bool true, .int .u32 1] [kP] w fun (r1 : Option Addr × Unit) w2 =>
 jn [kB] w2 (fun (t4 : Bool × Unit) w5 =>
 cs t4.1 (
 R [.bool false] w5) (
 cl Pg 11 [.pointer r1.1, .int .i64 1, .int .i64 5, .int .u32 3, .int .i64 0] [.l (.i .u32), kB, kI] w5 fun (r7 : Int × Bool × Int × Unit) w8 =>
 al w8 27 [.int .u32 2, .int .u32 4] fun b9 w10 =>
 cl Pg 12 [.pointer r1.1, vS ⟨some ⟨b9, 0, none⟩, 2, 2⟩] [kS] w10 fun (r11 : Sl × Unit) w12 =>
 cl Pg 15 [.pointer r1.1, .int .u32 0, .int .i64 1] [.l (.i .u32), kB, kI] w12 fun (r13 : Int × Bool × Int × Unit) w14 =>
 jn [kB] w14 (fun (t16 : Bool × Unit) w17 =>
 jn [kB] w17 (fun (t20 : Bool × Unit) w21 =>
 jn [kB] w21 (fun (t24 : Bool × Unit) w25 =>
 jn [kB] w25 (fun (t28 : Bool × Unit) w29 =>
 jn [kB] w29 (fun (t32 : Bool × Unit) w33 =>
 jn [kB] w33 (fun (t36 : Bool × Unit) w37 =>
 jn [kB] w37 (fun (t40 : Bool × Unit) w41 =>
 jn [kB] w41 (fun (t44 : Bool × Unit) w45 =>
 R [.bool t44.1] w45) fun J43 w46 =>
 cs t40.1 (
 nn r1.1 fun b47 o48 =>
 ldP w46 b47 o48 fun p49 =>
 nn p49 fun b50 o51 =>
 cl Pg 13 [.pointer (some ⟨b50, o51, none⟩)] [kI] w46 fun (r52 : Int × Unit) w53 =>
 J43 ((r52.1 : Int) == (0 : Int), ()) w53) (
 J43 (false, ()) w46)) fun J39 w42 =>
 cs t36.1 (
 J39 ((r13.2.2.1 : Int) == ((-17) : Int), ()) w42) (
 J39 (false, ()) w42)) fun J35 w38 =>
 cs t32.1 (
 nn r1.1 fun b54 o55 =>
 ldI w38 .u32 b54 (o55 + 1) fun n56 =>
 J35 ((n56 : Int) == (0 : Int), ()) w38) (
 J35 (false, ()) w38)) fun J31 w34 =>
 cs t28.1 (
 ix r11.1 0 2 fun b57 o58 =>
 ldI w34 .u32 b57 (o58 + 1) fun n59 =>
 J31 ((n59 : Int) == (7 : Int), ()) w34) (
 J31 (false, ()) w34)) fun J27 w30 =>
 cs t24.1 (
 ix r11.1 0 2 fun b60 o61 =>
 ldI w30 .i64 b60 o61 fun n62 =>
 J27 ((n62 : Int) == (1 : Int), ()) w30) (
 J27 (false, ()) w30)) fun J23 w26 =>
 cs t20.1 (
 J23 (((r11.1.len : Int) : Int) == (1 : Int), ()) w26) (
 J23 (false, ()) w26)) fun J19 w22 =>
 cs t16.1 (
 J19 ((r7.2.2.1 : Int) == (0 : Int), ()) w22) (
 J19 (false, ()) w22)) fun J15 w18 =>
 cs ((r7.1 : Int) == (0 : Int)) (
 J15 (!r7.2.1, ()) w18) (
 J15 (false, ()) w18))) fun J3 w6 =>
 cs r1.1.isNone (
 J3 (true, ()) w6) (
 nn r1.1 fun b63 o64 =>
 ldP w6 b63 o64 fun p65 =>
 J3 (p65.isNone, ()) w6)
theorem tie9  (R : List Value → World → Prop) (w : World) : compF Pg Try.f9 ⟨[], [], [], [(2, [(3, 6, ⟨[(18, kB)], [13, 14, 15, 16, 17]⟩)]), (7, [(3, 3, ⟨[(39, kB)], [37, 38]⟩), (7, 3, ⟨[(43, kB)], [41, 42]⟩), (11, 4, ⟨[(48, kB)], [45, 46, 47]⟩), (16, 6, ⟨[(55, kB)], [50, 51, 52, 53, 54]⟩), (23, 6, ⟨[(62, kB)], [57, 58, 59, 60, 61]⟩), (30, 6, ⟨[(69, kB)], [64, 65, 66, 67, 68]⟩), (37, 3, ⟨[(73, kB)], [71, 72]⟩), (41, 9, ⟨[(83, kB)], [75, 76, 77, 78, 79, 80, 81, 82]⟩)])]⟩ [] R w = sh9  R w := by kernel_rfl
theorem call9  {w : World} {K : TK [kB] → World → Prop} (h : sh9  (fun vs w' => ∃ t, encK [kB] t = vs ∧ K t w') w) : cl Pg 9 [] [kB] w K := cl_of Try.func9 (tie9 ..) h
/-- detent/detentlaw12.FlagParts -/
def sh3 (a0 : Sl) (a1 : Sl) (a2 : Sl) (R : List Value → World → Prop) (w : World) : Prop :=
 cl Pg 9 [] [kB] w fun (r1 : Bool × Unit) w2 =>
 cs (!r1.1) (
 R [.bool false] w2) (
 jn [kB] w2 (fun (t4 : Bool × Unit) w5 =>
 jn [kB] w5 (fun (t8 : Bool × Unit) w9 =>
 cs t8.1 (
 R [.bool true] w9) (
 cl Pg 10 [.bool false, .bool true, .bool false, .int .u32 0] [kP] w9 fun (r11 : Option Addr × Unit) w12 =>
 cl Pg 10 [.bool false, .bool true, .bool false, .int .u32 0] [kP] w12 fun (r13 : Option Addr × Unit) w14 =>
 lp [kI] w14 ((0 : Int), ()) fun (t15 : Int × Unit) J16 w17 =>
 cs (decide ((t15.1 : Int) < ((a0.len : Int) : Int))) (
 ix a1 t15.1 1 fun b18 o19 =>
 ldB w17 b18 o19 fun b20 =>
 jn [kI] w17 (fun (t22 : Int × Unit) w23 =>
 ix a0 t15.1 1 fun b25 o26 =>
 ldI w23 .u32 b25 o26 fun n27 =>
 cs ((n27 : Int) == (0 : Int)) (
 R [.bool true] w23) (
 ix a0 t15.1 1 fun b28 o29 =>
 ldI w23 .u32 b28 o29 fun n30 =>
 cl Pg 11 [.pointer r11.1, .int .i64 (w64 (t15.1 + 1)), .int .i64 1, .int .u32 n30, .int .i64 t22.1] [.l (.i .u32), kB, kI] w23 fun (r31 : Int × Bool × Int × Unit) w32 =>
 ix a0 t15.1 1 fun b33 o34 =>
 ldI w32 .u32 b33 o34 fun n35 =>
 cl Pg 11 [.pointer r13.1, .int .i64 (w64 (t15.1 + 1)), .int .i64 1, .int .u32 n35, .int .i64 t22.1] [.l (.i .u32), kB, kI] w32 fun (r36 : Int × Bool × Int × Unit) w37 =>
 J16 (w64 (t15.1 + 1), ()) w37)) fun J21 w24 =>
 cs b20 (
 J21 ((1 : Int), ()) w24) (
 J21 ((0 : Int), ()) w24)) (
 cl Pg 12 [.pointer r11.1, vS a2] [kS] w17 fun (r38 : Sl × Unit) w39 =>
 lp [kI, kI] w39 ((0 : Int), (0 : Int), ()) fun (t40 : Int × Int × Unit) J41 w42 =>
 cs (decide ((t40.2.1 : Int) < ((a2.len : Int) : Int))) (
 ix a2 t40.2.1 1 fun b43 o44 =>
 ldI w42 .u32 b43 o44 fun n45 =>
 al w42 27 [.int .u32 n45] fun b46 w47 =>
 cl Pg 12 [.pointer r13.1, vS ⟨some ⟨b46, 0, none⟩, 1, 1⟩] [kS] w47 fun (r48 : Sl × Unit) w49 =>
 J41 (w64 (t40.1 + (r48.1.len : Int)), w64 (t40.2.1 + 1), ()) w49) (
 dr w42 fun w50 =>
 jn [kB] w50 (fun (t52 : Bool × Unit) w53 =>
 cs t52.1 (
 R [.bool false] w53) (
 lp [kI] w53 ((1 : Int), ()) fun (t55 : Int × Unit) J56 w57 =>
 cs (decide ((t55.1 : Int) ≤ (16 : Int))) (
 dr w57 fun w58 =>
 nn r11.1 fun b59 o60 =>
 ldP w58 b59 o60 fun p61 =>
 nn p61 fun b62 o63 =>
 nn r13.1 fun b64 o65 =>
 ldP w58 b64 o65 fun p66 =>
 nn p66 fun b67 o68 =>
 cl Pg 14 [.pointer (some ⟨b62, o63, none⟩), .int .i64 t55.1] [kB] w58 fun (r69 : Bool × Unit) w70 =>
(w70.cell? ⟨b64, o65, none⟩ = some (.pointer p66)) ∧ (
 cl Pg 14 [.pointer (some ⟨b67, o68, none⟩), .int .i64 t55.1] [kB] w70 fun (r71 : Bool × Unit) w72 =>
 cs (!(r69.1 == r71.1)) (
 R [.bool false] w72) (
 J56 (w64 (t55.1 + 1), ()) w72))) (
 R [.bool true] w57))) fun J51 w54 =>
 cs (((r38.1.len : Int) : Int) != (t40.1 : Int)) (
 J51 (true, ()) w54) (
 nn r11.1 fun b73 o74 =>
 ldI w54 .u32 b73 (o74 + 1) fun n75 =>
 nn r13.1 fun b76 o77 =>
 ldI w54 .u32 b76 (o77 + 1) fun n78 =>
 cs ((n75 : Int) != (n78 : Int)) (
 J51 (true, ()) w54) (
 nn r11.1 fun b79 o80 =>
 ldP w54 b79 o80 fun p81 =>
 nn p81 fun b82 o83 =>
 nn r13.1 fun b84 o85 =>
 ldP w54 b84 o85 fun p86 =>
 nn p86 fun b87 o88 =>
 cl Pg 13 [.pointer (some ⟨b82, o83, none⟩)] [kI] w54 fun (r89 : Int × Unit) w90 =>
(w90.cell? ⟨b84, o85, none⟩ = some (.pointer p86)) ∧ (
 cl Pg 13 [.pointer (some ⟨b87, o88, none⟩)] [kI] w90 fun (r91 : Int × Unit) w92 =>
 J51 ((r89.1 : Int) != (r91.1 : Int), ()) w92))))))) fun J7 w10 =>
 cs t4.1 (
 J7 (true, ()) w10) (
 J7 (decide (((a2.len : Int) : Int) > (20 : Int)), ()) w10)) fun J3 w6 =>
 cs (decide (((a0.len : Int) : Int) > (16 : Int))) (
 J3 (true, ()) w6) (
 J3 (decide (((a1.len : Int) : Int) < ((a0.len : Int) : Int)), ()) w6))
theorem tie3 (a0 : Sl) (a1 : Sl) (a2 : Sl) (R : List Value → World → Prop) (w : World) : compF Pg Try.f3 ⟨[(3, ⟨[(9, kI)], [6, 10, 34, 35, 36, 37, 38, 39, 40, 41, 42, 43, 44, 45, 46, 47, 48, 49, 50, 51, 52, 53, 54, 55, 56, 57, 58, 59, 60, 61, 62, 63, 64, 65, 66]⟩), (6, ⟨[(10, kI)], []⟩), (9, ⟨[(12, kI), (13, kI)], [71, 72, 73, 74, 75, 76, 77, 78, 79, 80, 81, 82, 83, 84, 85, 86]⟩), (14, ⟨[(14, kI)], [6, 118, 119, 120, 121, 122, 123, 124, 125, 126, 127, 128, 129, 130, 131, 132, 133, 134, 135, 136, 137, 138]⟩)], [(23, ⟨[(117, kB)], [87, 88, 89, 90, 91, 92, 93, 94, 95, 96, 97, 98, 99, 100, 101, 102, 103, 104, 105, 106, 107, 108, 109, 110, 111, 112, 113, 114, 115, 116]⟩)], [(23, .l [(0, []), (1, []), (2, []), (3, []), (4, []), (5, []), (6, []), (7, []), (8, []), (9, []), (10, []), (11, []), (12, []), (13, []), (14, []), (15, []), (16, []), (17, []), (18, []), (19, []), (20, []), (22, []), (23, []), (24, []), (25, []), (26, []), (27, []), (21, [20, 14, 19, 13, 3, 18, 12, 2, 17, 7, 11, 0, 1, 16, 6, 10, 15, 5, 9, 4, 8]), (28, [27, 21, 14, 26, 20, 13, 3, 25, 19, 12, 2, 24, 18, 7, 11, 0, 1, 23, 17, 6, 10, 22, 16, 5, 9, 15, 4, 8]), (29, []), (30, [])]), (28, .l [(0, []), (1, []), (2, []), (3, []), (4, []), (5, []), (6, []), (8, []), (9, []), (10, []), (11, []), (12, []), (13, []), (14, []), (7, [5, 6, 4, 3, 2, 1, 0]), (15, [13, 14, 7, 12, 5, 6, 11, 4, 10, 3, 9, 2, 8, 1, 0]), (16, [])])], [(3, [(4, 6, ⟨[(26, kB)], [21, 22, 23, 24, 25]⟩), (11, 4, ⟨[(31, kB)], [28, 29, 30]⟩)])]⟩ [vS a0, vS a1, vS a2] R w = sh3 a0 a1 a2 R w := by kernel_rfl
theorem call3 {a0 : Sl} {a1 : Sl} {a2 : Sl} {w : World} {K : TK [kB] → World → Prop} (h : sh3 a0 a1 a2 (fun vs w' => ∃ t, encK [kB] t = vs ∧ K t w') w) : cl Pg 3 [vS a0, vS a1, vS a2] [kB] w K := cl_of Try.func3 (tie3 ..) h
/-- detent/detentlaw12.FlagMeets -/
def sh4 (a0 : Int) (a1 : Int) (R : List Value → World → Prop) (w : World) : Prop :=
 cl Pg 9 [] [kB] w fun (r1 : Bool × Unit) w2 =>
 cs (!r1.1) (
 R [.bool false] w2) (
 cl Pg 10 [.bool false, .bool true, .bool false, .int .u32 a0] [kP] w2 fun (r3 : Option Addr × Unit) w4 =>
 cl Pg 15 [.pointer r3.1, .int .u32 a1, .int .i64 0] [.l (.i .u32), kB, kI] w4 fun (r5 : Int × Bool × Int × Unit) w6 =>
 cl Pg 15 [.pointer r3.1, .int .u32 a1, .int .i64 1] [.l (.i .u32), kB, kI] w6 fun (r7 : Int × Bool × Int × Unit) w8 =>
 cs ((a1 : Int) == (0 : Int)) (
 jn [kB] w8 (fun (t10 : Bool × Unit) w11 =>
 jn [kB] w11 (fun (t14 : Bool × Unit) w15 =>
 jn [kB] w15 (fun (t18 : Bool × Unit) w19 =>
 jn [kB] w19 (fun (t22 : Bool × Unit) w23 =>
 R [.bool t22.1] w23) fun J21 w24 =>
 cs t18.1 (
 J21 ((IntKind.u32.wrap (r5.1 + r7.1) : Int) == (0 : Int), ()) w24) (
 J21 (false, ()) w24)) fun J17 w20 =>
 cs t14.1 (
 J17 (!r7.2.1, ()) w20) (
 J17 (false, ()) w20)) fun J13 w16 =>
 cs t10.1 (
 J13 (!r5.2.1, ()) w16) (
 J13 (false, ()) w16)) fun J9 w12 =>
 cs ((r5.2.2.1 : Int) == ((-17) : Int)) (
 J9 ((r7.2.2.1 : Int) == ((-17) : Int), ()) w12) (
 J9 (false, ()) w12)) (
 jn [kB] w8 (fun (t26 : Bool × Unit) w27 =>
 jn [kB] w27 (fun (t30 : Bool × Unit) w31 =>
 jn [kB] w31 (fun (t34 : Bool × Unit) w35 =>
 jn [kB] w35 (fun (t38 : Bool × Unit) w39 =>
 jn [kB] w39 (fun (t42 : Bool × Unit) w43 =>
 R [.bool t42.1] w43) fun J41 w44 =>
 cs t38.1 (
 nn r3.1 fun b45 o46 =>
 ldI w44 .u32 b45 (o46 + 1) fun n47 =>
 J41 ((n47 : Int) == (a0 : Int), ()) w44) (
 J41 (false, ()) w44)) fun J37 w40 =>
 cs t34.1 (
 jn [kB] w40 (fun (t49 : Bool × Unit) w50 =>
 J37 (t49.1, ()) w50) fun J48 w51 =>
 cs (!r7.2.1) (
 J48 (true, ()) w51) (
 J48 ((r7.1 : Int) == (a0 : Int), ()) w51)) (
 J37 (false, ()) w40)) fun J33 w36 =>
 cs t30.1 (
 jn [kB] w36 (fun (t53 : Bool × Unit) w54 =>
 J33 (t53.1, ()) w54) fun J52 w55 =>
 cs (!r5.2.1) (
 J52 (true, ()) w55) (
 J52 ((r5.1 : Int) == (a0 : Int), ()) w55)) (
 J33 (false, ()) w36)) fun J29 w32 =>
 cs t26.1 (
 J29 (r7.2.1 == ((bAnd .u32 a0 a1 : Int) != (0 : Int)), ()) w32) (
 J29 (false, ()) w32)) fun J25 w28 =>
 cs ((w64 (r5.2.2.1 + r7.2.2.1) : Int) == (0 : Int)) (
 J25 (r5.2.1 == ((bAnd .u32 a0 a1 : Int) == (a1 : Int)), ()) w28) (
 J25 (false, ()) w28)))
theorem tie4 (a0 : Int) (a1 : Int) (R : List Value → World → Prop) (w : World) : compF Pg Try.f4 ⟨[], [], [], [(7, [(3, 3, ⟨[(37, kB)], [35, 36]⟩), (7, 3, ⟨[(41, kB)], [39, 40]⟩), (11, 3, ⟨[(45, kB)], [43, 44]⟩), (15, 5, ⟨[(51, kB)], [47, 48, 49, 50]⟩)]), (8, [(5, 8, ⟨[(64, kB)], [57, 58, 59, 60, 61, 62, 63]⟩), (14, 7, ⟨[(72, kB)], [66, 67, 68, 69, 70, 71]⟩), (22, 8, ⟨[(81, kB)], [74, 75, 76, 77, 78, 79, 80]⟩), (25, 4, ⟨[(80, kB)], [77, 78, 79]⟩), (31, 8, ⟨[(90, kB)], [83, 84, 85, 86, 87, 88, 89]⟩), (34, 4, ⟨[(89, kB)], [86, 87, 88]⟩), (40, 7, ⟨[(98, kB)], [92, 93, 94, 95, 96, 97]⟩)])]⟩ [.int .u32 a0, .int .u32 a1] R w = sh4 a0 a1 R w := by kernel_rfl
theorem call4 {a0 : Int} {a1 : Int} {w : World} {K : TK [kB] → World → Prop} (h : sh4 a0 a1 (fun vs w' => ∃ t, encK [kB] t = vs ∧ K t w') w) : cl Pg 4 [.int .u32 a0, .int .u32 a1] [kB] w K := cl_of Try.func4 (tie4 ..) h
/-- detent/detentlaw12.FlagClears -/
def sh5 (a0 : Sl) (a1 : Int) (R : List Value → World → Prop) (w : World) : Prop :=
 cl Pg 9 [] [kB] w fun (r1 : Bool × Unit) w2 =>
 cs (!r1.1) (
 R [.bool false] w2) (
 cs (decide (((a0.len : Int) : Int) > (16 : Int))) (
 R [.bool true] w2) (
 cl Pg 10 [.bool false, .bool true, .bool true, .int .u32 0] [kP] w2 fun (r3 : Option Addr × Unit) w4 =>
 lp [kI, kI] w4 ((0 : Int), (0 : Int), ()) fun (t5 : Int × Int × Unit) J6 w7 =>
 cs (decide ((t5.2.1 : Int) < ((a0.len : Int) : Int))) (
 ix a0 t5.2.1 1 fun b8 o9 =>
 ldI w7 .u32 b8 o9 fun n10 =>
 cs ((n10 : Int) == (0 : Int)) (
 R [.bool true] w7) (
 ix a0 t5.2.1 1 fun b11 o12 =>
 ldI w7 .u32 b11 o12 fun n13 =>
 cl Pg 11 [.pointer r3.1, .int .i64 (w64 (t5.2.1 + 1)), .int .i64 1, .int .u32 n13, .int .i64 1] [.l (.i .u32), kB, kI] w7 fun (r14 : Int × Bool × Int × Unit) w15 =>
 jn [kB] w15 (fun (t17 : Bool × Unit) w18 =>
 cs t17.1 (
 J6 (w64 (t5.2.1 + 1), w64 (t5.2.1 + 1), ()) w18) (
 J6 (t5.1, w64 (t5.2.1 + 1), ()) w18)) fun J16 w19 =>
 cs ((t5.1 : Int) == (0 : Int)) (
 ix a0 t5.2.1 1 fun b20 o21 =>
 ldI w19 .u32 b20 o21 fun n22 =>
 J16 ((bAnd .u32 n22 a1 : Int) != (0 : Int), ()) w19) (
 J16 (false, ()) w19))) (
 al w7 27 [.int .u32 a1] fun b23 w24 =>
 cl Pg 12 [.pointer r3.1, vS ⟨some ⟨b23, 0, none⟩, 1, 1⟩] [kS] w24 fun (r25 : Sl × Unit) w26 =>
 cs ((t5.1 : Int) == (0 : Int)) (
 jn [kB] w26 (fun (t28 : Bool × Unit) w29 =>
 jn [kB] w29 (fun (t32 : Bool × Unit) w33 =>
 R [.bool t32.1] w33) fun J31 w34 =>
 cs t28.1 (
 nn r3.1 fun b35 o36 =>
 ldP w34 b35 o36 fun p37 =>
 nn p37 fun b38 o39 =>
 cl Pg 13 [.pointer (some ⟨b38, o39, none⟩)] [kI] w34 fun (r40 : Int × Unit) w41 =>
 J31 ((r40.1 : Int) == ((a0.len : Int) : Int), ()) w41) (
 J31 (false, ()) w34)) fun J27 w30 =>
 cs (((r25.1.len : Int) : Int) == (0 : Int)) (
 nn r3.1 fun b42 o43 =>
 ldI w30 .u32 b42 (o43 + 1) fun n44 =>
 J27 ((n44 : Int) == (a1 : Int), ()) w30) (
 J27 (false, ()) w30)) (
 jn [kB] w26 (fun (t46 : Bool × Unit) w47 =>
 jn [kB] w47 (fun (t50 : Bool × Unit) w51 =>
 jn [kB] w51 (fun (t54 : Bool × Unit) w55 =>
 jn [kB] w55 (fun (t58 : Bool × Unit) w59 =>
 jn [kB] w59 (fun (t62 : Bool × Unit) w63 =>
 R [.bool t62.1] w63) fun J61 w65 =>
 cs t58.1 (
 nn r3.1 fun b66 o67 =>
 ldP w65 b66 o67 fun p68 =>
 nn p68 fun b69 o70 =>
 cl Pg 14 [.pointer (some ⟨b69, o70, none⟩), .int .i64 t5.1] [kB] w65 fun (r71 : Bool × Unit) w72 =>
 J61 (!r71.1, ()) w72) (
 J61 (false, ()) w65)) fun J57 w60 =>
 cs t54.1 (
 nn r3.1 fun b73 o74 =>
 ldP w60 b73 o74 fun p75 =>
 nn p75 fun b76 o77 =>
 cl Pg 13 [.pointer (some ⟨b76, o77, none⟩)] [kI] w60 fun (r78 : Int × Unit) w79 =>
 J57 ((r78.1 : Int) == (w64 ((a0.len : Int) - 1) : Int), ()) w79) (
 J57 (false, ()) w60)) fun J53 w56 =>
 cs t50.1 (
 nn r3.1 fun b80 o81 =>
 ldI w56 .u32 b80 (o81 + 1) fun n82 =>
 J53 ((n82 : Int) == (0 : Int), ()) w56) (
 J53 (false, ()) w56)) fun J49 w52 =>
 cs t46.1 (
 ix r25.1 0 2 fun b83 o84 =>
 ldI w52 .u32 b83 (o84 + 1) fun n85 =>
 J49 ((n85 : Int) == (a1 : Int), ()) w52) (
 J49 (false, ()) w52)) fun J45 w48 =>
 cs (((r25.1.len : Int) : Int) == (1 : Int)) (
 ix r25.1 0 2 fun b86 o87 =>
 ldI w48 .i64 b86 o87 fun n88 =>
 J45 ((n88 : Int) == (t5.1 : Int), ()) w48) (
 J45 (false, ()) w48)))))
theorem tie5 (a0 : Sl) (a1 : Int) (R : List Value → World → Prop) (w : World) : compF Pg Try.f5 ⟨[(3, ⟨[(6, kI), (7, kI)], [4, 15, 16, 17, 18, 19, 20, 21, 22, 23, 24, 25, 26, 27, 28, 29, 30, 31, 32, 33, 34, 35, 36, 37, 38, 39, 40, 41, 42, 43, 44, 45, 46]⟩)], [], [], [(13, [(3, 8, ⟨[(44, kB)], [37, 38, 39, 40, 41, 42, 43]⟩)]), (17, [(4, 7, ⟨[(63, kB)], [57, 58, 59, 60, 61, 62]⟩), (12, 11, ⟨[(75, kB)], [65, 66, 67, 68, 69, 70, 71, 72, 73, 74]⟩)]), (18, [(4, 7, ⟨[(86, kB)], [80, 81, 82, 83, 84, 85]⟩), (12, 7, ⟨[(94, kB)], [88, 89, 90, 91, 92, 93]⟩), (20, 6, ⟨[(101, kB)], [96, 97, 98, 99, 100]⟩), (27, 12, ⟨[(114, kB)], [103, 104, 105, 106, 107, 108, 109, 110, 111, 112, 113]⟩), (40, 10, ⟨[(125, kB)], [116, 117, 118, 119, 120, 121, 122, 123, 124]⟩)])]⟩ [vS a0, .int .u32 a1] R w = sh5 a0 a1 R w := by kernel_rfl
theorem call5 {a0 : Sl} {a1 : Int} {w : World} {K : TK [kB] → World → Prop} (h : sh5 a0 a1 (fun vs w' => ∃ t, encK [kB] t = vs ∧ K t w') w) : cl Pg 5 [vS a0, .int .u32 a1] [kB] w K := cl_of Try.func5 (tie5 ..) h
/-- detent/detentlaw12.FlagAlone -/
def sh6 (a0 : Int) (a1 : Int) (R : List Value → World → Prop) (w : World) : Prop :=
 cl Pg 9 [] [kB] w fun (r1 : Bool × Unit) w2 =>
 cs (!r1.1) (
 R [.bool false] w2) (
 jn [kB] w2 (fun (t4 : Bool × Unit) w5 =>
 cs t4.1 (
 R [.bool true] w5) (
 cl Pg 10 [.bool true, .bool false, .bool false, .int .u32 0] [kP] w5 fun (r7 : Option Addr × Unit) w8 =>
 cl Pg 11 [.pointer r7.1, .int .i64 1, .int .i64 9, .int .u32 a0, .int .i64 0] [.l (.i .u32), kB, kI] w8 fun (r9 : Int × Bool × Int × Unit) w10 =>
 cl Pg 11 [.pointer r7.1, .int .i64 2, .int .i64 1, .int .u32 a1, .int .i64 0] [.l (.i .u32), kB, kI] w10 fun (r11 : Int × Bool × Int × Unit) w12 =>
 cl Pg 15 [.pointer r7.1, .int .u32 a1, .int .i64 1] [.l (.i .u32), kB, kI] w12 fun (r13 : Int × Bool × Int × Unit) w14 =>
 al w14 27 [.int .u32 a0] fun b15 w16 =>
 cl Pg 12 [.pointer r7.1, vS ⟨some ⟨b15, 0, none⟩, 1, 1⟩] [kS] w16 fun (r17 : Sl × Unit) w18 =>
 jn [kB] w18 (fun (t20 : Bool × Unit) w21 =>
 jn [kB] w21 (fun (t24 : Bool × Unit) w25 =>
 jn [kB] w25 (fun (t28 : Bool × Unit) w29 =>
 jn [kB] w29 (fun (t32 : Bool × Unit) w33 =>
 jn [kB] w33 (fun (t36 : Bool × Unit) w37 =>
 jn [kB] w37 (fun (t40 : Bool × Unit) w41 =>
 jn [kB] w41 (fun (t44 : Bool × Unit) w45 =>
 jn [kB] w45 (fun (t48 : Bool × Unit) w49 =>
 R [.bool t48.1] w49) fun J47 w50 =>
 cs t44.1 (
 nn r7.1 fun b51 o52 =>
 ldP w50 b51 o52 fun p53 =>
 nn p53 fun b54 o55 =>
 cl Pg 13 [.pointer (some ⟨b54, o55, none⟩)] [kI] w50 fun (r56 : Int × Unit) w57 =>
 J47 ((r56.1 : Int) == (0 : Int), ()) w57) (
 J47 (false, ()) w50)) fun J43 w46 =>
 cs t40.1 (
 ix r17.1 0 2 fun b58 o59 =>
 ldI w46 .i64 b58 o59 fun n60 =>
 J43 ((n60 : Int) == (1 : Int), ()) w46) (
 J43 (false, ()) w46)) fun J39 w42 =>
 cs t36.1 (
 J39 (((r17.1.len : Int) : Int) == (1 : Int), ()) w42) (
 J39 (false, ()) w42)) fun J35 w38 =>
 cs t32.1 (
 J35 ((r13.2.2.1 : Int) == ((-28) : Int), ()) w38) (
 J35 (false, ()) w38)) fun J31 w34 =>
 cs t28.1 (
 J31 ((r11.2.2.1 : Int) == ((-28) : Int), ()) w34) (
 J31 (false, ()) w34)) fun J27 w30 =>
 cs t24.1 (
 J27 ((r9.2.2.1 : Int) == (0 : Int), ()) w30) (
 J27 (false, ()) w30)) fun J23 w26 =>
 cs t20.1 (
 J23 (!r13.2.1, ()) w26) (
 J23 (false, ()) w26)) fun J19 w22 =>
 cs (!r9.2.1) (
 J19 (!r11.2.1, ()) w22) (
 J19 (false, ()) w22))) fun J3 w6 =>
 cs ((a0 : Int) == (0 : Int)) (
 J3 (true, ()) w6) (
 J3 ((a1 : Int) == (0 : Int), ()) w6))
theorem tie6 (a0 : Int) (a1 : Int) (R : List Value → World → Prop) (w : World) : compF Pg Try.f6 ⟨[], [], [], [(3, [(3, 3, ⟨[(23, kB)], [21, 22]⟩)]), (10, [(3, 3, ⟨[(55, kB)], [53, 54]⟩), (7, 3, ⟨[(59, kB)], [57, 58]⟩), (11, 3, ⟨[(63, kB)], [61, 62]⟩), (15, 3, ⟨[(67, kB)], [65, 66]⟩), (19, 3, ⟨[(71, kB)], [69, 70]⟩), (23, 4, ⟨[(76, kB)], [73, 74, 75]⟩), (28, 6, ⟨[(83, kB)], [78, 79, 80, 81, 82]⟩), (35, 9, ⟨[(93, kB)], [85, 86, 87, 88, 89, 90, 91, 92]⟩)])]⟩ [.int .u32 a0, .int .u32 a1] R w = sh6 a0 a1 R w := by kernel_rfl
theorem call6 {a0 : Int} {a1 : Int} {w : World} {K : TK [kB] → World → Prop} (h : sh6 a0 a1 (fun vs w' => ∃ t, encK [kB] t = vs ∧ K t w') w) : cl Pg 6 [.int .u32 a0, .int .u32 a1] [kB] w K := cl_of Try.func6 (tie6 ..) h
/-- (*detent/flag.Flag).Lower -/
def sh16 (a0 : Option Addr) (a1 : Int) (R : List Value → World → Prop) (w : World) : Prop :=
 nn a0 fun b1 o2 =>
 ldI w .u32 b1 (o2 + 1) fun n3 =>
 nn a0 fun b4 o5 =>
 st1 w b4 (o5 + 1) (.int .u32 (bAnd .u32 n3 a1)) fun w6 =>
 R [] w6
theorem tie16 (a0 : Option Addr) (a1 : Int) (R : List Value → World → Prop) (w : World) : compF Pg Try.f16 ⟨[], [], [], []⟩ [.pointer a0, .int .u32 a1] R w = sh16 a0 a1 R w := by kernel_rfl
theorem call16 {a0 : Option Addr} {a1 : Int} {w : World} {K : TK [] → World → Prop} (h : sh16 a0 a1 (fun vs w' => ∃ t, encK [] t = vs ∧ K t w') w) : cl Pg 16 [.pointer a0, .int .u32 a1] [] w K := cl_of Try.func16 (tie16 ..) h
/-- detent/detentlaw12.FlagLowers -/
def sh7 (a0 : Int) (a1 : Int) (R : List Value → World → Prop) (w : World) : Prop :=
 cl Pg 9 [] [kB] w fun (r1 : Bool × Unit) w2 =>
 cs (!r1.1) (
 R [.bool false] w2) (
 cl Pg 10 [.bool false, .bool true, .bool false, .int .u32 a0] [kP] w2 fun (r3 : Option Addr × Unit) w4 =>
 cl Pg 16 [.pointer r3.1, .int .u32 a1] [] w4 fun (r5 : Unit) w6 =>
 nn r3.1 fun b7 o8 =>
 ldI w6 .u32 b7 (o8 + 1) fun n9 =>
 cs ((n9 : Int) != (bAnd .u32 a0 a1 : Int)) (
 R [.bool false] w6) (
 cs ((bAndNot .u32 a0 a1 : Int) == (0 : Int)) (
 R [.bool true] w6) (
 cl Pg 11 [.pointer r3.1, .int .i64 1, .int .i64 1, .int .u32 (bAndNot .u32 a0 a1), .int .i64 1] [.l (.i .u32), kB, kI] w6 fun (r10 : Int × Bool × Int × Unit) w11 =>
 al w11 27 [.int .u32 (bAndNot .u32 a0 a1)] fun b12 w13 =>
 cl Pg 12 [.pointer r3.1, vS ⟨some ⟨b12, 0, none⟩, 1, 1⟩] [kS] w13 fun (r14 : Sl × Unit) w15 =>
 jn [kB] w15 (fun (t17 : Bool × Unit) w18 =>
 jn [kB] w18 (fun (t21 : Bool × Unit) w22 =>
 jn [kB] w22 (fun (t25 : Bool × Unit) w26 =>
 R [.bool t25.1] w26) fun J24 w27 =>
 cs t21.1 (
 ix r14.1 0 2 fun b28 o29 =>
 ldI w27 .u32 b28 (o29 + 1) fun n30 =>
 J24 ((n30 : Int) == (bOr .u32 (bAnd .u32 a0 a1) (bAndNot .u32 a0 a1) : Int), ()) w27) (
 J24 (false, ()) w27)) fun J20 w23 =>
 cs t17.1 (
 J20 (((r14.1.len : Int) : Int) == (1 : Int), ()) w23) (
 J20 (false, ()) w23)) fun J16 w19 =>
 cs (!r10.2.1) (
 J16 ((r10.2.2.1 : Int) == (0 : Int), ()) w19) (
 J16 (false, ()) w19))))
theorem tie7 (a0 : Int) (a1 : Int) (R : List Value → World → Prop) (w : World) : compF Pg Try.f7 ⟨[], [], [], [(12, [(3, 3, ⟨[(47, kB)], [45, 46]⟩), (7, 4, ⟨[(52, kB)], [49, 50, 51]⟩), (12, 11, ⟨[(64, kB)], [54, 55, 56, 57, 58, 59, 60, 61, 62, 63]⟩)])]⟩ [.int .u32 a0, .int .u32 a1] R w = sh7 a0 a1 R w := by kernel_rfl
theorem call7 {a0 : Int} {a1 : Int} {w : World} {K : TK [kB] → World → Prop} (h : sh7 a0 a1 (fun vs w' => ∃ t, encK [kB] t = vs ∧ K t w') w) : cl Pg 7 [.int .u32 a0, .int .u32 a1] [kB] w K := cl_of Try.func7 (tie7 ..) h
/-- detent/detentref12.New -/
def sh17 (a0 : Bool) (a1 : Bool) (a2 : Bool) (a3 : Int) (R : List Value → World → Prop) (w : World) : Prop :=
 al w 85 [.bool a0, .slice none 0 0] fun b1 w2 =>
 al w2 67 [.pointer (some ⟨b1, 0, none⟩), .int .u32 0, .int .i64 0, .int .u32 0, .int .i64 0, .int .u32 0, .int .i64 0, .int .u32 0, .int .i64 0, .int .u32 0, .int .i64 0, .int .u32 0, .int .i64 0, .int .u32 0, .int .i64 0, .int .u32 0, .int .i64 0, .int .u32 0, .int .i64 0, .int .u32 0, .int .i64 0, .int .u32 0, .int .i64 0, .int .u32 0, .int .i64 0, .int .u32 0, .int .i64 0, .int .u32 0, .int .i64 0, .int .u32 0, .int .i64 0, .int .u32 0, .int .i64 0, .int .u32 0, .int .i64 0, .int .u32 a3, .bool a1, .bool a2] fun b3 w4 =>
 R [.pointer (some ⟨b3, 0, none⟩)] w4
theorem tie17 (a0 : Bool) (a1 : Bool) (a2 : Bool) (a3 : Int) (R : List Value → World → Prop) (w : World) : compF Pg Try.f17 ⟨[], [], [], []⟩ [.bool a0, .bool a1, .bool a2, .int .u32 a3] R w = sh17 a0 a1 a2 a3 R w := by kernel_rfl
theorem call17 {a0 : Bool} {a1 : Bool} {a2 : Bool} {a3 : Int} {w : World} {K : TK [kP] → World → Prop} (h : sh17 a0 a1 a2 a3 (fun vs w' => ∃ t, encK [kP] t = vs ∧ K t w') w) : cl Pg 17 [.bool a0, .bool a1, .bool a2, .int .u32 a3] [kP] w K := cl_of Try.func17 (tie17 ..) h
/-- (*detent/detentref12.Flag).meets -/
def sh35 (a0 : Option Addr) (a1 : (Int × Int × Unit)) (R : List Value → World → Prop) (w : World) : Prop :=
 al w 64 [.int .u32 a1.1, .int .i64 a1.2.1] fun b1 w2 =>
 ldI w2 .i64 b1 (0 + 1) fun n3 =>
 cs ((n3 : Int) == (0 : Int)) (
 dr w2 fun w4 =>
 nn a0 fun b5 o6 =>
 ldI w4 .u32 b5 (o6 + 35) fun n7 =>
 ldI w4 .u32 b1 0 fun n8 =>
 ldI w4 .u32 b1 0 fun n9 =>
 R [.bool ((bAnd .u32 n7 n8 : Int) == (n9 : Int))] w4) (
 dr w2 fun w10 =>
 nn a0 fun b11 o12 =>
 ldI w10 .u32 b11 (o12 + 35) fun n13 =>
 ldI w10 .u32 b1 0 fun n14 =>
 R [.bool ((bAnd .u32 n13 n14 : Int) != (0 : Int))] w10)
theorem tie35 (a0 : Option Addr) (a1 : (Int × Int × Unit)) (R : List Value → World → Prop) (w : World) : compF Pg Try.f35 ⟨[], [], [(2, .l [(0, []), (1, []), (2, []), (3, []), (4, []), (5, []), (6, []), (7, []), (8, []), (9, []), (10, [])]), (3, .l [(0, []), (1, []), (2, []), (3, []), (4, []), (5, []), (6, []), (7, []), (8, [])])], []⟩ [.pointer a0, .agg #[.int .u32 a1.1, .int .i64 a1.2.1]] R w = sh35 a0 a1 R w := by kernel_rfl
theorem call35 {a0 : Option Addr} {a1 : (Int × Int × Unit)} {w : World} {K : TK [kB] → World → Prop} (h : sh35 a0 a1 (fun vs w' => ∃ t, encK [kB] t = vs ∧ K t w') w) : cl Pg 35 [.pointer a0, .agg #[.int .u32 a1.1, .int .i64 a1.2.1]] [kB] w K := cl_of Try.func35 (tie35 ..) h
/-- (*detent/detentref12.Flag).got -/
def sh36 (a0 : Option Addr) (R : List Value → World → Prop) (w : World) : Prop :=
 nn a0 fun b1 o2 =>
 ldI w .u32 b1 (o2 + 35) fun n3 =>
 nn a0 fun b4 o5 =>
 ldB w b4 (o5 + 37) fun b6 =>
 cs b6 (
 nn a0 fun b7 o8 =>
 st1 w b7 (o8 + 35) (.int .u32 0) fun w9 =>
 R [.int .u32 n3] w9) (
 R [.int .u32 n3] w)
theorem tie36 (a0 : Option Addr) (R : List Value → World → Prop) (w : World) : compF Pg Try.f36 ⟨[], [], [], []⟩ [.pointer a0] R w = sh36 a0 R w := by kernel_rfl
theorem call36 {a0 : Option Addr} {w : World} {K : TK [.l (.i .u32)] → World → Prop} (h : sh36 a0 (fun vs w' => ∃ t, encK [.l (.i .u32)] t = vs ∧ K t w') w) : cl Pg 36 [.pointer a0] [.l (.i .u32)] w K := cl_of Try.func36 (tie36 ..) h
/-- (*detent/detentref12.Flag).Poll -/
def sh19 (a0 : Option Addr) (a1 : Int) (a2 : Int) (R : List Value → World → Prop) (w : World) : Prop :=
 jn [kB] w (fun (t2 : Bool × Unit) w3 =>
 jn [kB] w3 (fun (t6 : Bool × Unit) w7 =>
 cs t6.1 (
 R [.int .u32 0, .bool false, .int .i64 (-17)] w7) (
 nn a0 fun b9 o10 =>
 ldB w7 b9 (o10 + 36) fun b11 =>
 jn [kB] w7 (fun (t13 : Bool × Unit) w14 =>
 cs t13.1 (
 R [.int .u32 0, .bool false, .int .i64 (-28)] w14) (
 cl Pg 35 [.pointer a0, .agg #[.int .u32 a1, .int .i64 a2]] [kB] w14 fun (r16 : Bool × Unit) w17 =>
 cs (!r16.1) (
 R [.int .u32 0, .bool false, .int .i64 0] w17) (
 cl Pg 36 [.pointer a0] [.l (.i .u32)] w17 fun (r18 : Int × Unit) w19 =>
 R [.int .u32 r18.1, .bool true, .int .i64 0] w19))) fun J12 w15 =>
 cs (!b11) (
 nn a0 fun b20 o21 =>
 ldP w15 b20 o21 fun p22 =>
 nn p22 fun b23 o24 =>
 ldS w15 b23 (o24 + 1) fun s25 =>
 J12 (decide (((s25.len : Int) : Int) > (0 : Int)), ()) w15) (
 J12 (false, ()) w15))) fun J5 w8 =>
 cs t2.1 (
 J5 (true, ()) w8) (
 J5 (decide ((a2 : Int) > (1 : Int)), ()) w8)) fun J1 w4 =>
 cs ((a1 : Int) == (0 : Int)) (
 J1 (true, ()) w4) (
 J1 (decide ((a2 : Int) < (0 : Int)), ()) w4)
theorem tie19 (a0 : Option Addr) (a1 : Int) (a2 : Int) (R : List Value → World → Prop) (w : World) : compF Pg Try.f19 ⟨[], [], [], [(1, [(3, 3, ⟨[(15, kB)], [13, 14]⟩), (7, 3, ⟨[(19, kB)], [17, 18]⟩)]), (3, [(6, 10, ⟨[(36, kB)], [27, 28, 29, 30, 31, 32, 33, 34, 35]⟩)])]⟩ [.pointer a0, .int .u32 a1, .int .i64 a2] R w = sh19 a0 a1 a2 R w := by kernel_rfl
theorem call19 {a0 : Option Addr} {a1 : Int} {a2 : Int} {w : World} {K : TK [.l (.i .u32), kB, kI] → World → Prop} (h : sh19 a0 a1 a2 (fun vs w' => ∃ t, encK [.l (.i .u32), kB, kI] t = vs ∧ K t w') w) : cl Pg 19 [.pointer a0, .int .u32 a1, .int .i64 a2] [.l (.i .u32), kB, kI] w K := cl_of Try.func19 (tie19 ..) h
/-- (*detent/detentref4.Queue).At -/
def sh39 (a0 : Option Addr) (a1 : Int) (R : List Value → World → Prop) (w : World) : Prop :=
 lp [kI] w ((0 : Int), ()) fun (t1 : Int × Unit) J2 w3 =>
 nn a0 fun b4 o5 =>
 ldS w3 b4 (o5 + 1) fun s6 =>
 cs (decide ((t1.1 : Int) < ((s6.len : Int) : Int))) (
 nn a0 fun b7 o8 =>
 ldS w3 b7 (o8 + 1) fun s9 =>
 ix s9 t1.1 2 fun b10 o11 =>
 ldI w3 .i64 b10 o11 fun n12 =>
 cs ((n12 : Int) == (a1 : Int)) (
 R [.int .i64 t1.1] w3) (
 J2 (w64 (t1.1 + 1), ()) w3)) (
 R [.int .i64 (-1)] w3)
theorem tie39 (a0 : Option Addr) (a1 : Int) (R : List Value → World → Prop) (w : World) : compF Pg Try.f39 ⟨[(1, ⟨[(5, kI)], [4, 6, 7, 8, 9, 10, 11, 12, 13, 14, 15, 16, 17, 18, 19, 20, 21, 22, 23, 24, 25]⟩)], [], [], []⟩ [.pointer a0, .int .i64 a1] R w = sh39 a0 a1 R w := by kernel_rfl
theorem call39 {a0 : Option Addr} {a1 : Int} {w : World} {K : TK [kI] → World → Prop} (h : sh39 a0 a1 (fun vs w' => ∃ t, encK [kI] t = vs ∧ K t w') w) : cl Pg 39 [.pointer a0, .int .i64 a1] [kI] w K := cl_of Try.func39 (tie39 ..) h
/-- (*detent/detentref4.Queue).put -/
def sh42 (a0 : Option Addr) (a1 : (Int × Int × Unit)) (R : List Value → World → Prop) (w : World) : Prop :=
 al w 94 [.int .i64 a1.1, .int .i64 a1.2.1] fun b1 w2 =>
 nn a0 fun b3 o4 =>
 ldS w2 b3 (o4 + 1) fun s5 =>
 nn a0 fun b6 o7 =>
 ldB w2 b6 o7 fun b8 =>
 jn [kI] w2 (fun (t10 : Int × Unit) w11 =>
 dr w11 fun w13 =>
 nn a0 fun b14 o15 =>
 ldS w13 b14 (o15 + 1) fun s16 =>
 sb s16 0 t10.1 s16.cap 2 fun s17 =>
 ldI w13 .i64 b1 0 fun n18 =>
 ldI w13 .i64 b1 (0 + 1) fun n19 =>
(
 al w13 94 [] fun b20 w21 =>
(w21.cell? ⟨b1, 0, none⟩ = some (.int .i64 n18) ∧ w21.cell? ⟨b1, 0 + 1, none⟩ = some (.int .i64 n19)) ∧ (
(w21.cell? ⟨b14, o15 + 1, none⟩ = some (vS s16)) ∧ (
(
 ef Pg (Builtin.append_ #[83, 83] 83 #[vS ⟨some ⟨b20, 0, none⟩, 0, 0⟩, vS s17]) [kS] w21 fun (r22 : Sl × Unit) w23 =>
(w23.cell? ⟨b1, 0, none⟩ = some (.int .i64 n18) ∧ w23.cell? ⟨b1, 0 + 1, none⟩ = some (.int .i64 n19)) ∧ (
 al w23 94 [.int .i64 n18, .int .i64 n19] fun b24 w25 =>
(w25.cell? ⟨b14, o15 + 1, none⟩ = some (vS s16)) ∧ (
 ef Pg (Builtin.append_ #[83, 83] 83 #[vS r22.1, vS ⟨some ⟨b24, 0, none⟩, 1, 1⟩]) [kS] w25 fun (r26 : Sl × Unit) w27 =>
 nn a0 fun b28 o29 =>
 ldS w27 b28 (o29 + 1) fun s30 =>
 sb s30 t10.1 s30.len s30.cap 2 fun s31 =>
 ef Pg (Builtin.append_ #[83, 83] 83 #[vS r26.1, vS s31]) [kS] w27 fun (r32 : Sl × Unit) w33 =>
 nn a0 fun b34 o35 =>
 st1 w33 b34 (o35 + 1) (vS r32.1) fun w36 =>
 R [] w36))) ∧ (
 al w21 94 [.int .i64 n18, .int .i64 n19] fun b37 w38 =>
(w38.cell? ⟨b14, o15 + 1, none⟩ = some (vS s16)) ∧ (
 ef Pg (Builtin.append_ #[83, 83] 83 #[vS ⟨some ⟨b20, 0, none⟩, 0, 0⟩, vS s17]) [kS] w38 fun (r39 : Sl × Unit) w40 =>
(w40.cell? ⟨b1, 0, none⟩ = some (.int .i64 n18) ∧ w40.cell? ⟨b1, 0 + 1, none⟩ = some (.int .i64 n19)) ∧ (
 ef Pg (Builtin.append_ #[83, 83] 83 #[vS r39.1, vS ⟨some ⟨b37, 0, none⟩, 1, 1⟩]) [kS] w40 fun (r41 : Sl × Unit) w42 =>
 nn a0 fun b43 o44 =>
 ldS w42 b43 (o44 + 1) fun s45 =>
 sb s45 t10.1 s45.len s45.cap 2 fun s46 =>
 ef Pg (Builtin.append_ #[83, 83] 83 #[vS r41.1, vS s46]) [kS] w42 fun (r47 : Sl × Unit) w48 =>
 nn a0 fun b49 o50 =>
 st1 w48 b49 (o50 + 1) (vS r47.1) fun w51 =>
 R [] w51)))))) ∧ (
 al w13 94 [.int .i64 n18, .int .i64 n19] fun b52 w53 =>
(w53.cell? ⟨b14, o15 + 1, none⟩ = some (vS s16)) ∧ (
 al w53 94 [] fun b54 w55 =>
(w55.cell? ⟨b1, 0, none⟩ = some (.int .i64 n18) ∧ w55.cell? ⟨b1, 0 + 1, none⟩ = some (.int .i64 n19)) ∧ (
(w55.cell? ⟨b14, o15 + 1, none⟩ = some (vS s16)) ∧ (
 ef Pg (Builtin.append_ #[83, 83] 83 #[vS ⟨some ⟨b54, 0, none⟩, 0, 0⟩, vS s17]) [kS] w55 fun (r56 : Sl × Unit) w57 =>
(w57.cell? ⟨b1, 0, none⟩ = some (.int .i64 n18) ∧ w57.cell? ⟨b1, 0 + 1, none⟩ = some (.int .i64 n19)) ∧ (
 ef Pg (Builtin.append_ #[83, 83] 83 #[vS r56.1, vS ⟨some ⟨b52, 0, none⟩, 1, 1⟩]) [kS] w57 fun (r58 : Sl × Unit) w59 =>
 nn a0 fun b60 o61 =>
 ldS w59 b60 (o61 + 1) fun s62 =>
 sb s62 t10.1 s62.len s62.cap 2 fun s63 =>
 ef Pg (Builtin.append_ #[83, 83] 83 #[vS r58.1, vS s63]) [kS] w59 fun (r64 : Sl × Unit) w65 =>
 nn a0 fun b66 o67 =>
 st1 w65 b66 (o67 + 1) (vS r64.1) fun w68 =>
 R [] w68)))))) fun J9 w12 =>
 cs b8 (
 lp [kI] w12 ((s5.len : Int), ()) fun (t69 : Int × Unit) J70 w71 =>
 dr w71 fun w72 =>
 jn [kB] w72 (fun (t74 : Bool × Unit) w75 =>
 cs t74.1 (
 J70 (w64 (t69.1 - 1), ()) w75) (
 J9 (t69.1, ()) w75)) fun J73 w76 =>
 cs (decide ((t69.1 : Int) > (0 : Int))) (
 nn a0 fun b77 o78 =>
 ldS w76 b77 (o78 + 1) fun s79 =>
 ix s79 (w64 (t69.1 - 1)) 2 fun b80 o81 =>
 ldI w76 .i64 b80 (o81 + 1) fun n82 =>
 ldI w76 .i64 b1 (0 + 1) fun n83 =>
 J73 (decide ((n82 : Int) > (n83 : Int)), ()) w76) (
 J73 (false, ()) w76)) (
 J9 ((s5.len : Int), ()) w12)
theorem tie42 (a0 : Option Addr) (a1 : (Int × Int × Unit)) (R : List Value → World → Prop) (w : World) : compF Pg Try.f42 ⟨[(0, ⟨[(4, kI)], [15, 16, 17, 18, 19, 20, 21, 22, 23, 24, 25, 26, 27, 28, 29, 30, 31, 32]⟩), (2, ⟨[(4, kI)], [15, 16, 17, 18, 19, 20, 21, 22, 23, 24, 25, 26, 27, 28, 29, 30, 31, 32]⟩)], [(3, ⟨[(30, kB)], [15, 16, 17, 18, 19, 20, 21, 22, 23, 24, 25, 26, 27, 28, 29]⟩)], [(5, .t [(1, []), (2, []), (3, []), (4, []), (5, []), (6, []), (8, [])] 0 [] (.t [] 7 [0, 6, 4, 5, 3, 2, 1] (.l [(9, [8]), (10, [7, 9, 0, 6, 8, 4, 5, 3, 2, 1]), (11, [])]) 9 [8] (.l [(7, [0, 6, 4, 5, 3, 2, 1]), (10, [7, 9, 0, 6, 8, 4, 5, 3, 2, 1]), (11, [])])) 9 [8] (.l [(0, []), (7, [0, 6, 4, 5, 3, 2, 1]), (10, [7, 9, 0, 6, 8, 4, 5, 3, 2, 1]), (11, [])])), (3, .l [(0, []), (1, []), (2, []), (3, []), (4, []), (5, []), (6, []), (7, []), (8, []), (9, []), (10, []), (11, []), (12, []), (13, []), (14, []), (15, [])])], []⟩ [.pointer a0, .agg #[.int .i64 a1.1, .int .i64 a1.2.1]] R w = sh42 a0 a1 R w := by kernel_rfl
theorem call42 {a0 : Option Addr} {a1 : (Int × Int × Unit)} {w : World} {K : TK [] → World → Prop} (h : sh42 a0 a1 (fun vs w' => ∃ t, encK [] t = vs ∧ K t w') w) : cl Pg 42 [.pointer a0, .agg #[.int .i64 a1.1, .int .i64 a1.2.1]] [] w K := cl_of Try.func42 (tie42 ..) h
/-- detent/detentref4.Good -/
def sh52 (a0 : Int) (a1 : Int) (R : List Value → World → Prop) (w : World) : Prop :=
 jn [kB] w (fun (t2 : Bool × Unit) w3 =>
 jn [kB] w3 (fun (t6 : Bool × Unit) w7 =>
 jn [kB] w7 (fun (t10 : Bool × Unit) w11 =>
 R [.bool t10.1] w11) fun J9 w12 =>
 cs t6.1 (
 J9 (decide ((a1 : Int) ≤ (16 : Int)), ()) w12) (
 J9 (false, ()) w12)) fun J5 w8 =>
 cs t2.1 (
 J5 (decide ((a1 : Int) ≥ (1 : Int)), ()) w8) (
 J5 (false, ()) w8)) fun J1 w4 =>
 cs (decide ((a0 : Int) ≥ (1 : Int))) (
 J1 (decide ((a0 : Int) ≤ (16 : Int)), ()) w4) (
 J1 (false, ()) w4)
theorem tie52 (a0 : Int) (a1 : Int) (R : List Value → World → Prop) (w : World) : compF Pg Try.f52 ⟨[], [], [], [(1, [(3, 3, ⟨[(10, kB)], [8, 9]⟩), (7, 3, ⟨[(14, kB)], [12, 13]⟩), (11, 3, ⟨[(18, kB)], [16, 17]⟩)])]⟩ [.int .i64 a0, .int .i64 a1] R w = sh52 a0 a1 R w := by kernel_rfl
theorem call52 {a0 : Int} {a1 : Int} {w : World} {K : TK [kB] → World → Prop} (h : sh52 a0 a1 (fun vs w' => ∃ t, encK [kB] t = vs ∧ K t w') w) : cl Pg 52 [.int .i64 a0, .int .i64 a1] [kB] w K := cl_of Try.func52 (tie52 ..) h
/-- (*detent/detentref4.Queue).Add -/
def sh34 (a0 : Option Addr) (a1 : Int) (a2 : Int) (R : List Value → World → Prop) (w : World) : Prop :=
 cl Pg 52 [.int .i64 a1, .int .i64 a2] [kB] w fun (r1 : Bool × Unit) w2 =>
 cs (!r1.1) (
 R [.int .i64 (-17)] w2) (
 cl Pg 39 [.pointer a0, .int .i64 a1] [kI] w2 fun (r3 : Int × Unit) w4 =>
 cs (decide ((r3.1 : Int) ≥ (0 : Int))) (
 R [.int .i64 (-41)] w4) (
 cl Pg 42 [.pointer a0, .agg #[.int .i64 a1, .int .i64 a2]] [] w4 fun (r5 : Unit) w6 =>
 R [.int .i64 0] w6))
theorem tie34 (a0 : Option Addr) (a1 : Int) (a2 : Int) (R : List Value → World → Prop) (w : World) : compF Pg Try.f34 ⟨[], [], [], []⟩ [.pointer a0, .int .i64 a1, .int .i64 a2] R w = sh34 a0 a1 a2 R w := by kernel_rfl
theorem call34 {a0 : Option Addr} {a1 : Int} {a2 : Int} {w : World} {K : TK [kI] → World → Prop} (h : sh34 a0 a1 a2 (fun vs w' => ∃ t, encK [kI] t = vs ∧ K t w') w) : cl Pg 34 [.pointer a0, .int .i64 a1, .int .i64 a2] [kI] w K := cl_of Try.func34 (tie34 ..) h
/-- (*detent/detentref12.Flag).Wait -/
def sh18 (a0 : Option Addr) (a1 : Int) (a2 : Int) (a3 : Int) (a4 : Int) (R : List Value → World → Prop) (w : World) : Prop :=
 cl Pg 19 [.pointer a0, .int .u32 a3, .int .i64 a4] [.l (.i .u32), kB, kI] w fun (r1 : Int × Bool × Int × Unit) w2 =>
 jn [kB] w2 (fun (t4 : Bool × Unit) w5 =>
 cs t4.1 (
 R [.int .u32 r1.1, .bool r1.2.1, .int .i64 r1.2.2.1] w5) (
 nn a0 fun b7 o8 =>
 ldP w5 b7 o8 fun p9 =>
 cl Pg 34 [.pointer p9, .int .i64 a1, .int .i64 a2] [kI] w5 fun (r10 : Int × Unit) w11 =>
 jn [] w11 (fun (t13 : Unit) w14 =>
 R [.int .u32 0, .bool false, .int .i64 r10.1] w14) fun J12 w15 =>
 cs ((r10.1 : Int) == (0 : Int)) (
 nn a0 fun b16 o17 =>
 ixA b16 (o17 + 1) 17 a1 2 fun b18 o19 =>
 st1 w15 b18 o19 (.int .u32 a3) fun w20 =>
 st1 w20 b18 (o19 + 1) (.int .i64 a4) fun w21 =>
 J12 () w21) (
 J12 () w15))) fun J3 w6 =>
 cs r1.2.1 (
 J3 (true, ()) w6) (
 J3 ((r1.2.2.1 : Int) != (0 : Int), ()) w6)
theorem tie18 (a0 : Option Addr) (a1 : Int) (a2 : Int) (a3 : Int) (a4 : Int) (R : List Value → World → Prop) (w : World) : compF Pg Try.f18 ⟨[(1, ⟨[], [41, 42, 43, 44, 45, 46, 47, 48]⟩)], [], [], [(2, [(2, 3, ⟨[(28, kB)], [26, 27]⟩)])]⟩ [.pointer a0, .int .i64 a1, .int .i64 a2, .int .u32 a3, .int .i64 a4] R w = sh18 a0 a1 a2 a3 a4 R w := by kernel_rfl
theorem call18 {a0 : Option Addr} {a1 : Int} {a2 : Int} {a3 : Int} {a4 : Int} {w : World} {K : TK [.l (.i .u32), kB, kI] → World → Prop} (h : sh18 a0 a1 a2 a3 a4 (fun vs w' => ∃ t, encK [.l (.i .u32), kB, kI] t = vs ∧ K t w') w) : cl Pg 18 [.pointer a0, .int .i64 a1, .int .i64 a2, .int .u32 a3, .int .i64 a4] [.l (.i .u32), kB, kI] w K := cl_of Try.func18 (tie18 ..) h
/-- detent/detentlaw12.same -/
def sh20 (a0 : Sl) (a1 : Sl) (R : List Value → World → Prop) (w : World) : Prop :=
 cs (((a0.len : Int) : Int) != ((a1.len : Int) : Int)) (
 R [.bool false] w) (
 lp [kI] w ((0 : Int), ()) fun (t1 : Int × Unit) J2 w3 =>
 cs (decide ((t1.1 : Int) < ((a0.len : Int) : Int))) (
 dr w3 fun w4 =>
 jn [kB] w4 (fun (t6 : Bool × Unit) w7 =>
 cs t6.1 (
 R [.bool false] w7) (
 J2 (w64 (t1.1 + 1), ()) w7)) fun J5 w8 =>
 ix a0 t1.1 2 fun b9 o10 =>
 ldI w8 .i64 b9 o10 fun n11 =>
 ix a1 t1.1 2 fun b12 o13 =>
 ldI w8 .i64 b12 o13 fun n14 =>
 cs ((n11 : Int) != (n14 : Int)) (
 J5 (true, ()) w8) (
 ix a0 t1.1 2 fun b15 o16 =>
 ldI w8 .u32 b15 (o16 + 1) fun n17 =>
 ix a1 t1.1 2 fun b18 o19 =>
 ldI w8 .u32 b18 (o19 + 1) fun n20 =>
 J5 ((n17 : Int) != (n20 : Int), ()) w8)) (
 R [.bool true] w3))
theorem tie20 (a0 : Sl) (a1 : Sl) (R : List Value → World → Prop) (w : World) : compF Pg Try.f20 ⟨[(2, ⟨[(5, kI)], [4, 11, 12, 13, 14, 15, 16, 17, 18, 19, 20, 21, 22, 23, 24, 25, 26, 27, 28, 29, 30, 31, 32, 33, 34, 35, 36, 37, 38, 39, 40]⟩)], [(6, ⟨[(40, kB)], [17, 18, 19, 20, 21, 22, 23, 24, 25, 26, 27, 28, 29, 30, 31, 32, 33, 34, 35, 36, 37, 38, 39]⟩)], [(6, .l [(0, []), (1, []), (2, []), (3, []), (4, []), (5, []), (6, []), (7, []), (8, []), (9, []), (10, []), (11, []), (12, []), (13, []), (14, []), (15, []), (16, []), (17, []), (18, []), (19, []), (20, []), (21, []), (22, []), (23, [])])], []⟩ [vS a0, vS a1] R w = sh20 a0 a1 R w := by kernel_rfl
theorem call20 {a0 : Sl} {a1 : Sl} {w : World} {K : TK [kB] → World → Prop} (h : sh20 a0 a1 (fun vs w' => ∃ t, encK [kB] t = vs ∧ K t w') w) : cl Pg 20 [vS a0, vS a1] [kB] w K := cl_of Try.func20 (tie20 ..) h
/-- (*detent/detentref4.Queue).Remove -/
def sh23 (a0 : Option Addr) (a1 : Int) (R : List Value → World → Prop) (w : World) : Prop :=
 cl Pg 39 [.pointer a0, .int .i64 a1] [kI] w fun (r1 : Int × Unit) w2 =>
 cs (decide ((r1.1 : Int) < (0 : Int))) (
 R [.bool false] w2) (
 al w2 94 [] fun b3 w4 =>
 nn a0 fun b5 o6 =>
 ldS w4 b5 (o6 + 1) fun s7 =>
 sb s7 0 r1.1 s7.cap 2 fun s8 =>
 ef Pg (Builtin.append_ #[83, 83] 83 #[vS ⟨some ⟨b3, 0, none⟩, 0, 0⟩, vS s8]) [kS] w4 fun (r9 : Sl × Unit) w10 =>
 nn a0 fun b11 o12 =>
 ldS w10 b11 (o12 + 1) fun s13 =>
 sb s13 (w64 (r1.1 + 1)) s13.len s13.cap 2 fun s14 =>
 ef Pg (Builtin.append_ #[83, 83] 83 #[vS r9.1, vS s14]) [kS] w10 fun (r15 : Sl × Unit) w16 =>
 nn a0 fun b17 o18 =>
 st1 w16 b17 (o18 + 1) (vS r15.1) fun w19 =>
 R [.bool true] w19)
theorem tie23 (a0 : Option Addr) (a1 : Int) (R : List Value → World → Prop) (w : World) : compF Pg Try.f23 ⟨[], [], [], []⟩ [.pointer a0, .int .i64 a1] R w = sh23 a0 a1 R w := by kernel_rfl
theorem call23 {a0 : Option Addr} {a1 : Int} {w : World} {K : TK [kB] → World → Prop} (h : sh23 a0 a1 (fun vs w' => ∃ t, encK [kB] t = vs ∧ K t w') w) : cl Pg 23 [.pointer a0, .int .i64 a1] [kB] w K := cl_of Try.func23 (tie23 ..) h
/-- (*detent/detentref4.Queue).IDs -/
def sh37 (a0 : Option Addr) (R : List Value → World → Prop) (w : World) : Prop :=
 lp [kS, kI] w (⟨none, 0, 0⟩, (0 : Int), ()) fun (t1 : Sl × Int × Unit) J2 w3 =>
 nn a0 fun b4 o5 =>
 ldS w3 b4 (o5 + 1) fun s6 =>
 cs (decide ((t1.2.1 : Int) < ((s6.len : Int) : Int))) (
 nn a0 fun b7 o8 =>
 ldS w3 b7 (o8 + 1) fun s9 =>
 ix s9 t1.2.1 2 fun b10 o11 =>
 ldI w3 .i64 b10 o11 fun n12 =>
 al w3 3 [.int .i64 n12] fun b13 w14 =>
 ef Pg (Builtin.append_ #[90, 90] 90 #[vS t1.1, vS ⟨some ⟨b13, 0, none⟩, 1, 1⟩]) [kS] w14 fun (r15 : Sl × Unit) w16 =>
 J2 (r15.1, w64 (t1.2.1 + 1), ()) w16) (
 R [vS t1.1] w3)
theorem tie37 (a0 : Option Addr) (R : List Value → World → Prop) (w : World) : compF Pg Try.f37 ⟨[(1, ⟨[(3, kS), (4, kI)], [5, 6, 7, 8, 9, 10, 11, 12, 13, 14, 15, 16, 17, 18, 19, 20, 21, 22, 23, 24]⟩)], [], [], []⟩ [.pointer a0] R w = sh37 a0 R w := by kernel_rfl
theorem call37 {a0 : Option Addr} {w : World} {K : TK [kS] → World → Prop} (h : sh37 a0 (fun vs w' => ∃ t, encK [kS] t = vs ∧ K t w') w) : cl Pg 37 [.pointer a0] [kS] w K := cl_of Try.func37 (tie37 ..) h
/-- (*detent/detentref12.Flag).Raise -/
def sh21 (a0 : Option Addr) (a1 : Sl) (R : List Value → World → Prop) (w : World) : Prop :=
 lp [kI] w ((0 : Int), ()) fun (t1 : Int × Unit) J2 w3 =>
 cs (decide ((t1.1 : Int) < ((a1.len : Int) : Int))) (
 dr w3 fun w4 =>
 nn a0 fun b5 o6 =>
 ldI w4 .u32 b5 (o6 + 35) fun n7 =>
 ix a1 t1.1 1 fun b8 o9 =>
 ldI w4 .u32 b8 o9 fun n10 =>
 nn a0 fun b11 o12 =>
 st1 w4 b11 (o12 + 35) (.int .u32 (bOr .u32 n7 n10)) fun w13 =>
 J2 (w64 (t1.1 + 1), ()) w13) (
 nn a0 fun b14 o15 =>
 ldP w3 b14 o15 fun p16 =>
 cl Pg 37 [.pointer p16] [kS] w3 fun (r17 : Sl × Unit) w18 =>
 lp [kS, kI] w18 (⟨none, 0, 0⟩, (0 : Int), ()) fun (t19 : Sl × Int × Unit) J20 w21 =>
 cs (decide ((t19.2.1 : Int) < ((r17.1.len : Int) : Int))) (
 dr w21 fun w22 =>
 ix r17.1 t19.2.1 1 fun b23 o24 =>
 ldI w22 .i64 b23 o24 fun n25 =>
 nn a0 fun b26 o27 =>
 ixA b26 (o27 + 1) 17 n25 2 fun b28 o29 =>
 ldI w22 .u32 b28 o29 fun n30 =>
 ldI w22 .i64 b28 (o29 + 1) fun n31 =>
 cl Pg 35 [.pointer a0, .agg #[.int .u32 n30, .int .i64 n31]] [kB] w22 fun (r32 : Bool × Unit) w33 =>
 cs (!r32.1) (
 J20 (t19.1, w64 (t19.2.1 + 1), ()) w33) (
 dr w33 fun w34 =>
 nn a0 fun b35 o36 =>
 ldP w34 b35 o36 fun p37 =>
 ix r17.1 t19.2.1 1 fun b38 o39 =>
 ldI w34 .i64 b38 o39 fun n40 =>
 cl Pg 23 [.pointer p37, .int .i64 n40] [kB] w34 fun (r41 : Bool × Unit) w42 =>
 dr w42 fun w43 =>
 ix r17.1 t19.2.1 1 fun b44 o45 =>
 ldI w43 .i64 b44 o45 fun n46 =>
 cl Pg 36 [.pointer a0] [.l (.i .u32)] w43 fun (r47 : Int × Unit) w48 =>
(w48.cell? ⟨b44, o45, none⟩ = some (.int .i64 n46)) ∧ (
 al w48 89 [.int .i64 n46, .int .u32 r47.1] fun b49 w50 =>
 ef Pg (Builtin.append_ #[60, 60] 60 #[vS t19.1, vS ⟨some ⟨b49, 0, none⟩, 1, 1⟩]) [kS] w50 fun (r51 : Sl × Unit) w52 =>
 nn a0 fun b53 o54 =>
 ldB w52 b53 (o54 + 37) fun b55 =>
 cs b55 (
 R [vS r51.1] w52) (
 J20 (r51.1, w64 (t19.2.1 + 1), ()) w52)))) (
 R [vS t19.1] w21))
theorem tie21 (a0 : Option Addr) (a1 : Sl) (R : List Value → World → Prop) (w : World) : compF Pg Try.f21 ⟨[(1, ⟨[(5, kI)], [9, 10, 11, 12, 13, 14, 15, 16, 17, 18, 19, 20, 21, 22, 23, 24, 25, 26]⟩), (5, ⟨[(6, kS), (8, kI)], [32, 33, 34, 35, 36, 37, 38, 39, 40, 41, 42, 43, 44, 45, 46, 47, 48, 49, 50, 51, 52, 53, 54, 55, 56, 57, 58, 59, 60, 61, 62, 63, 64, 65, 66, 67, 68, 69, 70, 71, 72]⟩)], [], [(4, .l [(0, []), (1, []), (2, []), (3, []), (4, []), (5, []), (6, []), (7, []), (8, []), (9, []), (10, []), (11, []), (12, [11, 9, 0, 1, 2, 3, 4, 5, 6, 7, 8, 10])]), (10, .l [(0, []), (1, []), (2, []), (3, []), (4, []), (5, []), (6, []), (7, []), (8, []), (9, []), (10, [0, 9, 8, 7, 5, 6, 4, 1, 2, 3]), (11, [])]), (11, .l [(0, []), (1, []), (2, []), (3, []), (4, []), (5, []), (6, []), (7, []), (8, [3, 7, 2, 6, 1, 4, 5, 0])]), (12, .l [(0, []), (1, []), (2, []), (3, []), (4, []), (5, []), (6, [5]), (7, []), (8, [7, 4, 6, 3, 5, 1, 2]), (9, [0, 8, 6, 7, 5, 4, 3, 1, 2]), (10, [])])], []⟩ [.pointer a0, vS a1] R w = sh21 a0 a1 R w := by kernel_rfl
theorem call21 {a0 : Option Addr} {a1 : Sl} {w : World} {K : TK [kS] → World → Prop} (h : sh21 a0 a1 (fun vs w' => ∃ t, encK [kS] t = vs ∧ K t w') w) : cl Pg 21 [.pointer a0, vS a1] [kS] w K := cl_of Try.func21 (tie21 ..) h
/-- (*detent/order.Queue).Change -/
def sh24 (a0 : Option Addr) (a1 : Int) (a2 : Int) (R : List Value → World → Prop) (w : World) : Prop :=
 nn a0 fun b1 o2 =>
 cl Pg 33 [.pointer (some ⟨b1, o2, none⟩), .int .i64 a1] [kI] w fun (r3 : Int × Unit) w4 =>
 jn [kB] w4 (fun (t6 : Bool × Unit) w7 =>
 cs t6.1 (
 R [.bool false] w7) (
 nn a0 fun b9 o10 =>
 ldB w7 b9 (o10 + 1) fun b11 =>
 cs (!b11) (
 nn a0 fun b12 o13 =>
 ldS w7 b12 o13 fun s14 =>
 ix s14 r3.1 2 fun b15 o16 =>
 st1 w7 b15 (o16 + 1) (.int .i64 a2) fun w17 =>
 R [.bool true] w17) (
 nn a0 fun b18 o19 =>
 cl Pg 38 [.pointer (some ⟨b18, o19, none⟩), .int .i64 a1] [kB] w7 fun (r20 : Bool × Unit) w21 =>
 cl Pg 41 [.pointer a0, .agg #[.int .i64 a1, .int .i64 a2]] [] w21 fun (r22 : Unit) w23 =>
 R [.bool true] w23))) fun J5 w8 =>
 cs (decide ((r3.1 : Int) < (0 : Int))) (
 J5 (true, ()) w8) (
 cl Pg 40 [.int .i64 a2] [kB] w8 fun (r24 : Bool × Unit) w25 =>
 J5 (!r24.1, ()) w25)
theorem tie24 (a0 : Option Addr) (a1 : Int) (a2 : Int) (R : List Value → World → Prop) (w : World) : compF Pg Try.f24 ⟨[], [], [], [(2, [(3, 4, ⟨[(19, kB)], [16, 17, 18]⟩)])]⟩ [.pointer a0, .int .i64 a1, .int .i64 a2] R w = sh24 a0 a1 a2 R w := by kernel_rfl
theorem call24 {a0 : Option Addr} {a1 : Int} {a2 : Int} {w : World} {K : TK [kB] → World → Prop} (h : sh24 a0 a1 a2 (fun vs w' => ∃ t, encK [kB] t = vs ∧ K t w') w) : cl Pg 24 [.pointer a0, .int .i64 a1, .int .i64 a2] [kB] w K := cl_of Try.func24 (tie24 ..) h
/-- (*detent/detentref4.Queue).Change -/
def sh25 (a0 : Option Addr) (a1 : Int) (a2 : Int) (R : List Value → World → Prop) (w : World) : Prop :=
 cl Pg 39 [.pointer a0, .int .i64 a1] [kI] w fun (r1 : Int × Unit) w2 =>
 jn [kB] w2 (fun (t4 : Bool × Unit) w5 =>
 jn [kB] w5 (fun (t8 : Bool × Unit) w9 =>
 cs t8.1 (
 R [.bool false] w9) (
 nn a0 fun b11 o12 =>
 ldB w9 b11 o12 fun b13 =>
 cs b13 (
 cl Pg 23 [.pointer a0, .int .i64 a1] [kB] w9 fun (r14 : Bool × Unit) w15 =>
 cl Pg 42 [.pointer a0, .agg #[.int .i64 a1, .int .i64 a2]] [] w15 fun (r16 : Unit) w17 =>
 R [.bool true] w17) (
 al w9 94 [] fun b18 w19 =>
 nn a0 fun b20 o21 =>
 ldS w19 b20 (o21 + 1) fun s22 =>
 ef Pg (Builtin.append_ #[83, 83] 83 #[vS ⟨some ⟨b18, 0, none⟩, 0, 0⟩, vS s22]) [kS] w19 fun (r23 : Sl × Unit) w24 =>
 nn a0 fun b25 o26 =>
 st1 w24 b25 (o26 + 1) (vS r23.1) fun w27 =>
 nn a0 fun b28 o29 =>
 ldS w27 b28 (o29 + 1) fun s30 =>
 ix s30 r1.1 2 fun b31 o32 =>
 st1 w27 b31 (o32 + 1) (.int .i64 a2) fun w33 =>
 R [.bool true] w33))) fun J7 w10 =>
 cs t4.1 (
 J7 (true, ()) w10) (
 J7 (decide ((a2 : Int) > (16 : Int)), ()) w10)) fun J3 w6 =>
 cs (decide ((r1.1 : Int) < (0 : Int))) (
 J3 (true, ()) w6) (
 J3 (decide ((a2 : Int) < (1 : Int)), ()) w6)
theorem tie25 (a0 : Option Addr) (a1 : Int) (a2 : Int) (R : List Value → World → Prop) (w : World) : compF Pg Try.f25 ⟨[], [], [], [(2, [(3, 3, ⟨[(16, kB)], [14, 15]⟩), (7, 3, ⟨[(20, kB)], [18, 19]⟩)])]⟩ [.pointer a0, .int .i64 a1, .int .i64 a2] R w = sh25 a0 a1 a2 R w := by kernel_rfl
theorem call25 {a0 : Option Addr} {a1 : Int} {a2 : Int} {w : World} {K : TK [kB] → World → Prop} (h : sh25 a0 a1 a2 (fun vs w' => ∃ t, encK [kB] t = vs ∧ K t w') w) : cl Pg 25 [.pointer a0, .int .i64 a1, .int .i64 a2] [kB] w K := cl_of Try.func25 (tie25 ..) h
/-- (*detent/order.Queue).Twin -/
def sh43 (a0 : Option Addr) (R : List Value → World → Prop) (w : World) : Prop :=
 dr w fun w1 =>
 nn a0 fun b2 o3 =>
 ldS w1 b2 o3 fun s4 =>
 nn a0 fun b5 o6 =>
 ldB w1 b5 (o6 + 1) fun b7 =>
 cl Pg 49 [vS s4] [kS] w1 fun (r8 : Sl × Unit) w9 =>
(w9.cell? ⟨b5, o6 + 1, none⟩ = some (.bool b7)) ∧ (
 al w9 42 [vS r8.1, .bool b7] fun b10 w11 =>
 R [.pointer (some ⟨b10, 0, none⟩)] w11)
theorem tie43 (a0 : Option Addr) (R : List Value → World → Prop) (w : World) : compF Pg Try.f43 ⟨[], [], [(1, .l [(0, []), (1, []), (2, []), (3, []), (4, []), (7, []), (8, []), (9, []), (10, []), (5, [4, 3, 2, 1, 0]), (6, []), (11, []), (12, [11, 6, 10, 5, 9, 4, 8, 3, 7, 2, 1, 0]), (13, [])])], []⟩ [.pointer a0] R w = sh43 a0 R w := by kernel_rfl
theorem call43 {a0 : Option Addr} {w : World} {K : TK [kP] → World → Prop} (h : sh43 a0 (fun vs w' => ∃ t, encK [kP] t = vs ∧ K t w') w) : cl Pg 43 [.pointer a0] [kP] w K := cl_of Try.func43 (tie43 ..) h
/-- maps.Clone[map[int]detent/flag.wish,int,detent/flag.wish] -/
def sh44 (a0 : Option Nat) (R : List Value → World → Prop) (w : World) : Prop :=
 cs a0.isNone (
 R [.map none] w) (
 xt Pg 55 [.iface 34 (.map a0)] [.l .n] w fun (r1 : Iv × Unit) w2 =>
 ef Pg (Instr.typeAssert (.iface r1.1.t r1.1.v) 20 34 false) [kM] w2 fun (r3 : Option Nat × Unit) w4 =>
 R [.map r3.1] w4)
theorem tie44 (a0 : Option Nat) (R : List Value → World → Prop) (w : World) : compF Pg Try.f44 ⟨[], [], [], []⟩ [.map a0] R w = sh44 a0 R w := by kernel_rfl
theorem call44 {a0 : Option Nat} {w : World} {K : TK [kM] → World → Prop} (h : sh44 a0 (fun vs w' => ∃ t, encK [kM] t = vs ∧ K t w') w) : cl Pg 44 [.map a0] [kM] w K := cl_of Try.func44 (tie44 ..) h
/-- (*detent/flag.Flag).Apart -/
def sh26 (a0 : Option Addr) (R : List Value → World → Prop) (w : World) : Prop :=
 dr w fun w1 =>
 nn a0 fun b2 o3 =>
 ldP w1 b2 o3 fun p4 =>
 nn a0 fun b5 o6 =>
 ldI w1 .u32 b5 (o6 + 1) fun n7 =>
 nn a0 fun b8 o9 =>
 ldB w1 b8 (o9 + 2) fun b10 =>
 nn a0 fun b11 o12 =>
 ldB w1 b11 (o12 + 3) fun b13 =>
 nn a0 fun b14 o15 =>
 ldM w1 b14 (o15 + 4) fun m16 =>
 cl Pg 43 [.pointer p4] [kP] w1 fun (r17 : Option Addr × Unit) w18 =>
(w18.cell? ⟨b14, o15 + 4, none⟩ = some (.map m16)) ∧ (
(w18.cell? ⟨b11, o12 + 3, none⟩ = some (.bool b13)) ∧ (
(w18.cell? ⟨b8, o9 + 2, none⟩ = some (.bool b10)) ∧ (
(w18.cell? ⟨b5, o6 + 1, none⟩ = some (.int .u32 n7)) ∧ (
 cl Pg 44 [.map m16] [kM] w18 fun (r19 : Option Nat × Unit) w20 =>
(w20.cell? ⟨b11, o12 + 3, none⟩ = some (.bool b13)) ∧ (
(w20.cell? ⟨b8, o9 + 2, none⟩ = some (.bool b10)) ∧ (
(w20.cell? ⟨b5, o6 + 1, none⟩ = some (.int .u32 n7)) ∧ (
 al w20 36 [.pointer r17.1, .int .u32 n7, .bool b10, .bool b13, .map r19.1] fun b21 w22 =>
 R [.pointer (some ⟨b21, 0, none⟩)] w22)))))))
theorem tie26 (a0 : Option Addr) (R : List Value → World → Prop) (w : World) : compF Pg Try.f26 ⟨[], [], [(1, .l [(0, []), (1, []), (2, []), (3, []), (5, []), (6, []), (7, []), (8, []), (9, []), (10, []), (11, []), (12, []), (13, []), (14, []), (15, []), (16, []), (17, []), (18, []), (19, []), (20, []), (4, [3, 2, 1, 0]), (21, [20, 4, 19, 3, 18, 2, 17, 1, 0]), (22, []), (23, [22, 4, 8, 12, 16, 21, 3, 7, 11, 15, 20, 2, 6, 10, 14, 19, 1, 5, 9, 13, 18, 0, 17]), (24, [])])], []⟩ [.pointer a0] R w = sh26 a0 R w := by kernel_rfl
theorem call26 {a0 : Option Addr} {w : World} {K : TK [kP] → World → Prop} (h : sh26 a0 (fun vs w' => ∃ t, encK [kP] t = vs ∧ K t w') w) : cl Pg 26 [.pointer a0] [kP] w K := cl_of Try.func26 (tie26 ..) h
/-- detent/detentlaw4.Row -/
def sh45 (a0 : Sl) (a1 : Sl) (R : List Value → World → Prop) (w : World) : Prop :=
 cs (((a0.len : Int) : Int) != ((a1.len : Int) : Int)) (
 R [.bool false] w) (
 lp [kI] w ((0 : Int), ()) fun (t1 : Int × Unit) J2 w3 =>
 cs (decide ((t1.1 : Int) < ((a0.len : Int) : Int))) (
 dr w3 fun w4 =>
 jn [kB] w4 (fun (t6 : Bool × Unit) w7 =>
 cs t6.1 (
 R [.bool false] w7) (
 J2 (w64 (t1.1 + 1), ()) w7)) fun J5 w8 =>
 ix a0 t1.1 2 fun b9 o10 =>
 ldI w8 .i64 b9 o10 fun n11 =>
 ix a1 t1.1 2 fun b12 o13 =>
 ldI w8 .i64 b12 o13 fun n14 =>
 cs ((n11 : Int) != (n14 : Int)) (
 J5 (true, ()) w8) (
 ix a0 t1.1 2 fun b15 o16 =>
 ldI w8 .i64 b15 (o16 + 1) fun n17 =>
 ix a1 t1.1 2 fun b18 o19 =>
 ldI w8 .i64 b18 (o19 + 1) fun n20 =>
 J5 ((n17 : Int) != (n20 : Int), ()) w8)) (
 R [.bool true] w3))
theorem tie45 (a0 : Sl) (a1 : Sl) (R : List Value → World → Prop) (w : World) : compF Pg Try.f45 ⟨[(2, ⟨[(5, kI)], [4, 11, 12, 13, 14, 15, 16, 17, 18, 19, 20, 21, 22, 23, 24, 25, 26, 27, 28, 29, 30, 31, 32, 33, 34, 35, 36, 37, 38, 39, 40]⟩)], [(6, ⟨[(40, kB)], [17, 18, 19, 20, 21, 22, 23, 24, 25, 26, 27, 28, 29, 30, 31, 32, 33, 34, 35, 36, 37, 38, 39]⟩)], [(6, .l [(0, []), (1, []), (2, []), (3, []), (4, []), (5, []), (6, []), (7, []), (8, []), (9, []), (10, []), (11, []), (12, []), (13, []), (14, []), (15, []), (16, []), (17, []), (18, []), (19, []), (20, []), (21, []), (22, []), (23, [])])], []⟩ [vS a0, vS a1] R w = sh45 a0 a1 R w := by kernel_rfl
theorem call45 {a0 : Sl} {a1 : Sl} {w : World} {K : TK [kB] → World → Prop} (h : sh45 a0 a1 (fun vs w' => ∃ t, encK [kB] t = vs ∧ K t w') w) : cl Pg 45 [vS a0, vS a1] [kB] w K := cl_of Try.func45 (tie45 ..) h
/-- (*detent/order.Line).First -/
def sh46 (a0 : Option Addr) (R : List Value → World → Prop) (w : World) : Prop :=
 al w 78 [.int .i64 0, .int .i64 0] fun b1 w2 =>
 nn a0 fun b3 o4 =>
 ldS w2 b3 o4 fun s5 =>
 cs (((s5.len : Int) : Int) == (0 : Int)) (
 st1 w2 b1 0 (.int .i64 0) fun w6 =>
 st1 w6 b1 (0 + 1) (.int .i64 0) fun w7 =>
 ldI w7 .i64 b1 0 fun n8 =>
 ldI w7 .i64 b1 (0 + 1) fun n9 =>
 R [.agg #[.int .i64 n8, .int .i64 n9], .bool false] w7) (
 nn a0 fun b10 o11 =>
 ldS w2 b10 o11 fun s12 =>
 ix s12 0 2 fun b13 o14 =>
 ldI w2 .i64 b13 o14 fun n15 =>
 ldI w2 .i64 b13 (o14 + 1) fun n16 =>
 st1 w2 b1 0 (.int .i64 n15) fun w17 =>
 st1 w17 b1 (0 + 1) (.int .i64 n16) fun w18 =>
 ldI w18 .i64 b1 0 fun n19 =>
 ldI w18 .i64 b1 (0 + 1) fun n20 =>
 R [.agg #[.int .i64 n19, .int .i64 n20], .bool true] w18)
theorem tie46 (a0 : Option Addr) (R : List Value → World → Prop) (w : World) : compF Pg Try.f46 ⟨[], [], [], []⟩ [.pointer a0] R w = sh46 a0 R w := by kernel_rfl
theorem call46 {a0 : Option Addr} {w : World} {K : TK [.a [(.i .i64), (.i .i64)], kB] → World → Prop} (h : sh46 a0 (fun vs w' => ∃ t, encK [.a [(.i .i64), (.i .i64)], kB] t = vs ∧ K t w') w) : cl Pg 46 [.pointer a0] [.a [(.i .i64), (.i .i64)], kB] w K := cl_of Try.func46 (tie46 ..) h
/-- (*detent/order.Line).Pri -/
def sh47 (a0 : Option Addr) (a1 : Int) (R : List Value → World → Prop) (w : World) : Prop :=
 cl Pg 33 [.pointer a0, .int .i64 a1] [kI] w fun (r1 : Int × Unit) w2 =>
 cs (decide ((r1.1 : Int) < (0 : Int))) (
 R [.int .i64 0, .bool false] w2) (
 nn a0 fun b3 o4 =>
 ldS w2 b3 o4 fun s5 =>
 ix s5 r1.1 2 fun b6 o7 =>
 ldI w2 .i64 b6 (o7 + 1) fun n8 =>
 R [.int .i64 n8, .bool true] w2)
theorem tie47 (a0 : Option Addr) (a1 : Int) (R : List Value → World → Prop) (w : World) : compF Pg Try.f47 ⟨[], [], [], []⟩ [.pointer a0, .int .i64 a1] R w = sh47 a0 a1 R w := by kernel_rfl
theorem call47 {a0 : Option Addr} {a1 : Int} {w : World} {K : TK [kI, kB] → World → Prop} (h : sh47 a0 a1 (fun vs w' => ∃ t, encK [kI, kB] t = vs ∧ K t w') w) : cl Pg 47 [.pointer a0, .int .i64 a1] [kI, kB] w K := cl_of Try.func47 (tie47 ..) h
/-- detent/detentlaw4.Same -/
def sh27 (a0 : Option Addr) (a1 : Option Addr) (R : List Value → World → Prop) (w : World) : Prop :=
 dr w fun w1 =>
 jn [kB] w1 (fun (t3 : Bool × Unit) w4 =>
 cs t3.1 (
 R [.bool false] w4) (
 nn a0 fun b6 o7 =>
 cl Pg 46 [.pointer (some ⟨b6, o7, none⟩)] [.a [(.i .i64), (.i .i64)], kB] w4 fun (r8 : (Int × Int × Unit) × Bool × Unit) w9 =>
 al w9 78 [.int .i64 0, .int .i64 0] fun b10 w11 =>
 st1 w11 b10 0 (.int .i64 r8.1.1) fun w12 =>
 st1 w12 b10 (0 + 1) (.int .i64 r8.1.2.1) fun w13 =>
 dr w13 fun w14 =>
 jn [kB] w14 (fun (t16 : Bool × Unit) w17 =>
 cs t16.1 (
 R [.bool false] w17) (
 lp [kI] w17 ((0 : Int), ()) fun (t19 : Int × Unit) J20 w21 =>
 cs (decide ((t19.1 : Int) ≤ (17 : Int))) (
 cl Pg 39 [.pointer a1, .int .i64 t19.1] [kI] w21 fun (r22 : Int × Unit) w23 =>
 nn a0 fun b24 o25 =>
 cl Pg 47 [.pointer (some ⟨b24, o25, none⟩), .int .i64 t19.1] [kI, kB] w23 fun (r26 : Int × Bool × Unit) w27 =>
 nn a0 fun b28 o29 =>
 cl Pg 14 [.pointer (some ⟨b28, o29, none⟩), .int .i64 t19.1] [kB] w27 fun (r30 : Bool × Unit) w31 =>
 jn [kB] w31 (fun (t33 : Bool × Unit) w34 =>
 jn [kB] w34 (fun (t37 : Bool × Unit) w38 =>
 jn [kB] w38 (fun (t41 : Bool × Unit) w42 =>
 cs t41.1 (
 R [.bool false] w42) (
 J20 (w64 (t19.1 + 1), ()) w42)) fun J40 w43 =>
 cs t37.1 (
 J40 (true, ()) w43) (
 jn [kB] w43 (fun (t45 : Bool × Unit) w46 =>
 J40 (t45.1, ()) w46) fun J44 w47 =>
 cs (decide ((r22.1 : Int) < (0 : Int))) (
 J44 ((r26.1 : Int) != (0 : Int), ()) w47) (
 J44 (false, ()) w47))) fun J36 w39 =>
 cs t33.1 (
 J36 (true, ()) w39) (
 jn [kB] w39 (fun (t49 : Bool × Unit) w50 =>
 J36 (t49.1, ()) w50) fun J48 w51 =>
 cs (decide ((r22.1 : Int) ≥ (0 : Int))) (
 nn a1 fun b52 o53 =>
 ldS w51 b52 (o53 + 1) fun s54 =>
 ix s54 r22.1 2 fun b55 o56 =>
 ldI w51 .i64 b55 (o56 + 1) fun n57 =>
 J48 ((r26.1 : Int) != (n57 : Int), ()) w51) (
 J48 (false, ()) w51))) fun J32 w35 =>
 cs (!(r30.1 == (decide ((r22.1 : Int) ≥ (0 : Int))))) (
 J32 (true, ()) w35) (
 J32 (!(r26.2.1 == (decide ((r22.1 : Int) ≥ (0 : Int)))), ()) w35)) (
 R [.bool true] w21))) fun J15 w18 =>
 nn a1 fun b58 o59 =>
 ldS w18 b58 (o59 + 1) fun s60 =>
 cs (!(r8.2.1 == (decide (((s60.len : Int) : Int) > (0 : Int))))) (
 J15 (true, ()) w18) (
 cs r8.2.1 (
 ldI w18 .i64 b10 0 fun n61 =>
 nn a1 fun b62 o63 =>
 ldS w18 b62 (o63 + 1) fun s64 =>
 ix s64 0 2 fun b65 o66 =>
 ldI w18 .i64 b65 o66 fun n67 =>
 cs ((n61 : Int) != (n67 : Int)) (
 J15 (true, ()) w18) (
 ldI w18 .i64 b10 (0 + 1) fun n68 =>
 nn a1 fun b69 o70 =>
 ldS w18 b69 (o70 + 1) fun s71 =>
 ix s71 0 2 fun b72 o73 =>
 ldI w18 .i64 b72 (o73 + 1) fun n74 =>
 cs ((n68 : Int) != (n74 : Int)) (
 J15 (true, ()) w18) (
 cs (!r8.2.1) (
 ldI w18 .i64 b10 0 fun n75 =>
 cs ((n75 : Int) != (0 : Int)) (
 J15 (true, ()) w18) (
 ldI w18 .i64 b10 (0 + 1) fun n76 =>
 J15 ((n76 : Int) != (0 : Int), ()) w18)) (
 J15 (false, ()) w18)))) (
 cs (!r8.2.1) (
 ldI w18 .i64 b10 0 fun n77 =>
 cs ((n77 : Int) != (0 : Int)) (
 J15 (true, ()) w18) (
 ldI w18 .i64 b10 (0 + 1) fun n78 =>
 J15 ((n78 : Int) != (0 : Int), ()) w18)) (
 J15 (false, ()) w18))))) fun J2 w5 =>
 nn a0 fun b79 o80 =>
 nn a1 fun b81 o82 =>
 ldS w5 b81 (o82 + 1) fun s83 =>
 cl Pg 30 [.pointer (some ⟨b79, o80, none⟩)] [kS] w5 fun (r84 : Sl × Unit) w85 =>
(w85.cell? ⟨b81, o82 + 1, none⟩ = some (vS s83)) ∧ (
 cl Pg 45 [vS r84.1, vS s83] [kB] w85 fun (r86 : Bool × Unit) w87 =>
 cs (!r86.1) (
 J2 (true, ()) w87) (
 nn a0 fun b88 o89 =>
 nn a1 fun b90 o91 =>
 ldS w87 b90 (o91 + 1) fun s92 =>
 cl Pg 13 [.pointer (some ⟨b88, o89, none⟩)] [kI] w87 fun (r93 : Int × Unit) w94 =>
(w94.cell? ⟨b90, o91 + 1, none⟩ = some (vS s92)) ∧ (
 J2 ((r93.1 : Int) != ((s92.len : Int) : Int), ()) w94)))
theorem tie27 (a0 : Option Addr) (a1 : Option Addr) (R : List Value → World → Prop) (w : World) : compF Pg Try.f27 ⟨[(3, ⟨[(7, kI)], [4, 8, 9, 10, 89, 90, 91, 92, 93, 94, 95, 96, 97, 98, 99, 100, 101, 102, 103, 104, 105, 106, 107, 108, 109, 110, 111, 112, 113, 114, 115, 116, 117, 118, 119, 120, 121, 122, 123, 124, 125, 126, 127, 128, 129, 130, 131, 132, 133, 134, 135, 136, 137, 138, 139, 140, 141]⟩)], [(1, ⟨[(32, kB)], [11, 12, 13, 14, 15, 16, 17, 18, 19, 20, 21, 22, 23, 24, 25, 26, 27, 28, 29, 30, 31]⟩), (4, ⟨[(88, kB)], [40, 41, 42, 43, 44, 45, 46, 47, 48, 49, 50, 51, 52, 53, 54, 55, 56, 57, 58, 59, 60, 61, 62, 63, 64, 65, 66, 67, 68, 69, 70, 71, 72, 73, 74, 75, 76, 77, 78, 79, 80, 81, 82, 83, 84, 85, 86, 87]⟩)], [(1, .l [(0, []), (1, []), (2, []), (4, []), (5, []), (6, []), (7, []), (3, [2, 1, 0]), (8, [3, 7, 2, 6, 1, 5, 0, 4]), (9, []), (10, []), (11, []), (12, []), (13, []), (15, []), (16, []), (17, []), (18, []), (19, []), (14, [13, 10, 12, 9, 8, 11, 3, 7, 2, 6, 1, 5, 0, 4]), (20, []), (21, [])]), (4, .l [(0, []), (1, []), (2, []), (3, []), (4, []), (5, []), (6, []), (7, []), (8, []), (9, []), (10, []), (11, []), (12, []), (13, []), (14, []), (15, []), (16, []), (17, []), (18, []), (19, []), (20, []), (21, []), (22, []), (23, []), (24, []), (25, []), (26, []), (27, []), (28, []), (29, []), (30, []), (31, []), (32, []), (33, []), (34, []), (35, []), (36, []), (37, []), (38, []), (39, []), (40, []), (41, []), (42, []), (43, []), (44, []), (45, []), (46, []), (47, []), (48, [])])], [(11, [(9, 5, ⟨[(117, kB)], [113, 114, 115, 116]⟩), (15, 15, ⟨[(133, kB)], [119, 120, 121, 122, 123, 124, 125, 126, 127, 128, 129, 130, 131, 132]⟩), (18, 11, ⟨[(132, kB)], [122, 123, 124, 125, 126, 127, 128, 129, 130, 131]⟩), (31, 7, ⟨[(141, kB)], [135, 136, 137, 138, 139, 140]⟩), (34, 3, ⟨[(140, kB)], [138, 139]⟩)])]⟩ [.pointer a0, .pointer a1] R w = sh27 a0 a1 R w := by kernel_rfl
theorem call27 {a0 : Option Addr} {a1 : Option Addr} {w : World} {K : TK [kB] → World → Prop} (h : sh27 a0 a1 (fun vs w' => ∃ t, encK [kB] t = vs ∧ K t w') w) : cl Pg 27 [.pointer a0, .pointer a1] [kB] w K := cl_of Try.func27 (tie27 ..) h
/-- detent/detentlaw12.FlagPlays -/
def sh8 (a0 : Bool) (a1 : Bool) (a2 : Bool) (a3 : Int) (a4 : Sl) (R : List Value → World → Prop) (w : World) : Prop :=
 cl Pg 9 [] [kB] w fun (r1 : Bool × Unit) w2 =>
 cs (!r1.1) (
 R [.bool false] w2) (
 cs (decide (((a4.len : Int) : Int) > (100 : Int))) (
 R [.bool true] w2) (
 cl Pg 10 [.bool a0, .bool a1, .bool a2, .int .u32 a3] [kP] w2 fun (r3 : Option Addr × Unit) w4 =>
 cl Pg 17 [.bool a0, .bool a1, .bool a2, .int .u32 a3] [kP] w4 fun (r5 : Option Addr × Unit) w6 =>
 cs r3.1.isNone (
 R [.bool false] w6) (
 lp [kP, kI] w6 (r3.1, (0 : Int), ()) fun (t7 : Option Addr × Int × Unit) J8 w9 =>
 cs (decide ((t7.2.1 : Int) < ((a4.len : Int) : Int))) (
 ix a4 t7.2.1 6 fun b10 o11 =>
 ldI w9 .i64 b10 o11 fun n12 =>
 ldI w9 .i64 b10 (o11 + 1) fun n13 =>
 ldI w9 .i64 b10 (o11 + 2) fun n14 =>
 ldI w9 .u32 b10 (o11 + 3) fun n15 =>
 ldI w9 .i64 b10 (o11 + 4) fun n16 =>
 ldS w9 b10 (o11 + 5) fun s17 =>
 al w9 55 [.int .i64 0, .int .i64 0, .int .i64 0, .int .u32 0, .int .i64 0, .slice none 0 0] fun b18 w19 =>
 st1 w19 b18 0 (.int .i64 n12) fun w20 =>
 st1 w20 b18 (0 + 1) (.int .i64 n13) fun w21 =>
 st1 w21 b18 (0 + 2) (.int .i64 n14) fun w22 =>
 st1 w22 b18 (0 + 3) (.int .u32 n15) fun w23 =>
 st1 w23 b18 (0 + 4) (.int .i64 n16) fun w24 =>
 st1 w24 b18 (0 + 5) (vS s17) fun w25 =>
 ldS w25 b18 (0 + 5) fun s26 =>
 cs (decide (((s26.len : Int) : Int) > (20 : Int))) (
 R [.bool true] w25) (
 ldI w25 .i64 b18 0 fun n27 =>
 jn [kP] w25 (fun (t29 : Option Addr × Unit) w30 =>
 dr w30 fun w32 =>
 jn [kB] w32 (fun (t34 : Bool × Unit) w35 =>
 cs t34.1 (
 R [.bool false] w35) (
 J8 (t29.1, w64 (t7.2.1 + 1), ()) w35)) fun J33 w36 =>
 nn t29.1 fun b37 o38 =>
 ldI w36 .u32 b37 (o38 + 1) fun n39 =>
 nn r5.1 fun b40 o41 =>
 ldI w36 .u32 b40 (o41 + 35) fun n42 =>
 cs ((n39 : Int) != (n42 : Int)) (
 J33 (true, ()) w36) (
 nn t29.1 fun b43 o44 =>
 ldP w36 b43 o44 fun p45 =>
 nn r5.1 fun b46 o47 =>
 ldP w36 b46 o47 fun p48 =>
 cl Pg 27 [.pointer p45, .pointer p48] [kB] w36 fun (r49 : Bool × Unit) w50 =>
 J33 (!r49.1, ()) w50)) fun J28 w31 =>
 cs ((n27 : Int) == (1 : Int)) (
 ldI w31 .i64 b18 (0 + 1) fun n51 =>
 ldI w31 .i64 b18 (0 + 2) fun n52 =>
 ldI w31 .u32 b18 (0 + 3) fun n53 =>
 ldI w31 .i64 b18 (0 + 4) fun n54 =>
 cl Pg 11 [.pointer t7.1, .int .i64 n51, .int .i64 n52, .int .u32 n53, .int .i64 n54] [.l (.i .u32), kB, kI] w31 fun (r55 : Int × Bool × Int × Unit) w56 =>
 ldI w56 .i64 b18 (0 + 1) fun n57 =>
 ldI w56 .i64 b18 (0 + 2) fun n58 =>
 ldI w56 .u32 b18 (0 + 3) fun n59 =>
 ldI w56 .i64 b18 (0 + 4) fun n60 =>
 cl Pg 18 [.pointer r5.1, .int .i64 n57, .int .i64 n58, .int .u32 n59, .int .i64 n60] [.l (.i .u32), kB, kI] w56 fun (r61 : Int × Bool × Int × Unit) w62 =>
 jn [kB] w62 (fun (t64 : Bool × Unit) w65 =>
 jn [kB] w65 (fun (t68 : Bool × Unit) w69 =>
 cs t68.1 (
 R [.bool false] w69) (
 J28 (t7.1, ()) w69)) fun J67 w70 =>
 cs t64.1 (
 J67 (true, ()) w70) (
 J67 ((r55.2.2.1 : Int) != (r61.2.2.1 : Int), ()) w70)) fun J63 w66 =>
 cs ((r55.1 : Int) != (r61.1 : Int)) (
 J63 (true, ()) w66) (
 J63 (!(r55.2.1 == r61.2.1), ()) w66)) (
 jn [kP] w31 (fun (t72 : Option Addr × Unit) w73 =>
 J28 (t72.1, ()) w73) fun J71 w74 =>
 cs ((n27 : Int) == (2 : Int)) (
 ldI w74 .u32 b18 (0 + 3) fun n75 =>
 ldI w74 .i64 b18 (0 + 4) fun n76 =>
 cl Pg 15 [.pointer t7.1, .int .u32 n75, .int .i64 n76] [.l (.i .u32), kB, kI] w74 fun (r77 : Int × Bool × Int × Unit) w78 =>
 ldI w78 .u32 b18 (0 + 3) fun n79 =>
 ldI w78 .i64 b18 (0 + 4) fun n80 =>
 cl Pg 19 [.pointer r5.1, .int .u32 n79, .int .i64 n80] [.l (.i .u32), kB, kI] w78 fun (r81 : Int × Bool × Int × Unit) w82 =>
 jn [kB] w82 (fun (t84 : Bool × Unit) w85 =>
 jn [kB] w85 (fun (t88 : Bool × Unit) w89 =>
 cs t88.1 (
 R [.bool false] w89) (
 J71 (t7.1, ()) w89)) fun J87 w90 =>
 cs t84.1 (
 J87 (true, ()) w90) (
 J87 ((r77.2.2.1 : Int) != (r81.2.2.1 : Int), ()) w90)) fun J83 w86 =>
 cs ((r77.1 : Int) != (r81.1 : Int)) (
 J83 (true, ()) w86) (
 J83 (!(r77.2.1 == r81.2.1), ()) w86)) (
 jn [kP] w74 (fun (t92 : Option Addr × Unit) w93 =>
 J71 (t92.1, ()) w93) fun J91 w94 =>
 cs ((n27 : Int) == (3 : Int)) (
 dr w94 fun w95 =>
 ldS w95 b18 (0 + 5) fun s96 =>
 ldS w95 b18 (0 + 5) fun s97 =>
 cl Pg 12 [.pointer t7.1, vS s96] [kS] w95 fun (r98 : Sl × Unit) w99 =>
(w99.cell? ⟨b18, 0 + 5, none⟩ = some (vS s97)) ∧ (
 cl Pg 21 [.pointer r5.1, vS s97] [kS] w99 fun (r100 : Sl × Unit) w101 =>
 cl Pg 20 [vS r98.1, vS r100.1] [kB] w101 fun (r102 : Bool × Unit) w103 =>
 cs (!r102.1) (
 R [.bool false] w103) (
 J91 (t7.1, ()) w103))) (
 jn [kP] w94 (fun (t105 : Option Addr × Unit) w106 =>
 J91 (t105.1, ()) w106) fun J104 w107 =>
 cs ((n27 : Int) == (4 : Int)) (
 ldI w107 .u32 b18 (0 + 3) fun n108 =>
 cl Pg 16 [.pointer t7.1, .int .u32 n108] [] w107 fun (r109 : Unit) w110 =>
 dr w110 fun w111 =>
 nn r5.1 fun b112 o113 =>
 ldI w111 .u32 b112 (o113 + 35) fun n114 =>
 ldI w111 .u32 b18 (0 + 3) fun n115 =>
 nn r5.1 fun b116 o117 =>
 st1 w111 b116 (o117 + 35) (.int .u32 (bAnd .u32 n114 n115)) fun w118 =>
 J104 (t7.1, ()) w118) (
 jn [kP] w107 (fun (t120 : Option Addr × Unit) w121 =>
 J104 (t120.1, ()) w121) fun J119 w122 =>
 cs ((n27 : Int) == (5 : Int)) (
 dr w122 fun w123 =>
 ldI w123 .i64 b18 (0 + 1) fun n124 =>
 nn r5.1 fun b125 o126 =>
 ldP w123 b125 o126 fun p127 =>
 ldI w123 .i64 b18 (0 + 1) fun n128 =>
 cl Pg 22 [.pointer t7.1, .int .i64 n124] [kB] w123 fun (r129 : Bool × Unit) w130 =>
(w130.cell? ⟨b18, 0 + 1, none⟩ = some (.int .i64 n128)) ∧ (
(w130.cell? ⟨b125, o126, none⟩ = some (.pointer p127)) ∧ (
 cl Pg 23 [.pointer p127, .int .i64 n128] [kB] w130 fun (r131 : Bool × Unit) w132 =>
 cs (!(r129.1 == r131.1)) (
 R [.bool false] w132) (
 J119 (t7.1, ()) w132)))) (
 jn [kP] w122 (fun (t134 : Option Addr × Unit) w135 =>
 J119 (t134.1, ()) w135) fun J133 w136 =>
 cs ((n27 : Int) == (6 : Int)) (
 dr w136 fun w137 =>
 nn t7.1 fun b138 o139 =>
 ldP w137 b138 o139 fun p140 =>
 ldI w137 .i64 b18 (0 + 1) fun n141 =>
 ldI w137 .i64 b18 (0 + 2) fun n142 =>
 nn r5.1 fun b143 o144 =>
 ldP w137 b143 o144 fun p145 =>
 ldI w137 .i64 b18 (0 + 1) fun n146 =>
 ldI w137 .i64 b18 (0 + 2) fun n147 =>
 cl Pg 24 [.pointer p140, .int .i64 n141, .int .i64 n142] [kB] w137 fun (r148 : Bool × Unit) w149 =>
(w149.cell? ⟨b18, 0 + 2, none⟩ = some (.int .i64 n147)) ∧ (
(w149.cell? ⟨b18, 0 + 1, none⟩ = some (.int .i64 n146)) ∧ (
(w149.cell? ⟨b143, o144, none⟩ = some (.pointer p145)) ∧ (
 cl Pg 25 [.pointer p145, .int .i64 n146, .int .i64 n147] [kB] w149 fun (r150 : Bool × Unit) w151 =>
 cs (!(r148.1 == r150.1)) (
 R [.bool false] w151) (
 J133 (t7.1, ()) w151))))) (
 jn [kP] w136 (fun (t153 : Option Addr × Unit) w154 =>
 J133 (t153.1, ()) w154) fun J152 w155 =>
 cs ((n27 : Int) == (7 : Int)) (
 cl Pg 26 [.pointer t7.1] [kP] w155 fun (r156 : Option Addr × Unit) w157 =>
 cs r156.1.isNone (
 R [.bool false] w157) (
 al w157 27 [.int .u32 4294967295] fun b158 w159 =>
 cl Pg 12 [.pointer t7.1, vS ⟨some ⟨b158, 0, none⟩, 1, 1⟩] [kS] w159 fun (r160 : Sl × Unit) w161 =>
 J152 (r156.1, ()) w161)) (
 J152 (t7.1, ()) w155))))))))) (
 R [.bool true] w9))))
theorem tie8 (a0 : Bool) (a1 : Bool) (a2 : Bool) (a3 : Int) (a4 : Sl) (R : List Value → World → Prop) (w : World) : compF Pg Try.f8 ⟨[(4, ⟨[(11, kP), (13, kI)], [10, 14, 15, 16, 17, 18, 19, 20, 21, 22, 23, 24, 25, 26, 27, 45, 46, 47, 48, 49, 50, 51, 52, 53, 54, 55, 56, 57, 58, 59, 60, 61, 62, 63, 64, 65, 66, 67, 68, 69, 70, 71, 72, 73, 74, 75, 76, 77, 78, 79, 80, 81, 82, 83, 84, 85, 86, 87, 88, 89, 90, 91, 92, 93, 94, 95, 96, 97, 98, 99, 100, 101, 102, 103, 104, 105, 106, 107, 108, 109, 110, 111, 112, 113, 114, 115, 116, 117, 118, 119, 120, 121, 122, 123, 124, 125, 126, 127, 128, 129, 130, 131, 132, 133, 134, 135, 136, 137, 138, 139, 140, 141, 142, 143, 144, 145, 146, 147, 148, 149, 150, 151, 152, 153, 154, 155, 156, 157, 158, 159, 160, 161, 162, 163, 164, 165, 166, 167, 168, 169, 170, 171, 172, 173, 174, 175, 176, 177, 178, 179, 180, 181, 182, 183, 184, 185, 186, 187, 188, 189, 190, 191, 192, 193, 194, 195, 196, 197, 198, 199, 200, 201, 202, 203, 204, 205, 206, 207, 208, 209, 210, 211, 212, 213, 214, 215, 216, 217, 218, 219, 220, 221, 222, 223, 224, 225, 226, 227, 228, 229, 230, 231, 232]⟩), (9, ⟨[(11, kP)], [10, 15, 16, 17, 18, 19, 20, 21, 22, 23, 24, 25, 26, 27, 63, 64, 65, 66, 67, 68, 69, 70, 71, 72, 73, 74, 75, 76, 77, 78, 79, 80, 81, 82, 83, 84, 85, 86, 87, 88, 89, 90, 91, 92, 93, 94, 95, 96, 97, 98, 99, 100, 101, 102, 103, 104, 105, 106, 107, 108, 109, 110, 111, 112, 113, 114, 115, 116, 117, 118, 119, 120, 121, 122, 123, 124, 125, 126, 127, 128, 129, 130, 131, 132, 133, 134, 135, 136, 137, 138, 139, 140, 141, 142, 143, 144, 145, 146, 147, 148, 149, 150, 151, 152, 153, 154, 155, 156, 157, 158, 159, 160, 161, 162, 163, 164, 165, 166, 167, 168, 169, 170, 171, 172, 173, 174, 175, 176, 177, 178, 179, 180, 181, 182, 183, 184, 185, 186, 187, 188, 189, 190, 191, 192, 193, 194, 195, 196, 197, 198, 199, 200, 201, 202, 203, 204, 205, 206, 207, 208, 209, 210, 211]⟩), (11, ⟨[(11, kP)], [10, 21, 22, 23, 24, 25, 26, 27, 106, 107, 108, 109, 110, 111, 112, 113, 114, 115, 116, 117, 118, 119, 120, 121, 122, 123, 124, 125, 126, 127, 128, 129, 130, 131, 132, 133, 134, 135, 136, 137, 138, 139, 140, 141, 142, 143, 144, 145, 146, 147, 148, 149, 150, 151, 152, 153, 154, 155, 156, 157, 158, 159, 160, 161, 162, 163, 164, 165, 166, 167, 168, 169, 170, 171, 172, 173, 174, 175, 176, 177, 178, 179, 180, 181, 182, 183, 184, 185, 186, 187, 188, 189, 190, 191, 192, 193, 194, 195, 196, 197, 198, 199, 200, 201, 202, 203, 204, 205, 206, 207, 208, 209, 210, 211]⟩), (13, ⟨[(11, kP)], [10, 27, 141, 142, 143, 144, 145, 146, 147, 148, 149, 150, 151, 152, 153, 154, 155, 156, 157, 158, 159, 160, 161, 162, 163, 164, 165, 166, 167, 168, 169, 170, 171, 172, 173, 174, 175, 176, 177, 178, 179, 180, 181, 182, 183, 184, 185, 186, 187, 188, 189, 190, 191, 192, 193, 194, 195, 196, 197, 198, 199, 200, 201, 202, 203, 204, 205, 206, 207, 208, 209, 210, 211]⟩), (15, ⟨[(11, kP)], [10, 27, 153, 154, 155, 156, 157, 158, 159, 160, 161, 162, 163, 164, 165, 166, 167, 168, 169, 170, 171, 172, 173, 174, 175, 176, 177, 178, 179, 180, 181, 182, 183, 184, 185, 186, 187, 188, 189, 190, 191, 192, 193, 194, 195, 196, 197, 198, 199, 200, 201, 202, 203, 204, 205, 206, 207, 208, 209, 210, 211]⟩), (16, ⟨[(11, kP)], [10, 27, 169, 170, 171, 172, 173, 174, 175, 176, 177, 178, 179, 180, 181, 182, 183, 184, 185, 186, 187, 188, 189, 190, 191, 192, 193, 194, 195, 196, 197, 198, 199, 200, 201, 202, 203, 204, 205, 206, 207, 208, 209, 210, 211]⟩), (18, ⟨[(11, kP)], [10, 27, 183, 184, 185, 186, 187, 188, 189, 190, 191, 192, 193, 194, 195, 196, 197, 198, 199, 200, 201, 202, 203, 204, 205, 206, 207, 208, 209, 210, 211]⟩), (20, ⟨[(11, kP)], [10, 27, 204, 205, 206, 207, 208, 209, 210, 211]⟩)], [(44, ⟨[(232, kB)], [212, 213, 214, 215, 216, 217, 218, 219, 220, 221, 222, 223, 224, 225, 226, 227, 228, 229, 230, 231]⟩)], [(44, .l [(0, []), (1, []), (2, []), (3, []), (4, []), (5, []), (6, []), (7, []), (8, []), (9, []), (10, []), (11, []), (12, []), (13, []), (14, []), (15, []), (16, []), (17, []), (18, [13, 17, 9, 12, 16, 8, 11, 15, 3, 7, 10, 14, 2, 6, 1, 5, 0, 4]), (19, []), (20, [])]), (27, .l [(0, []), (1, []), (2, []), (4, []), (5, []), (6, []), (3, [0, 2, 1]), (7, [4, 6, 3, 5, 0, 2, 1]), (8, [3, 7, 0, 2, 4, 6, 1, 5]), (9, [])]), (31, .l [(0, []), (1, []), (2, []), (3, []), (4, []), (5, []), (6, []), (7, []), (8, []), (9, []), (10, [9, 7, 0, 1, 2, 3, 4, 5, 6, 8])]), (33, .l [(0, []), (1, []), (2, []), (4, []), (5, []), (6, []), (7, []), (8, []), (9, []), (3, [0, 2, 1]), (10, [7, 9, 3, 6, 8, 0, 2, 5, 1, 4]), (11, [])]), (36, .l [(0, []), (1, []), (2, []), (3, []), (4, []), (5, []), (6, []), (7, []), (9, []), (10, []), (11, []), (12, []), (13, []), (14, []), (15, []), (16, []), (8, [3, 5, 7, 2, 4, 6, 1, 0]), (17, [12, 14, 16, 8, 11, 13, 15, 3, 5, 7, 10, 2, 4, 6, 9, 1, 0]), (18, [])])], [(19, [(4, 4, ⟨[(98, kB)], [95, 96, 97]⟩), (9, 4, ⟨[(103, kB)], [100, 101, 102]⟩)]), (24, [(4, 4, ⟨[(133, kB)], [130, 131, 132]⟩), (9, 4, ⟨[(138, kB)], [135, 136, 137]⟩)])]⟩ [.bool a0, .bool a1, .bool a2, .int .u32 a3, vS a4] R w = sh8 a0 a1 a2 a3 a4 R w := by kernel_rfl
theorem call8 {a0 : Bool} {a1 : Bool} {a2 : Bool} {a3 : Int} {a4 : Sl} {w : World} {K : TK [kB] → World → Prop} (h : sh8 a0 a1 a2 a3 a4 (fun vs w' => ∃ t, encK [kB] t = vs ∧ K t w') w) : cl Pg 8 [.bool a0, .bool a1, .bool a2, .int .u32 a3, vS a4] [kB] w K := cl_of Try.func8 (tie8 ..) h
end Go.Proofs.Ytkhalaoonamkjaa.B
