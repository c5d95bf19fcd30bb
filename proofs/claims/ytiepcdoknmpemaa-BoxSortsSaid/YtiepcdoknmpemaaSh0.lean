/- Printed by sh.py: each Go function as a typed shallow program, and its tie to the code. -/
import Derived.Test.YtiepcdoknmpemaaSound4
import Derived.Test.YtiepcdoknmpemaaProg
namespace Go.Proofs.Ytiepcdoknmpemaa.B
open Go Go.Proofs
set_option linter.unusedVariables false
set_option maxRecDepth 100000
noncomputable abbrev Pg : Program := Try.prog
/-- detent/order.New -/
def sh25 (a0 : Bool) (R : List Value → World → Prop) (w : World) : Prop :=
 al w 47 [.slice none 0 0, .bool a0] fun b1 w2 =>
 R [.pointer (some ⟨b1, 0, none⟩)] w2
theorem tie25 (a0 : Bool) (R : List Value → World → Prop) (w : World) : compF Pg Try.f25 ⟨[], [], [], []⟩ [.bool a0] R w = sh25 a0 R w := by kernel_rfl
theorem call25 {a0 : Bool} {w : World} {K : TK [kP] → World → Prop} (h : sh25 a0 (fun vs w' => ∃ t, encK [kP] t = vs ∧ K t w') w) : cl Pg 25 [.bool a0] [kP] w K := cl_of Try.func25 (tie25 ..) h
/-- detent/mbx.NewBox -/
def sh8 (a0 : Bool) (a1 : Bool) (a2 : Int) (R : List Value → World → Prop) (w : World) : Prop :=
 jn [kB] w (fun (t2 : Bool × Unit) w3 =>
 cs t2.1 (
 R [.pointer none, .int .i64 (-17)] w3) (
 cl Pg 25 [.bool a0] [kP] w3 fun (r5 : Option Addr × Unit) w6 =>
 al w6 42 [.pointer r5.1, .bool a1, .int .i64 a2, .slice none 0 0] fun b7 w8 =>
 R [.pointer (some ⟨b7, 0, none⟩), .int .i64 0] w8)) fun J1 w4 =>
 cs (decide ((a2 : Int) < (1 : Int))) (
 J1 (true, ()) w4) (
 J1 (decide ((a2 : Int) > (255 : Int)), ()) w4)
theorem tie8 (a0 : Bool) (a1 : Bool) (a2 : Int) (R : List Value → World → Prop) (w : World) : compF Pg Try.f8 ⟨[], [], [], [(1, [(3, 3, ⟨[(13, kB)], [11, 12]⟩)])]⟩ [.bool a0, .bool a1, .int .i64 a2] R w = sh8 a0 a1 a2 R w := by kernel_rfl
theorem call8 {a0 : Bool} {a1 : Bool} {a2 : Int} {w : World} {K : TK [kP, kI] → World → Prop} (h : sh8 a0 a1 a2 (fun vs w' => ∃ t, encK [kP, kI] t = vs ∧ K t w') w) : cl Pg 8 [.bool a0, .bool a1, .int .i64 a2] [kP, kI] w K := cl_of Try.func8 (tie8 ..) h
/-- slices.IndexFunc[[]detent/mbx.message,detent/mbx.message] -/
def sh48 (a0 : Sl) (a1 : Fv) (R : List Value → World → Prop) (w : World) : Prop :=
 lp [kI] w ((0 : Int), ()) fun (t1 : Int × Unit) J2 w3 =>
 cs (decide ((t1.1 : Int) < ((a0.len : Int) : Int))) (
 ix a0 t1.1 2 fun b4 o5 =>
 ldI w3 .i64 b4 o5 fun n6 =>
 ldI w3 .i64 b4 (o5 + 1) fun n7 =>
 ob (enterable Pg a1.fid = true) (
 cl Pg a1.fid (a1.pre ++ ([.agg #[.int .i64 n6, .int .i64 n7]] ++ a1.post)) [kB] w3 fun (r8 : Bool × Unit) w9 =>
 cs r8.1 (
 R [.int .i64 t1.1] w9) (
 J2 (w64 (t1.1 + 1), ()) w9))) (
 R [.int .i64 (-1)] w3)
theorem tie48 (a0 : Sl) (a1 : Fv) (R : List Value → World → Prop) (w : World) : compF Pg Try.f48 ⟨[(1, ⟨[(8, kI)], [4, 5, 9, 10, 11, 12, 13, 14, 15, 16, 17, 18]⟩)], [], [], []⟩ [vS a0, vF a1] R w = sh48 a0 a1 R w := by kernel_rfl
theorem call48 {a0 : Sl} {a1 : Fv} {w : World} {K : TK [kI] → World → Prop} (h : sh48 a0 a1 (fun vs w' => ∃ t, encK [kI] t = vs ∧ K t w') w) : cl Pg 48 [vS a0, vF a1] [kI] w K := cl_of Try.func48 (tie48 ..) h
/-- slices.ContainsFunc[[]detent/mbx.message,detent/mbx.message] -/
def sh26 (a0 : Sl) (a1 : Fv) (R : List Value → World → Prop) (w : World) : Prop :=
 cl Pg 48 [vS a0, vF a1] [kI] w fun (r1 : Int × Unit) w2 =>
 R [.bool (decide ((r1.1 : Int) ≥ (0 : Int)))] w2
theorem tie26 (a0 : Sl) (a1 : Fv) (R : List Value → World → Prop) (w : World) : compF Pg Try.f26 ⟨[], [], [], []⟩ [vS a0, vF a1] R w = sh26 a0 a1 R w := by kernel_rfl
theorem call26 {a0 : Sl} {a1 : Fv} {w : World} {K : TK [kB] → World → Prop} (h : sh26 a0 a1 (fun vs w' => ∃ t, encK [kB] t = vs ∧ K t w') w) : cl Pg 26 [vS a0, vF a1] [kB] w K := cl_of Try.func26 (tie26 ..) h
/-- (*detent/mbx.Box).Send$1 -/
def sh27 (a0 : (Int × Int × Unit)) (c0 : Nat) (R : List Value → World → Prop) (w : World) : Prop :=
 al w 74 [.int .i64 a0.1, .int .i64 a0.2.1] fun b1 w2 =>
 ldI w2 .i64 b1 0 fun n3 =>
 ldI w2 .i64 c0 0 fun n4 =>
 R [.bool ((n3 : Int) == (n4 : Int))] w2
theorem tie27 (a0 : (Int × Int × Unit)) (c0 : Nat) (R : List Value → World → Prop) (w : World) : compF Pg Try.f27 ⟨[], [], [], []⟩ [.agg #[.int .i64 a0.1, .int .i64 a0.2.1], .pointer (some ⟨c0, 0, none⟩)] R w = sh27 a0 c0 R w := by kernel_rfl
theorem call27 {a0 : (Int × Int × Unit)} {c0 : Nat} {w : World} {K : TK [kB] → World → Prop} (h : sh27 a0 c0 (fun vs w' => ∃ t, encK [kB] t = vs ∧ K t w') w) : cl Pg 27 [.agg #[.int .i64 a0.1, .int .i64 a0.2.1], .pointer (some ⟨c0, 0, none⟩)] [kB] w K := cl_of Try.func27 (tie27 ..) h
/-- slices.IndexFunc[[]detent/order.Item,detent/order.Item] -/
def sh52 (a0 : Sl) (a1 : Fv) (R : List Value → World → Prop) (w : World) : Prop :=
 lp [kI] w ((0 : Int), ()) fun (t1 : Int × Unit) J2 w3 =>
 cs (decide ((t1.1 : Int) < ((a0.len : Int) : Int))) (
 ix a0 t1.1 2 fun b4 o5 =>
 ldI w3 .i64 b4 o5 fun n6 =>
 ldI w3 .i64 b4 (o5 + 1) fun n7 =>
 ob (enterable Pg a1.fid = true) (
 cl Pg a1.fid (a1.pre ++ ([.agg #[.int .i64 n6, .int .i64 n7]] ++ a1.post)) [kB] w3 fun (r8 : Bool × Unit) w9 =>
 cs r8.1 (
 R [.int .i64 t1.1] w9) (
 J2 (w64 (t1.1 + 1), ()) w9))) (
 R [.int .i64 (-1)] w3)
theorem tie52 (a0 : Sl) (a1 : Fv) (R : List Value → World → Prop) (w : World) : compF Pg Try.f52 ⟨[(1, ⟨[(8, kI)], [4, 5, 9, 10, 11, 12, 13, 14, 15, 16, 17, 18]⟩)], [], [], []⟩ [vS a0, vF a1] R w = sh52 a0 a1 R w := by kernel_rfl
theorem call52 {a0 : Sl} {a1 : Fv} {w : World} {K : TK [kI] → World → Prop} (h : sh52 a0 a1 (fun vs w' => ∃ t, encK [kI] t = vs ∧ K t w') w) : cl Pg 52 [vS a0, vF a1] [kI] w K := cl_of Try.func52 (tie52 ..) h
/-- (*detent/order.Line).at$1 -/
def sh53 (a0 : (Int × Int × Unit)) (c0 : Nat) (R : List Value → World → Prop) (w : World) : Prop :=
 al w 77 [.int .i64 a0.1, .int .i64 a0.2.1] fun b1 w2 =>
 ldI w2 .i64 b1 0 fun n3 =>
 ldI w2 .i64 c0 0 fun n4 =>
 R [.bool ((n3 : Int) == (n4 : Int))] w2
theorem tie53 (a0 : (Int × Int × Unit)) (c0 : Nat) (R : List Value → World → Prop) (w : World) : compF Pg Try.f53 ⟨[], [], [], []⟩ [.agg #[.int .i64 a0.1, .int .i64 a0.2.1], .pointer (some ⟨c0, 0, none⟩)] R w = sh53 a0 c0 R w := by kernel_rfl
theorem call53 {a0 : (Int × Int × Unit)} {c0 : Nat} {w : World} {K : TK [kB] → World → Prop} (h : sh53 a0 c0 (fun vs w' => ∃ t, encK [kB] t = vs ∧ K t w') w) : cl Pg 53 [.agg #[.int .i64 a0.1, .int .i64 a0.2.1], .pointer (some ⟨c0, 0, none⟩)] [kB] w K := cl_of Try.func53 (tie53 ..) h
/-- (*detent/order.Line).at -/
def sh35 (a0 : Option Addr) (a1 : Int) (R : List Value → World → Prop) (w : World) : Prop :=
 al w 3 [.int .i64 a1] fun b1 w2 =>
 nn a0 fun b3 o4 =>
 ldS w2 b3 o4 fun s5 =>
 cl Pg 52 [vS s5, .func (.func 53) #[] #[.pointer (some ⟨b1, 0, none⟩)]] [kI] w2 fun (r6 : Int × Unit) w7 =>
 R [.int .i64 r6.1] w7
theorem tie35 (a0 : Option Addr) (a1 : Int) (R : List Value → World → Prop) (w : World) : compF Pg Try.f35 ⟨[], [], [], []⟩ [.pointer a0, .int .i64 a1] R w = sh35 a0 a1 R w := by kernel_rfl
theorem call35 {a0 : Option Addr} {a1 : Int} {w : World} {K : TK [kI] → World → Prop} (h : sh35 a0 a1 (fun vs w' => ∃ t, encK [kI] t = vs ∧ K t w') w) : cl Pg 35 [.pointer a0, .int .i64 a1] [kI] w K := cl_of Try.func35 (tie35 ..) h
/-- slices.Delete[[]detent/order.Item,detent/order.Item] -/
def sh36 (a0 : Sl) (a1 : Int) (a2 : Int) (R : List Value → World → Prop) (w : World) : Prop :=
 sb a0 a1 a2 (a0.len : Int) 2 fun s1 =>
 cs ((a1 : Int) == (a2 : Int)) (
 R [vS a0] w) (
 dr w fun w2 =>
 sb a0 0 a1 a0.cap 2 fun s3 =>
 sb a0 a2 a0.len a0.cap 2 fun s4 =>
 ef Pg (Builtin.append_ #[43, 43] 43 #[vS s3, vS s4]) [kS] w2 fun (r5 : Sl × Unit) w6 =>
 sb r5.1 (r5.1.len : Int) (a0.len : Int) r5.1.cap 2 fun s7 =>
 ef Pg (Builtin.clear_ #[43] 0 #[vS s7]) [] w6 fun (r8 : Unit) w9 =>
 R [vS r5.1] w9)
theorem tie36 (a0 : Sl) (a1 : Int) (a2 : Int) (R : List Value → World → Prop) (w : World) : compF Pg Try.f36 ⟨[], [], [(5, .l [(0, []), (1, []), (2, []), (3, []), (4, []), (5, []), (6, [2, 5, 0, 1, 3, 4]), (7, [])])], []⟩ [vS a0, .int .i64 a1, .int .i64 a2] R w = sh36 a0 a1 a2 R w := by kernel_rfl
theorem call36 {a0 : Sl} {a1 : Int} {a2 : Int} {w : World} {K : TK [kS] → World → Prop} (h : sh36 a0 a1 a2 (fun vs w' => ∃ t, encK [kS] t = vs ∧ K t w') w) : cl Pg 36 [vS a0, .int .i64 a1, .int .i64 a2] [kS] w K := cl_of Try.func36 (tie36 ..) h
/-- (*detent/order.Line).Remove -/
def sh18 (a0 : Option Addr) (a1 : Int) (R : List Value → World → Prop) (w : World) : Prop :=
 cl Pg 35 [.pointer a0, .int .i64 a1] [kI] w fun (r1 : Int × Unit) w2 =>
 cs (decide ((r1.1 : Int) < (0 : Int))) (
 R [.bool false] w2) (
 nn a0 fun b3 o4 =>
 ldS w2 b3 o4 fun s5 =>
 cl Pg 36 [vS s5, .int .i64 r1.1, .int .i64 (w64 (r1.1 + 1))] [kS] w2 fun (r6 : Sl × Unit) w7 =>
 nn a0 fun b8 o9 =>
 st1 w7 b8 o9 (vS r6.1) fun w10 =>
 R [.bool true] w10)
theorem tie18 (a0 : Option Addr) (a1 : Int) (R : List Value → World → Prop) (w : World) : compF Pg Try.f18 ⟨[], [], [], []⟩ [.pointer a0, .int .i64 a1] R w = sh18 a0 a1 R w := by kernel_rfl
theorem call18 {a0 : Option Addr} {a1 : Int} {w : World} {K : TK [kB] → World → Prop} (h : sh18 a0 a1 (fun vs w' => ∃ t, encK [kB] t = vs ∧ K t w') w) : cl Pg 18 [.pointer a0, .int .i64 a1] [kB] w K := cl_of Try.func18 (tie18 ..) h
/-- (*detent/order.Line).First -/
def sh45 (a0 : Option Addr) (R : List Value → World → Prop) (w : World) : Prop :=
 al w 77 [.int .i64 0, .int .i64 0] fun b1 w2 =>
 nn a0 fun b3 o4 =>
 ldS w2 b3 o4 fun s5 =>
 cs (((s5.len : Int) : Int) == (0 : Int)) (
 st1 w2 b1 0 (.int .i64 0) fun w6 =>
 st1 w6 b1 (0 + 1) (.int .i64 0) fun w7 =>
 ldI w7 .i64 b1 0 fun n8 =>
 ldI w7 .i64 b1 (0 + 1) fun n9 =>
 R [.agg #[.int .i64 n8, .int .i64 n9], .bool false] w7) (
 nn a0 fun b10 o11 =>
 ldS w2 b10 o11 fun s12 =>
 ix s12 0 2 fun b13 o14 =>
 ldI w2 .i64 b13 o14 fun n15 =>
 ldI w2 .i64 b13 (o14 + 1) fun n16 =>
 st1 w2 b1 0 (.int .i64 n15) fun w17 =>
 st1 w17 b1 (0 + 1) (.int .i64 n16) fun w18 =>
 ldI w18 .i64 b1 0 fun n19 =>
 ldI w18 .i64 b1 (0 + 1) fun n20 =>
 R [.agg #[.int .i64 n19, .int .i64 n20], .bool true] w18)
theorem tie45 (a0 : Option Addr) (R : List Value → World → Prop) (w : World) : compF Pg Try.f45 ⟨[], [], [], []⟩ [.pointer a0] R w = sh45 a0 R w := by kernel_rfl
theorem call45 {a0 : Option Addr} {w : World} {K : TK [.a [(.i .i64), (.i .i64)], kB] → World → Prop} (h : sh45 a0 (fun vs w' => ∃ t, encK [.a [(.i .i64), (.i .i64)], kB] t = vs ∧ K t w') w) : cl Pg 45 [.pointer a0] [.a [(.i .i64), (.i .i64)], kB] w K := cl_of Try.func45 (tie45 ..) h
/-- (*detent/order.Queue).Take -/
def sh28 (a0 : Option Addr) (R : List Value → World → Prop) (w : World) : Prop :=
 al w 77 [.int .i64 0, .int .i64 0] fun b1 w2 =>
 nn a0 fun b3 o4 =>
 cl Pg 45 [.pointer (some ⟨b3, o4, none⟩)] [.a [(.i .i64), (.i .i64)], kB] w2 fun (r5 : (Int × Int × Unit) × Bool × Unit) w6 =>
 al w6 77 [.int .i64 0, .int .i64 0] fun b7 w8 =>
 st1 w8 b7 0 (.int .i64 r5.1.1) fun w9 =>
 st1 w9 b7 (0 + 1) (.int .i64 r5.1.2.1) fun w10 =>
 jn [] w10 (fun (t12 : Unit) w13 =>
 ldI w13 .i64 b7 0 fun n15 =>
 ldI w13 .i64 b7 (0 + 1) fun n16 =>
 st1 w13 b1 0 (.int .i64 n15) fun w17 =>
 st1 w17 b1 (0 + 1) (.int .i64 n16) fun w18 =>
 ldI w18 .i64 b1 0 fun n19 =>
 ldI w18 .i64 b1 (0 + 1) fun n20 =>
 R [.agg #[.int .i64 n19, .int .i64 n20], .bool r5.2.1] w18) fun J11 w14 =>
 cs r5.2.1 (
 dr w14 fun w21 =>
 nn a0 fun b22 o23 =>
 ldI w21 .i64 b7 0 fun n24 =>
 cl Pg 18 [.pointer (some ⟨b22, o23, none⟩), .int .i64 n24] [kB] w21 fun (r25 : Bool × Unit) w26 =>
 J11 () w26) (
 J11 () w14)
theorem tie28 (a0 : Option Addr) (R : List Value → World → Prop) (w : World) : compF Pg Try.f28 ⟨[(0, ⟨[], [14, 15, 16, 17, 18, 19]⟩)], [], [(3, .l [(0, []), (1, []), (2, []), (3, []), (4, []), (5, [2, 4, 1, 3, 0])])], []⟩ [.pointer a0] R w = sh28 a0 R w := by kernel_rfl
theorem call28 {a0 : Option Addr} {w : World} {K : TK [.a [(.i .i64), (.i .i64)], kB] → World → Prop} (h : sh28 a0 (fun vs w' => ∃ t, encK [.a [(.i .i64), (.i .i64)], kB] t = vs ∧ K t w') w) : cl Pg 28 [.pointer a0] [.a [(.i .i64), (.i .i64)], kB] w K := cl_of Try.func28 (tie28 ..) h
/-- slices.Reverse[[]detent/mbx.message,detent/mbx.message] -/
def sh60 (a0 : Sl) (R : List Value → World → Prop) (w : World) : Prop :=
 lp [kI, kI] w ((0 : Int), w64 ((a0.len : Int) - 1), ()) fun (t1 : Int × Int × Unit) J2 w3 =>
 cs (decide ((t1.1 : Int) < (t1.2.1 : Int))) (
 dr w3 fun w4 =>
 ix a0 t1.2.1 2 fun b5 o6 =>
 ldI w4 .i64 b5 o6 fun n7 =>
 ldI w4 .i64 b5 (o6 + 1) fun n8 =>
 ix a0 t1.1 2 fun b9 o10 =>
 ldI w4 .i64 b9 o10 fun n11 =>
 ldI w4 .i64 b9 (o10 + 1) fun n12 =>
 ix a0 t1.1 2 fun b13 o14 =>
 st1 w4 b13 o14 (.int .i64 n7) fun w15 =>
 st1 w15 b13 (o14 + 1) (.int .i64 n8) fun w16 =>
 ix a0 t1.2.1 2 fun b17 o18 =>
 st1 w16 b17 o18 (.int .i64 n11) fun w19 =>
 st1 w19 b17 (o18 + 1) (.int .i64 n12) fun w20 =>
 J2 (w64 (t1.1 + 1), w64 (t1.2.1 - 1), ()) w20) (
 R [] w3)
theorem tie60 (a0 : Sl) (R : List Value → World → Prop) (w : World) : compF Pg Try.f60 ⟨[(1, ⟨[(2, kI), (3, kI)], [7, 8, 9, 10, 11, 12, 13, 14, 15, 16, 17, 18, 19, 20, 21, 22, 23, 24, 25, 26, 27]⟩)], [], [(3, .l [(0, []), (1, []), (2, []), (3, []), (4, []), (5, []), (6, []), (7, []), (8, []), (9, []), (10, []), (11, []), (12, []), (13, [12, 7, 0, 1, 4, 5, 6, 11, 10, 8, 9]), (14, []), (15, [14, 11, 13, 0, 1, 2, 3, 4, 5, 6, 7, 8, 9, 10, 12])])], []⟩ [vS a0] R w = sh60 a0 R w := by kernel_rfl
theorem call60 {a0 : Sl} {w : World} {K : TK [] → World → Prop} (h : sh60 a0 (fun vs w' => ∃ t, encK [] t = vs ∧ K t w') w) : cl Pg 60 [vS a0] [] w K := cl_of Try.func60 (tie60 ..) h
/-- slices.rotateLeft[detent/mbx.message] -/
def sh57 (a0 : Sl) (a1 : Int) (R : List Value → World → Prop) (w : World) : Prop :=
 sb a0 0 a1 a0.cap 2 fun s1 =>
 cl Pg 60 [vS s1] [] w fun (r2 : Unit) w3 =>
 sb a0 a1 a0.len a0.cap 2 fun s4 =>
 cl Pg 60 [vS s4] [] w3 fun (r5 : Unit) w6 =>
 cl Pg 60 [vS a0] [] w6 fun (r7 : Unit) w8 =>
 R [] w8
theorem tie57 (a0 : Sl) (a1 : Int) (R : List Value → World → Prop) (w : World) : compF Pg Try.f57 ⟨[], [], [], []⟩ [vS a0, .int .i64 a1] R w = sh57 a0 a1 R w := by kernel_rfl
theorem call57 {a0 : Sl} {a1 : Int} {w : World} {K : TK [] → World → Prop} (h : sh57 a0 a1 (fun vs w' => ∃ t, encK [] t = vs ∧ K t w') w) : cl Pg 57 [vS a0, .int .i64 a1] [] w K := cl_of Try.func57 (tie57 ..) h
/-- slices.rotateRight[detent/mbx.message] -/
def sh50 (a0 : Sl) (a1 : Int) (R : List Value → World → Prop) (w : World) : Prop :=
 cl Pg 57 [vS a0, .int .i64 (w64 ((a0.len : Int) - a1))] [] w fun (r1 : Unit) w2 =>
 R [] w2
theorem tie50 (a0 : Sl) (a1 : Int) (R : List Value → World → Prop) (w : World) : compF Pg Try.f50 ⟨[], [], [], []⟩ [vS a0, .int .i64 a1] R w = sh50 a0 a1 R w := by kernel_rfl
theorem call50 {a0 : Sl} {a1 : Int} {w : World} {K : TK [] → World → Prop} (h : sh50 a0 a1 (fun vs w' => ∃ t, encK [] t = vs ∧ K t w') w) : cl Pg 50 [vS a0, .int .i64 a1] [] w K := cl_of Try.func50 (tie50 ..) h
/-- slices.Insert[[]detent/mbx.message,detent/mbx.message] -/
def sh29 (a0 : Sl) (a1 : Int) (a2 : Sl) (R : List Value → World → Prop) (w : World) : Prop :=
 sb a0 a1 a0.len a0.cap 2 fun s1 =>
 cs (((a2.len : Int) : Int) == (0 : Int)) (
 R [vS a0] w) (
 cs ((a1 : Int) == ((a0.len : Int) : Int)) (
 ef Pg (Builtin.append_ #[40, 40] 40 #[vS a0, vS a2]) [kS] w fun (r2 : Sl × Unit) w3 =>
 R [vS r2.1] w3) (
 cs (decide ((w64 ((a0.len : Int) + (a2.len : Int)) : Int) > ((a0.cap : Int) : Int))) (
 sb a0 0 a1 a0.cap 2 fun s4 =>
 ef Pg (Builtin.append_ #[40, 3] 40 #[vS s4, .int .i64 (w64 ((w64 ((a0.len : Int) + (a2.len : Int))) - a1))]) [kS] w fun (r5 : Sl × Unit) w6 =>
 sb r5.1 a1 r5.1.len r5.1.cap 2 fun s7 =>
 ef Pg (Builtin.copy_ #[40, 40] 3 #[vS s7, vS a2]) [kI] w6 fun (r8 : Int × Unit) w9 =>
 dr w9 fun w10 =>
 sb r5.1 (w64 (a1 + (a2.len : Int))) r5.1.len r5.1.cap 2 fun s11 =>
 sb a0 a1 a0.len a0.cap 2 fun s12 =>
 ef Pg (Builtin.copy_ #[40, 40] 3 #[vS s11, vS s12]) [kI] w10 fun (r13 : Int × Unit) w14 =>
 R [vS r5.1] w14) (
 sb a0 0 (w64 ((a0.len : Int) + (a2.len : Int))) a0.cap 2 fun s15 =>
 sb s15 (w64 (a1 + (a2.len : Int))) s15.len s15.cap 2 fun s16 =>
 xt Pg 49 [vS a2, vS s16] [kB] w fun (r17 : Bool × Unit) w18 =>
 cs (!r17.1) (
 dr w18 fun w19 =>
 sb s15 (w64 (a1 + (a2.len : Int))) s15.len s15.cap 2 fun s20 =>
 sb s15 a1 s15.len s15.cap 2 fun s21 =>
 ef Pg (Builtin.copy_ #[40, 40] 3 #[vS s20, vS s21]) [kI] w19 fun (r22 : Int × Unit) w23 =>
 sb s15 a1 s15.len s15.cap 2 fun s24 =>
 ef Pg (Builtin.copy_ #[40, 40] 3 #[vS s24, vS a2]) [kI] w23 fun (r25 : Int × Unit) w26 =>
 R [vS s15] w26) (
 sb s15 (a0.len : Int) s15.len s15.cap 2 fun s27 =>
 ef Pg (Builtin.copy_ #[40, 40] 3 #[vS s27, vS a2]) [kI] w18 fun (r28 : Int × Unit) w29 =>
 sb s15 a1 s15.len s15.cap 2 fun s30 =>
 cl Pg 50 [vS s30, .int .i64 (a2.len : Int)] [] w29 fun (r31 : Unit) w32 =>
 R [vS s15] w32))))
theorem tie29 (a0 : Sl) (a1 : Int) (a2 : Sl) (R : List Value → World → Prop) (w : World) : compF Pg Try.f29 ⟨[], [], [(11, .l [(0, []), (1, []), (2, []), (3, []), (4, []), (5, []), (6, []), (7, []), (8, [4, 7, 0, 3, 5, 6, 1, 2])]), (15, .l [(0, []), (1, []), (2, []), (3, []), (4, []), (5, []), (6, []), (7, []), (8, [4, 7, 0, 3, 5, 6, 1, 2])])], []⟩ [vS a0, .int .i64 a1, vS a2] R w = sh29 a0 a1 a2 R w := by kernel_rfl
theorem call29 {a0 : Sl} {a1 : Int} {a2 : Sl} {w : World} {K : TK [kS] → World → Prop} (h : sh29 a0 a1 a2 (fun vs w' => ∃ t, encK [kS] t = vs ∧ K t w') w) : cl Pg 29 [vS a0, .int .i64 a1, vS a2] [kS] w K := cl_of Try.func29 (tie29 ..) h
/-- (*detent/mbx.Box).Send -/
def sh9 (a0 : Option Addr) (a1 : Int) (a2 : Int) (R : List Value → World → Prop) (w : World) : Prop :=
 al w 3 [.int .i64 a1] fun b1 w2 =>
 ldI w2 .i64 b1 0 fun n3 =>
 jn [kB] w2 (fun (t5 : Bool × Unit) w6 =>
 cs t5.1 (
 R [.int .i64 0, .int .i64 (-17)] w6) (
 nn a0 fun b8 o9 =>
 ldS w6 b8 (o9 + 3) fun s10 =>
 cl Pg 26 [vS s10, .func (.func 27) #[] #[.pointer (some ⟨b1, 0, none⟩)]] [kB] w6 fun (r11 : Bool × Unit) w12 =>
 cs r11.1 (
 R [.int .i64 0, .int .i64 (-41)] w12) (
 nn a0 fun b13 o14 =>
 ldP w12 b13 o14 fun p15 =>
 cl Pg 28 [.pointer p15] [.a [(.i .i64), (.i .i64)], kB] w12 fun (r16 : (Int × Int × Unit) × Bool × Unit) w17 =>
 al w17 77 [.int .i64 0, .int .i64 0] fun b18 w19 =>
 st1 w19 b18 0 (.int .i64 r16.1.1) fun w20 =>
 st1 w20 b18 (0 + 1) (.int .i64 r16.1.2.1) fun w21 =>
 cs r16.2.1 (
 ldI w21 .i64 b18 0 fun n22 =>
 R [.int .i64 n22, .int .i64 0] w21) (
 nn a0 fun b23 o24 =>
 ldS w21 b23 (o24 + 3) fun s25 =>
 lp [kI] w21 ((s25.len : Int), ()) fun (t26 : Int × Unit) J27 w28 =>
 nn a0 fun b29 o30 =>
 ldB w28 b29 (o30 + 1) fun b31 =>
 jn [kB] w28 (fun (t33 : Bool × Unit) w34 =>
 jn [kB] w34 (fun (t37 : Bool × Unit) w38 =>
 cs t37.1 (
 J27 (w64 (t26.1 - 1), ()) w38) (
 dr w38 fun w40 =>
 nn a0 fun b41 o42 =>
 ldS w40 b41 (o42 + 3) fun s43 =>
 ldI w40 .i64 b1 0 fun n44 =>
 al w40 74 [.int .i64 n44, .int .i64 a2] fun b45 w46 =>
(w46.cell? ⟨b41, o42 + 3, none⟩ = some (vS s43)) ∧ (
 cl Pg 29 [vS s43, .int .i64 t26.1, vS ⟨some ⟨b45, 0, none⟩, 1, 1⟩] [kS] w46 fun (r47 : Sl × Unit) w48 =>
 nn a0 fun b49 o50 =>
 st1 w48 b49 (o50 + 3) (vS r47.1) fun w51 =>
 R [.int .i64 0, .int .i64 0] w51))) fun J36 w39 =>
 cs t33.1 (
 nn a0 fun b52 o53 =>
 ldS w39 b52 (o53 + 3) fun s54 =>
 ix s54 (w64 (t26.1 - 1)) 2 fun b55 o56 =>
 ldI w39 .i64 b55 (o56 + 1) fun n57 =>
 J36 (decide ((n57 : Int) > (a2 : Int)), ()) w39) (
 J36 (false, ()) w39)) fun J32 w35 =>
 cs b31 (
 J32 (decide ((t26.1 : Int) > (0 : Int)), ()) w35) (
 J32 (false, ()) w35))))) fun J4 w7 =>
 cs ((n3 : Int) == (0 : Int)) (
 J4 (true, ()) w7) (
 nn a0 fun b58 o59 =>
 ldB w7 b58 (o59 + 1) fun b60 =>
 jn [kB] w7 (fun (t62 : Bool × Unit) w63 =>
 J4 (t62.1, ()) w63) fun J61 w65 =>
 cs b60 (
 jn [kB] w65 (fun (t67 : Bool × Unit) w68 =>
 J61 (t67.1, ()) w68) fun J66 w69 =>
 cs (decide ((a2 : Int) < (1 : Int))) (
 J66 (true, ()) w69) (
 nn a0 fun b70 o71 =>
 ldI w69 .i64 b70 (o71 + 2) fun n72 =>
 J66 (decide ((a2 : Int) > (n72 : Int)), ()) w69)) (
 J61 (false, ()) w65))
theorem tie9 (a0 : Option Addr) (a1 : Int) (a2 : Int) (R : List Value → World → Prop) (w : World) : compF Pg Try.f9 ⟨[(5, ⟨[(10, kI)], [55, 56, 57, 58, 59, 60, 61, 62, 63, 64, 65, 66, 67, 68, 69, 70, 71, 72, 73, 74, 75, 76, 77]⟩)], [], [(11, .l [(0, []), (1, []), (2, []), (3, []), (4, []), (5, []), (6, []), (7, []), (8, []), (9, [8, 6, 7]), (10, [4, 5, 9, 3, 8, 2, 6, 7, 1]), (11, []), (12, []), (13, [12, 10, 0, 1, 2, 3, 4, 5, 6, 7, 8, 9, 11])])], [(1, [(3, 17, ⟨[(31, kB)], [15, 16, 17, 18, 19, 20, 21, 22, 23, 24, 25, 26, 27, 28, 29, 30]⟩), (8, 11, ⟨[(30, kB)], [20, 21, 22, 23, 24, 25, 26, 27, 28, 29]⟩), (11, 7, ⟨[(29, kB)], [23, 24, 25, 26, 27, 28]⟩)]), (9, [(5, 3, ⟨[(62, kB)], [60, 61]⟩), (9, 12, ⟨[(75, kB)], [64, 65, 66, 67, 68, 69, 70, 71, 72, 73, 74]⟩)])]⟩ [.pointer a0, .int .i64 a1, .int .i64 a2] R w = sh9 a0 a1 a2 R w := by kernel_rfl
theorem call9 {a0 : Option Addr} {a1 : Int} {a2 : Int} {w : World} {K : TK [kI, kI] → World → Prop} (h : sh9 a0 a1 a2 (fun vs w' => ∃ t, encK [kI, kI] t = vs ∧ K t w') w) : cl Pg 9 [.pointer a0, .int .i64 a1, .int .i64 a2] [kI, kI] w K := cl_of Try.func9 (tie9 ..) h
/-- slices.Delete[[]detent/mbx.message,detent/mbx.message] -/
def sh30 (a0 : Sl) (a1 : Int) (a2 : Int) (R : List Value → World → Prop) (w : World) : Prop :=
 sb a0 a1 a2 (a0.len : Int) 2 fun s1 =>
 cs ((a1 : Int) == (a2 : Int)) (
 R [vS a0] w) (
 dr w fun w2 =>
 sb a0 0 a1 a0.cap 2 fun s3 =>
 sb a0 a2 a0.len a0.cap 2 fun s4 =>
 ef Pg (Builtin.append_ #[40, 40] 40 #[vS s3, vS s4]) [kS] w2 fun (r5 : Sl × Unit) w6 =>
 sb r5.1 (r5.1.len : Int) (a0.len : Int) r5.1.cap 2 fun s7 =>
 ef Pg (Builtin.clear_ #[40] 0 #[vS s7]) [] w6 fun (r8 : Unit) w9 =>
 R [vS r5.1] w9)
theorem tie30 (a0 : Sl) (a1 : Int) (a2 : Int) (R : List Value → World → Prop) (w : World) : compF Pg Try.f30 ⟨[], [], [(5, .l [(0, []), (1, []), (2, []), (3, []), (4, []), (5, []), (6, [2, 5, 0, 1, 3, 4]), (7, [])])], []⟩ [vS a0, .int .i64 a1, .int .i64 a2] R w = sh30 a0 a1 a2 R w := by kernel_rfl
theorem call30 {a0 : Sl} {a1 : Int} {a2 : Int} {w : World} {K : TK [kS] → World → Prop} (h : sh30 a0 a1 a2 (fun vs w' => ∃ t, encK [kS] t = vs ∧ K t w') w) : cl Pg 30 [vS a0, .int .i64 a1, .int .i64 a2] [kS] w K := cl_of Try.func30 (tie30 ..) h
/-- (*detent/mbx.Box).Poll -/
def sh10 (a0 : Option Addr) (R : List Value → World → Prop) (w : World) : Prop :=
 nn a0 fun b1 o2 =>
 ldS w b1 (o2 + 3) fun s3 =>
 cs (((s3.len : Int) : Int) == (0 : Int)) (
 R [.int .i64 0, .bool false] w) (
 nn a0 fun b4 o5 =>
 ldS w b4 (o5 + 3) fun s6 =>
 ix s6 0 2 fun b7 o8 =>
 ldI w .i64 b7 o8 fun n9 =>
 nn a0 fun b10 o11 =>
 ldS w b10 (o11 + 3) fun s12 =>
 cl Pg 30 [vS s12, .int .i64 0, .int .i64 1] [kS] w fun (r13 : Sl × Unit) w14 =>
 nn a0 fun b15 o16 =>
 st1 w14 b15 (o16 + 3) (vS r13.1) fun w17 =>
 R [.int .i64 n9, .bool true] w17)
theorem tie10 (a0 : Option Addr) (R : List Value → World → Prop) (w : World) : compF Pg Try.f10 ⟨[], [], [], []⟩ [.pointer a0] R w = sh10 a0 R w := by kernel_rfl
theorem call10 {a0 : Option Addr} {w : World} {K : TK [kI, kB] → World → Prop} (h : sh10 a0 (fun vs w' => ∃ t, encK [kI, kB] t = vs ∧ K t w') w) : cl Pg 10 [.pointer a0] [kI, kB] w K := cl_of Try.func10 (tie10 ..) h
/-- slices.Clip[[]int,int] -/
def sh31 (a0 : Sl) (R : List Value → World → Prop) (w : World) : Prop :=
 sb a0 0 (a0.len : Int) (a0.len : Int) 1 fun s1 =>
 R [vS s1] w
theorem tie31 (a0 : Sl) (R : List Value → World → Prop) (w : World) : compF Pg Try.f31 ⟨[], [], [], []⟩ [vS a0] R w = sh31 a0 R w := by kernel_rfl
theorem call31 {a0 : Sl} {w : World} {K : TK [kS] → World → Prop} (h : sh31 a0 (fun vs w' => ∃ t, encK [kS] t = vs ∧ K t w') w) : cl Pg 31 [vS a0] [kS] w K := cl_of Try.func31 (tie31 ..) h
/-- (*detent/mbx.Box).Messages -/
def sh11 (a0 : Option Addr) (R : List Value → World → Prop) (w : World) : Prop :=
 nn a0 fun b1 o2 =>
 ldS w b1 (o2 + 3) fun s3 =>
 lp [kS, kI] w (⟨none, 0, 0⟩, (0 : Int), ()) fun (t4 : Sl × Int × Unit) J5 w6 =>
 cs (decide ((t4.2.1 : Int) < ((s3.len : Int) : Int))) (
 ix s3 t4.2.1 2 fun b7 o8 =>
 ldI w6 .i64 b7 o8 fun n9 =>
 ldI w6 .i64 b7 (o8 + 1) fun n10 =>
 al w6 74 [.int .i64 0, .int .i64 0] fun b11 w12 =>
 st1 w12 b11 0 (.int .i64 n9) fun w13 =>
 st1 w13 b11 (0 + 1) (.int .i64 n10) fun w14 =>
 ldI w14 .i64 b11 0 fun n15 =>
 al w14 3 [.int .i64 n15] fun b16 w17 =>
 ef Pg (Builtin.append_ #[33, 33] 33 #[vS t4.1, vS ⟨some ⟨b16, 0, none⟩, 1, 1⟩]) [kS] w17 fun (r18 : Sl × Unit) w19 =>
 J5 (r18.1, w64 (t4.2.1 + 1), ()) w19) (
 cl Pg 31 [vS t4.1] [kS] w6 fun (r20 : Sl × Unit) w21 =>
 R [vS r20.1] w21)
theorem tie11 (a0 : Option Addr) (R : List Value → World → Prop) (w : World) : compF Pg Try.f11 ⟨[(1, ⟨[(3, kS), (11, kI)], [5, 12, 13, 14, 15, 16, 17, 18, 19, 20]⟩)], [], [], []⟩ [.pointer a0] R w = sh11 a0 R w := by kernel_rfl
theorem call11 {a0 : Option Addr} {w : World} {K : TK [kS] → World → Prop} (h : sh11 a0 (fun vs w' => ∃ t, encK [kS] t = vs ∧ K t w') w) : cl Pg 11 [.pointer a0] [kS] w K := cl_of Try.func11 (tie11 ..) h
/-- detent/order.may -/
def sh38 (a0 : Int) (R : List Value → World → Prop) (w : World) : Prop :=
 jn [kB] w (fun (t2 : Bool × Unit) w3 =>
 R [.bool t2.1] w3) fun J1 w4 =>
 cs (decide ((a0 : Int) ≥ (1 : Int))) (
 J1 (decide ((a0 : Int) ≤ (16 : Int)), ()) w4) (
 J1 (false, ()) w4)
theorem tie38 (a0 : Int) (R : List Value → World → Prop) (w : World) : compF Pg Try.f38 ⟨[], [], [], [(1, [(3, 3, ⟨[(8, kB)], [6, 7]⟩)])]⟩ [.int .i64 a0] R w = sh38 a0 R w := by kernel_rfl
theorem call38 {a0 : Int} {w : World} {K : TK [kB] → World → Prop} (h : sh38 a0 (fun vs w' => ∃ t, encK [kB] t = vs ∧ K t w') w) : cl Pg 38 [.int .i64 a0] [kB] w K := cl_of Try.func38 (tie38 ..) h
/-- slices.Reverse[[]detent/order.Item,detent/order.Item] -/
def sh62 (a0 : Sl) (R : List Value → World → Prop) (w : World) : Prop :=
 lp [kI, kI] w ((0 : Int), w64 ((a0.len : Int) - 1), ()) fun (t1 : Int × Int × Unit) J2 w3 =>
 cs (decide ((t1.1 : Int) < (t1.2.1 : Int))) (
 dr w3 fun w4 =>
 ix a0 t1.2.1 2 fun b5 o6 =>
 ldI w4 .i64 b5 o6 fun n7 =>
 ldI w4 .i64 b5 (o6 + 1) fun n8 =>
 ix a0 t1.1 2 fun b9 o10 =>
 ldI w4 .i64 b9 o10 fun n11 =>
 ldI w4 .i64 b9 (o10 + 1) fun n12 =>
 ix a0 t1.1 2 fun b13 o14 =>
 st1 w4 b13 o14 (.int .i64 n7) fun w15 =>
 st1 w15 b13 (o14 + 1) (.int .i64 n8) fun w16 =>
 ix a0 t1.2.1 2 fun b17 o18 =>
 st1 w16 b17 o18 (.int .i64 n11) fun w19 =>
 st1 w19 b17 (o18 + 1) (.int .i64 n12) fun w20 =>
 J2 (w64 (t1.1 + 1), w64 (t1.2.1 - 1), ()) w20) (
 R [] w3)
theorem tie62 (a0 : Sl) (R : List Value → World → Prop) (w : World) : compF Pg Try.f62 ⟨[(1, ⟨[(2, kI), (3, kI)], [7, 8, 9, 10, 11, 12, 13, 14, 15, 16, 17, 18, 19, 20, 21, 22, 23, 24, 25, 26, 27]⟩)], [], [(3, .l [(0, []), (1, []), (2, []), (3, []), (4, []), (5, []), (6, []), (7, []), (8, []), (9, []), (10, []), (11, []), (12, []), (13, [12, 7, 0, 1, 4, 5, 6, 11, 10, 8, 9]), (14, []), (15, [14, 11, 13, 0, 1, 2, 3, 4, 5, 6, 7, 8, 9, 10, 12])])], []⟩ [vS a0] R w = sh62 a0 R w := by kernel_rfl
theorem call62 {a0 : Sl} {w : World} {K : TK [] → World → Prop} (h : sh62 a0 (fun vs w' => ∃ t, encK [] t = vs ∧ K t w') w) : cl Pg 62 [vS a0] [] w K := cl_of Try.func62 (tie62 ..) h
/-- slices.rotateLeft[detent/order.Item] -/
def sh61 (a0 : Sl) (a1 : Int) (R : List Value → World → Prop) (w : World) : Prop :=
 sb a0 0 a1 a0.cap 2 fun s1 =>
 cl Pg 62 [vS s1] [] w fun (r2 : Unit) w3 =>
 sb a0 a1 a0.len a0.cap 2 fun s4 =>
 cl Pg 62 [vS s4] [] w3 fun (r5 : Unit) w6 =>
 cl Pg 62 [vS a0] [] w6 fun (r7 : Unit) w8 =>
 R [] w8
theorem tie61 (a0 : Sl) (a1 : Int) (R : List Value → World → Prop) (w : World) : compF Pg Try.f61 ⟨[], [], [], []⟩ [vS a0, .int .i64 a1] R w = sh61 a0 a1 R w := by kernel_rfl
theorem call61 {a0 : Sl} {a1 : Int} {w : World} {K : TK [] → World → Prop} (h : sh61 a0 a1 (fun vs w' => ∃ t, encK [] t = vs ∧ K t w') w) : cl Pg 61 [vS a0, .int .i64 a1] [] w K := cl_of Try.func61 (tie61 ..) h
/-- slices.rotateRight[detent/order.Item] -/
def sh59 (a0 : Sl) (a1 : Int) (R : List Value → World → Prop) (w : World) : Prop :=
 cl Pg 61 [vS a0, .int .i64 (w64 ((a0.len : Int) - a1))] [] w fun (r1 : Unit) w2 =>
 R [] w2
theorem tie59 (a0 : Sl) (a1 : Int) (R : List Value → World → Prop) (w : World) : compF Pg Try.f59 ⟨[], [], [], []⟩ [vS a0, .int .i64 a1] R w = sh59 a0 a1 R w := by kernel_rfl
theorem call59 {a0 : Sl} {a1 : Int} {w : World} {K : TK [] → World → Prop} (h : sh59 a0 a1 (fun vs w' => ∃ t, encK [] t = vs ∧ K t w') w) : cl Pg 59 [vS a0, .int .i64 a1] [] w K := cl_of Try.func59 (tie59 ..) h
/-- slices.Insert[[]detent/order.Item,detent/order.Item] -/
def sh54 (a0 : Sl) (a1 : Int) (a2 : Sl) (R : List Value → World → Prop) (w : World) : Prop :=
 sb a0 a1 a0.len a0.cap 2 fun s1 =>
 cs (((a2.len : Int) : Int) == (0 : Int)) (
 R [vS a0] w) (
 cs ((a1 : Int) == ((a0.len : Int) : Int)) (
 ef Pg (Builtin.append_ #[43, 43] 43 #[vS a0, vS a2]) [kS] w fun (r2 : Sl × Unit) w3 =>
 R [vS r2.1] w3) (
 cs (decide ((w64 ((a0.len : Int) + (a2.len : Int)) : Int) > ((a0.cap : Int) : Int))) (
 sb a0 0 a1 a0.cap 2 fun s4 =>
 ef Pg (Builtin.append_ #[43, 3] 43 #[vS s4, .int .i64 (w64 ((w64 ((a0.len : Int) + (a2.len : Int))) - a1))]) [kS] w fun (r5 : Sl × Unit) w6 =>
 sb r5.1 a1 r5.1.len r5.1.cap 2 fun s7 =>
 ef Pg (Builtin.copy_ #[43, 43] 3 #[vS s7, vS a2]) [kI] w6 fun (r8 : Int × Unit) w9 =>
 dr w9 fun w10 =>
 sb r5.1 (w64 (a1 + (a2.len : Int))) r5.1.len r5.1.cap 2 fun s11 =>
 sb a0 a1 a0.len a0.cap 2 fun s12 =>
 ef Pg (Builtin.copy_ #[43, 43] 3 #[vS s11, vS s12]) [kI] w10 fun (r13 : Int × Unit) w14 =>
 R [vS r5.1] w14) (
 sb a0 0 (w64 ((a0.len : Int) + (a2.len : Int))) a0.cap 2 fun s15 =>
 sb s15 (w64 (a1 + (a2.len : Int))) s15.len s15.cap 2 fun s16 =>
 xt Pg 58 [vS a2, vS s16] [kB] w fun (r17 : Bool × Unit) w18 =>
 cs (!r17.1) (
 dr w18 fun w19 =>
 sb s15 (w64 (a1 + (a2.len : Int))) s15.len s15.cap 2 fun s20 =>
 sb s15 a1 s15.len s15.cap 2 fun s21 =>
 ef Pg (Builtin.copy_ #[43, 43] 3 #[vS s20, vS s21]) [kI] w19 fun (r22 : Int × Unit) w23 =>
 sb s15 a1 s15.len s15.cap 2 fun s24 =>
 ef Pg (Builtin.copy_ #[43, 43] 3 #[vS s24, vS a2]) [kI] w23 fun (r25 : Int × Unit) w26 =>
 R [vS s15] w26) (
 sb s15 (a0.len : Int) s15.len s15.cap 2 fun s27 =>
 ef Pg (Builtin.copy_ #[43, 43] 3 #[vS s27, vS a2]) [kI] w18 fun (r28 : Int × Unit) w29 =>
 sb s15 a1 s15.len s15.cap 2 fun s30 =>
 cl Pg 59 [vS s30, .int .i64 (a2.len : Int)] [] w29 fun (r31 : Unit) w32 =>
 R [vS s15] w32))))
theorem tie54 (a0 : Sl) (a1 : Int) (a2 : Sl) (R : List Value → World → Prop) (w : World) : compF Pg Try.f54 ⟨[], [], [(11, .l [(0, []), (1, []), (2, []), (3, []), (4, []), (5, []), (6, []), (7, []), (8, [4, 7, 0, 3, 5, 6, 1, 2])]), (15, .l [(0, []), (1, []), (2, []), (3, []), (4, []), (5, []), (6, []), (7, []), (8, [4, 7, 0, 3, 5, 6, 1, 2])])], []⟩ [vS a0, .int .i64 a1, vS a2] R w = sh54 a0 a1 a2 R w := by kernel_rfl
theorem call54 {a0 : Sl} {a1 : Int} {a2 : Sl} {w : World} {K : TK [kS] → World → Prop} (h : sh54 a0 a1 a2 (fun vs w' => ∃ t, encK [kS] t = vs ∧ K t w') w) : cl Pg 54 [vS a0, .int .i64 a1, vS a2] [kS] w K := cl_of Try.func54 (tie54 ..) h
/-- (*detent/order.Queue).put -/
def sh39 (a0 : Option Addr) (a1 : (Int × Int × Unit)) (R : List Value → World → Prop) (w : World) : Prop :=
 al w 77 [.int .i64 a1.1, .int .i64 a1.2.1] fun b1 w2 =>
 nn a0 fun b3 o4 =>
 ldS w2 b3 o4 fun s5 =>
 lp [kI] w2 ((s5.len : Int), ()) fun (t6 : Int × Unit) J7 w8 =>
 dr w8 fun w9 =>
 jn [kB] w9 (fun (t11 : Bool × Unit) w12 =>
 cs t11.1 (
 J7 (w64 (t6.1 - 1), ()) w12) (
 dr w12 fun w14 =>
 nn a0 fun b15 o16 =>
 ldS w14 b15 o16 fun s17 =>
 ldI w14 .i64 b1 0 fun n18 =>
 ldI w14 .i64 b1 (0 + 1) fun n19 =>
 al w14 77 [.int .i64 n18, .int .i64 n19] fun b20 w21 =>
(w21.cell? ⟨b15, o16, none⟩ = some (vS s17)) ∧ (
 cl Pg 54 [vS s17, .int .i64 t6.1, vS ⟨some ⟨b20, 0, none⟩, 1, 1⟩] [kS] w21 fun (r22 : Sl × Unit) w23 =>
 nn a0 fun b24 o25 =>
 st1 w23 b24 o25 (vS r22.1) fun w26 =>
 R [] w26))) fun J10 w13 =>
 nn a0 fun b27 o28 =>
 ldB w13 b27 (o28 + 1) fun b29 =>
 cs b29 (
 cs (decide ((t6.1 : Int) > (0 : Int))) (
 nn a0 fun b30 o31 =>
 ldS w13 b30 o31 fun s32 =>
 ix s32 (w64 (t6.1 - 1)) 2 fun b33 o34 =>
 ldI w13 .i64 b33 (o34 + 1) fun n35 =>
 ldI w13 .i64 b1 (0 + 1) fun n36 =>
 J10 (decide ((n35 : Int) > (n36 : Int)), ()) w13) (
 J10 (false, ()) w13)) (
 J10 (false, ()) w13)
theorem tie39 (a0 : Option Addr) (a1 : (Int × Int × Unit)) (R : List Value → World → Prop) (w : World) : compF Pg Try.f39 ⟨[(1, ⟨[(4, kI)], [11, 12, 13, 14, 15, 16, 17, 18, 19, 20, 21, 22, 23, 24, 25, 26, 27, 28, 29, 30, 31, 32, 33, 34, 35]⟩)], [(2, ⟨[(33, kB)], [11, 12, 13, 14, 15, 16, 17, 18, 19, 20, 21, 22, 23, 24, 25, 26, 27, 28, 29, 30, 31, 32]⟩)], [(2, .l [(0, []), (1, []), (2, []), (3, []), (4, []), (5, []), (6, []), (7, []), (8, []), (9, []), (10, []), (11, []), (12, []), (13, []), (14, []), (15, []), (16, []), (17, []), (18, []), (19, []), (20, []), (21, []), (22, [])]), (4, .l [(0, []), (1, []), (2, []), (3, []), (4, []), (5, []), (6, []), (7, []), (8, [7]), (9, [5, 6, 8, 4, 7, 3, 2, 1]), (10, []), (11, []), (12, []), (13, [12, 9, 0, 1, 2, 3, 4, 5, 6, 7, 8, 11, 10])])], []⟩ [.pointer a0, .agg #[.int .i64 a1.1, .int .i64 a1.2.1]] R w = sh39 a0 a1 R w := by kernel_rfl
theorem call39 {a0 : Option Addr} {a1 : (Int × Int × Unit)} {w : World} {K : TK [] → World → Prop} (h : sh39 a0 a1 (fun vs w' => ∃ t, encK [] t = vs ∧ K t w') w) : cl Pg 39 [.pointer a0, .agg #[.int .i64 a1.1, .int .i64 a1.2.1]] [] w K := cl_of Try.func39 (tie39 ..) h
/-- (*detent/order.Line).Has -/
def sh47 (a0 : Option Addr) (a1 : Int) (R : List Value → World → Prop) (w : World) : Prop :=
 cl Pg 35 [.pointer a0, .int .i64 a1] [kI] w fun (r1 : Int × Unit) w2 =>
 R [.bool (decide ((r1.1 : Int) ≥ (0 : Int)))] w2
theorem tie47 (a0 : Option Addr) (a1 : Int) (R : List Value → World → Prop) (w : World) : compF Pg Try.f47 ⟨[], [], [], []⟩ [.pointer a0, .int .i64 a1] R w = sh47 a0 a1 R w := by kernel_rfl
theorem call47 {a0 : Option Addr} {a1 : Int} {w : World} {K : TK [kB] → World → Prop} (h : sh47 a0 a1 (fun vs w' => ∃ t, encK [kB] t = vs ∧ K t w') w) : cl Pg 47 [.pointer a0, .int .i64 a1] [kB] w K := cl_of Try.func47 (tie47 ..) h
/-- (*detent/order.Queue).Add -/
def sh32 (a0 : Option Addr) (a1 : Int) (a2 : Int) (R : List Value → World → Prop) (w : World) : Prop :=
 jn [kB] w (fun (t2 : Bool × Unit) w3 =>
 jn [kB] w3 (fun (t6 : Bool × Unit) w7 =>
 cs t6.1 (
 R [.int .i64 (-17)] w7) (
 nn a0 fun b9 o10 =>
 cl Pg 47 [.pointer (some ⟨b9, o10, none⟩), .int .i64 a1] [kB] w7 fun (r11 : Bool × Unit) w12 =>
 cs r11.1 (
 R [.int .i64 (-41)] w12) (
 cl Pg 39 [.pointer a0, .agg #[.int .i64 a1, .int .i64 a2]] [] w12 fun (r13 : Unit) w14 =>
 R [.int .i64 0] w14))) fun J5 w8 =>
 cs t2.1 (
 J5 (true, ()) w8) (
 cl Pg 38 [.int .i64 a2] [kB] w8 fun (r15 : Bool × Unit) w16 =>
 J5 (!r15.1, ()) w16)) fun J1 w4 =>
 cs (decide ((a1 : Int) < (1 : Int))) (
 J1 (true, ()) w4) (
 J1 (decide ((a1 : Int) > (16 : Int)), ()) w4)
theorem tie32 (a0 : Option Addr) (a1 : Int) (a2 : Int) (R : List Value → World → Prop) (w : World) : compF Pg Try.f32 ⟨[], [], [], [(1, [(3, 3, ⟨[(13, kB)], [11, 12]⟩), (7, 4, ⟨[(18, kB)], [15, 16, 17]⟩)])]⟩ [.pointer a0, .int .i64 a1, .int .i64 a2] R w = sh32 a0 a1 a2 R w := by kernel_rfl
theorem call32 {a0 : Option Addr} {a1 : Int} {a2 : Int} {w : World} {K : TK [kI] → World → Prop} (h : sh32 a0 a1 a2 (fun vs w' => ∃ t, encK [kI] t = vs ∧ K t w') w) : cl Pg 32 [.pointer a0, .int .i64 a1, .int .i64 a2] [kI] w K := cl_of Try.func32 (tie32 ..) h
/-- (*detent/mbx.Box).Recv -/
def sh12 (a0 : Option Addr) (a1 : Int) (a2 : Int) (R : List Value → World → Prop) (w : World) : Prop :=
 cl Pg 10 [.pointer a0] [kI, kB] w fun (r1 : Int × Bool × Unit) w2 =>
 cs r1.2.1 (
 R [.int .i64 r1.1, .bool true, .int .i64 0] w2) (
 nn a0 fun b3 o4 =>
 ldP w2 b3 o4 fun p5 =>
 cl Pg 32 [.pointer p5, .int .i64 a1, .int .i64 a2] [kI] w2 fun (r6 : Int × Unit) w7 =>
 R [.int .i64 0, .bool false, .int .i64 r6.1] w7)
theorem tie12 (a0 : Option Addr) (a1 : Int) (a2 : Int) (R : List Value → World → Prop) (w : World) : compF Pg Try.f12 ⟨[], [], [], []⟩ [.pointer a0, .int .i64 a1, .int .i64 a2] R w = sh12 a0 a1 a2 R w := by kernel_rfl
theorem call12 {a0 : Option Addr} {a1 : Int} {a2 : Int} {w : World} {K : TK [kI, kB, kI] → World → Prop} (h : sh12 a0 a1 a2 (fun vs w' => ∃ t, encK [kI, kB, kI] t = vs ∧ K t w') w) : cl Pg 12 [.pointer a0, .int .i64 a1, .int .i64 a2] [kI, kB, kI] w K := cl_of Try.func12 (tie12 ..) h
/-- detent/detentlaw14.known -/
def sh7  (R : List Value → World → Prop) (w : World) : Prop :=
 cl Pg 8 [.bool false, .bool true, .int .i64 9] [kP, kI] w fun (r1 : Option Addr × Int × Unit) w2 =>
 jn [kB] w2 (fun (t4 : Bool × Unit) w5 =>
 jn [kB] w5 (fun (t8 : Bool × Unit) w9 =>
 cs t8.1 (
 R [.bool false] w9) (
 cl Pg 9 [.pointer r1.1, .int .i64 11, .int .i64 5] [kI, kI] w9 fun (r11 : Int × Int × Unit) w12 =>
 cl Pg 9 [.pointer r1.1, .int .i64 12, .int .i64 1] [kI, kI] w12 fun (r13 : Int × Int × Unit) w14 =>
 cl Pg 12 [.pointer r1.1, .int .i64 1, .int .i64 5] [kI, kB, kI] w14 fun (r15 : Int × Bool × Int × Unit) w16 =>
 cl Pg 9 [.pointer r1.1, .int .i64 11, .int .i64 3] [kI, kI] w16 fun (r17 : Int × Int × Unit) w18 =>
 cl Pg 10 [.pointer r1.1] [kI, kB] w18 fun (r19 : Int × Bool × Unit) w20 =>
 cl Pg 12 [.pointer r1.1, .int .i64 2, .int .i64 5] [kI, kB, kI] w20 fun (r21 : Int × Bool × Int × Unit) w22 =>
 cl Pg 9 [.pointer r1.1, .int .i64 13, .int .i64 9] [kI, kI] w22 fun (r23 : Int × Int × Unit) w24 =>
 jn [kB] w24 (fun (t26 : Bool × Unit) w27 =>
 jn [kB] w27 (fun (t30 : Bool × Unit) w31 =>
 jn [kB] w31 (fun (t34 : Bool × Unit) w35 =>
 jn [kB] w35 (fun (t38 : Bool × Unit) w39 =>
 jn [kB] w39 (fun (t42 : Bool × Unit) w43 =>
 jn [kB] w43 (fun (t46 : Bool × Unit) w47 =>
 jn [kB] w47 (fun (t50 : Bool × Unit) w51 =>
 jn [kB] w51 (fun (t54 : Bool × Unit) w55 =>
 R [.bool t54.1] w55) fun J53 w56 =>
 cs t50.1 (
 cl Pg 11 [.pointer r1.1] [kS] w56 fun (r57 : Sl × Unit) w58 =>
 J53 (((r57.1.len : Int) : Int) == (0 : Int), ()) w58) (
 J53 (false, ()) w56)) fun J49 w52 =>
 cs t46.1 (
 J49 ((r23.1 : Int) == (2 : Int), ()) w52) (
 J49 (false, ()) w52)) fun J45 w48 =>
 cs t42.1 (
 J45 (!r21.2.1, ()) w48) (
 J45 (false, ()) w48)) fun J41 w44 =>
 cs t38.1 (
 J41 (r19.2.1, ()) w44) (
 J41 (false, ()) w44)) fun J37 w40 =>
 cs t34.1 (
 J37 ((r19.1 : Int) == (11 : Int), ()) w40) (
 J37 (false, ()) w40)) fun J33 w36 =>
 cs t30.1 (
 J33 ((r17.2.1 : Int) == ((-41) : Int), ()) w36) (
 J33 (false, ()) w36)) fun J29 w32 =>
 cs t26.1 (
 J29 (r15.2.1, ()) w32) (
 J29 (false, ()) w32)) fun J25 w28 =>
 cs ((w64 ((w64 ((w64 ((w64 (r11.2.1 + r13.2.1)) + r15.2.2.1)) + r21.2.2.1)) + r23.2.1) : Int) == (0 : Int)) (
 J25 ((r15.1 : Int) == (12 : Int), ()) w28) (
 J25 (false, ()) w28))) fun J7 w10 =>
 cs t4.1 (
 J7 (true, ()) w10) (
 nn r1.1 fun b59 o60 =>
 ldP w10 b59 o60 fun p61 =>
 J7 (p61.isNone, ()) w10)) fun J3 w6 =>
 cs ((r1.2.1 : Int) != (0 : Int)) (
 J3 (true, ()) w6) (
 J3 (r1.1.isNone, ()) w6)
theorem tie7  (R : List Value → World → Prop) (w : World) : compF Pg Try.f7 ⟨[], [], [], [(2, [(3, 3, ⟨[(28, kB)], [26, 27]⟩), (7, 6, ⟨[(35, kB)], [30, 31, 32, 33, 34]⟩)]), (11, [(11, 3, ⟨[(86, kB)], [84, 85]⟩), (15, 2, ⟨[(89, kB)], [88]⟩), (18, 3, ⟨[(93, kB)], [91, 92]⟩), (22, 3, ⟨[(97, kB)], [95, 96]⟩), (26, 2, ⟨[(100, kB)], [99]⟩), (29, 3, ⟨[(104, kB)], [102, 103]⟩), (33, 3, ⟨[(108, kB)], [106, 107]⟩), (37, 5, ⟨[(114, kB)], [110, 111, 112, 113]⟩)])]⟩ [] R w = sh7  R w := by kernel_rfl
theorem call7  {w : World} {K : TK [kB] → World → Prop} (h : sh7  (fun vs w' => ∃ t, encK [kB] t = vs ∧ K t w') w) : cl Pg 7 [] [kB] w K := cl_of Try.func7 (tie7 ..) h
/-- detent/detentlaw14.BoxSorts -/
def sh3 (a0 : Bool) (a1 : Sl) (R : List Value → World → Prop) (w : World) : Prop :=
 cl Pg 7 [] [kB] w fun (r1 : Bool × Unit) w2 =>
 cs (!r1.1) (
 R [.bool false] w2) (
 cs (decide (((a1.len : Int) : Int) > (60 : Int))) (
 R [.bool true] w2) (
 cl Pg 8 [.bool false, .bool a0, .int .i64 255] [kP, kI] w2 fun (r3 : Option Addr × Int × Unit) w4 =>
 lp [kI] w4 ((0 : Int), ()) fun (t5 : Int × Unit) J6 w7 =>
 cs (decide ((t5.1 : Int) < ((a1.len : Int) : Int))) (
 ix a1 t5.1 1 fun b8 o9 =>
 ldI w7 .u8 b8 o9 fun n10 =>
 cl Pg 9 [.pointer r3.1, .int .i64 (w64 (t5.1 + 1)), .int .i64 (w64 (1 + (w64 (Int.tmod n10 4))))] [kI, kI] w7 fun (r11 : Int × Int × Unit) w12 =>
 jn [kB] w12 (fun (t14 : Bool × Unit) w15 =>
 cs t14.1 (
 R [.bool false] w15) (
 J6 (w64 (t5.1 + 1), ()) w15)) fun J13 w16 =>
 cs ((r11.1 : Int) != (0 : Int)) (
 J13 (true, ()) w16) (
 J13 ((r11.2.1 : Int) != (0 : Int), ()) w16)) (
 lp [kI, kI] w7 ((0 : Int), (0 : Int), ()) fun (t17 : Int × Int × Unit) J18 w19 =>
 cs (decide ((t17.2.1 : Int) < ((a1.len : Int) : Int))) (
 cl Pg 10 [.pointer r3.1] [kI, kB] w19 fun (r20 : Int × Bool × Unit) w21 =>
 jn [kB] w21 (fun (t23 : Bool × Unit) w24 =>
 jn [kB] w24 (fun (t27 : Bool × Unit) w28 =>
 cs t27.1 (
 R [.bool false] w28) (
 jn [] w28 (fun (t31 : Unit) w32 =>
 J18 (r20.1, w64 (t17.2.1 + 1), ()) w32) fun J30 w33 =>
 cs (decide ((t17.2.1 : Int) > (0 : Int))) (
 ix a1 (w64 (t17.1 - 1)) 1 fun b34 o35 =>
 ldI w33 .u8 b34 o35 fun n36 =>
 ix a1 (w64 (r20.1 - 1)) 1 fun b37 o38 =>
 ldI w33 .u8 b37 o38 fun n39 =>
 jn [kB] w33 (fun (t41 : Bool × Unit) w42 =>
 jn [kB] w42 (fun (t45 : Bool × Unit) w46 =>
 cs t45.1 (
 R [.bool false] w46) (
 J30 () w46)) fun J44 w47 =>
 cs t41.1 (
 J44 (true, ()) w47) (
 jn [kB] w47 (fun (t49 : Bool × Unit) w50 =>
 J44 (t49.1, ()) w50) fun J48 w51 =>
 cs (!a0) (
 J48 (decide ((t17.1 : Int) ≥ (r20.1 : Int)), ()) w51) (
 J48 (false, ()) w51))) fun J40 w43 =>
 cs a0 (
 jn [kB] w43 (fun (t53 : Bool × Unit) w54 =>
 J40 (t53.1, ()) w54) fun J52 w55 =>
 cs (decide ((Int.tmod n36 4 : Int) > (Int.tmod n39 4 : Int))) (
 J52 (true, ()) w55) (
 jn [kB] w55 (fun (t57 : Bool × Unit) w58 =>
 J52 (t57.1, ()) w58) fun J56 w59 =>
 cs ((Int.tmod n36 4 : Int) == (Int.tmod n39 4 : Int)) (
 J56 (decide ((t17.1 : Int) ≥ (r20.1 : Int)), ()) w59) (
 J56 (false, ()) w59))) (
 J40 (false, ()) w43)) (
 J30 () w33))) fun J26 w29 =>
 cs t23.1 (
 J26 (true, ()) w29) (
 J26 (decide ((r20.1 : Int) > ((a1.len : Int) : Int)), ()) w29)) fun J22 w25 =>
 cs (!r20.2.1) (
 J22 (true, ()) w25) (
 J22 (decide ((r20.1 : Int) < (1 : Int)), ()) w25)) (
 cl Pg 10 [.pointer r3.1] [kI, kB] w19 fun (r60 : Int × Bool × Unit) w61 =>
 R [.bool (!r60.2.1)] w61))))
theorem tie3 (a0 : Bool) (a1 : Sl) (R : List Value → World → Prop) (w : World) : compF Pg Try.f3 ⟨[(3, ⟨[(7, kI)], [4, 8, 9, 28, 29, 30, 31, 32, 33, 34, 35, 36, 37, 38, 39, 40, 41, 42, 43, 44, 45, 46, 47, 48, 49, 50, 51, 52, 53]⟩), (8, ⟨[(10, kI), (11, kI)], [4, 12, 13, 14, 15, 54, 55, 56, 57, 58, 59, 60, 61, 62, 63, 64, 65, 66, 67, 68, 69, 70, 71, 72, 73, 74, 75, 76, 77, 78, 79, 80, 81, 82, 83, 84, 85, 86, 87, 88, 89, 90, 91, 92, 93, 94, 95, 96, 97, 98, 99, 100, 101, 102, 103, 104, 105, 106, 107, 108, 109, 110, 111, 112, 113, 114, 115, 116]⟩), (12, ⟨[], [4, 14, 15, 79, 80, 81, 82, 83, 84, 85, 86, 87, 88, 89, 90, 91, 92, 93, 94, 95, 96, 97, 98, 99, 100, 101, 102, 103, 104, 105, 106, 107, 108, 109, 110, 111, 112, 113, 114, 115]⟩)], [], [], [(10, [(3, 3, ⟨[(53, kB)], [51, 52]⟩)]), (17, [(3, 3, ⟨[(70, kB)], [68, 69]⟩), (7, 5, ⟨[(76, kB)], [72, 73, 74, 75]⟩)]), (22, [(2, 14, ⟨[(106, kB)], [93, 94, 95, 96, 97, 98, 99, 100, 101, 102, 103, 104, 105]⟩), (6, 9, ⟨[(105, kB)], [97, 98, 99, 100, 101, 102, 103, 104]⟩), (10, 4, ⟨[(104, kB)], [101, 102, 103]⟩), (17, 8, ⟨[(115, kB)], [108, 109, 110, 111, 112, 113, 114]⟩), (20, 4, ⟨[(114, kB)], [111, 112, 113]⟩)])]⟩ [.bool a0, vS a1] R w = sh3 a0 a1 R w := by kernel_rfl
theorem call3 {a0 : Bool} {a1 : Sl} {w : World} {K : TK [kB] → World → Prop} (h : sh3 a0 a1 (fun vs w' => ∃ t, encK [kB] t = vs ∧ K t w') w) : cl Pg 3 [.bool a0, vS a1] [kB] w K := cl_of Try.func3 (tie3 ..) h
/-- detent/detentlaw14.BoxRefuses -/
def sh4 (a0 : Int) (a1 : Int) (a2 : Int) (R : List Value → World → Prop) (w : World) : Prop :=
 cl Pg 7 [] [kB] w fun (r1 : Bool × Unit) w2 =>
 cs (!r1.1) (
 R [.bool false] w2) (
 cs ((a2 : Int) == (0 : Int)) (
 R [.bool true] w2) (
 cl Pg 8 [.bool true, .bool true, .int .i64 (w64 (a2))] [kP, kI] w2 fun (r3 : Option Addr × Int × Unit) w4 =>
 cl Pg 9 [.pointer r3.1, .int .i64 7, .int .i64 1] [kI, kI] w4 fun (r5 : Int × Int × Unit) w6 =>
 cl Pg 9 [.pointer r3.1, .int .i64 a0, .int .i64 a1] [kI, kI] w6 fun (r7 : Int × Int × Unit) w8 =>
 cl Pg 11 [.pointer r3.1] [kS] w8 fun (r9 : Sl × Unit) w10 =>
 jn [kB] w10 (fun (t12 : Bool × Unit) w13 =>
 jn [kB] w13 (fun (t16 : Bool × Unit) w17 =>
 cs t16.1 (
 jn [kB] w17 (fun (t20 : Bool × Unit) w21 =>
 jn [kB] w21 (fun (t24 : Bool × Unit) w25 =>
 R [.bool t24.1] w25) fun J23 w26 =>
 cs t20.1 (
 J23 (((r9.1.len : Int) : Int) == (1 : Int), ()) w26) (
 J23 (false, ()) w26)) fun J19 w22 =>
 cs ((r7.2.1 : Int) == ((-17) : Int)) (
 J19 ((r7.1 : Int) == (0 : Int), ()) w22) (
 J19 (false, ()) w22)) (
 cs ((a0 : Int) == (7 : Int)) (
 jn [kB] w17 (fun (t28 : Bool × Unit) w29 =>
 jn [kB] w29 (fun (t32 : Bool × Unit) w33 =>
 R [.bool t32.1] w33) fun J31 w34 =>
 cs t28.1 (
 J31 (((r9.1.len : Int) : Int) == (1 : Int), ()) w34) (
 J31 (false, ()) w34)) fun J27 w30 =>
 cs ((r7.2.1 : Int) == ((-41) : Int)) (
 J27 ((r7.1 : Int) == (0 : Int), ()) w30) (
 J27 (false, ()) w30)) (
 jn [kB] w17 (fun (t36 : Bool × Unit) w37 =>
 jn [kB] w37 (fun (t40 : Bool × Unit) w41 =>
 jn [kB] w41 (fun (t44 : Bool × Unit) w45 =>
 jn [kB] w45 (fun (t48 : Bool × Unit) w49 =>
 R [.bool t48.1] w49) fun J47 w50 =>
 cs t44.1 (
 ix r9.1 1 1 fun b51 o52 =>
 ldI w50 .i64 b51 o52 fun n53 =>
 J47 ((n53 : Int) == (a0 : Int), ()) w50) (
 J47 (false, ()) w50)) fun J43 w46 =>
 cs t40.1 (
 ix r9.1 0 1 fun b54 o55 =>
 ldI w46 .i64 b54 o55 fun n56 =>
 J43 ((n56 : Int) == (7 : Int), ()) w46) (
 J43 (false, ()) w46)) fun J39 w42 =>
 cs t36.1 (
 J39 (((r9.1.len : Int) : Int) == (2 : Int), ()) w42) (
 J39 (false, ()) w42)) fun J35 w38 =>
 cs ((r7.2.1 : Int) == (0 : Int)) (
 J35 ((r7.1 : Int) == (0 : Int), ()) w38) (
 J35 (false, ()) w38)))) fun J15 w18 =>
 cs t12.1 (
 J15 (true, ()) w18) (
 J15 (decide ((a1 : Int) > (w64 (a2) : Int)), ()) w18)) fun J11 w14 =>
 cs ((a0 : Int) == (0 : Int)) (
 J11 (true, ()) w14) (
 J11 (decide ((a1 : Int) < (1 : Int)), ()) w14)))
theorem tie4 (a0 : Int) (a1 : Int) (a2 : Int) (R : List Value → World → Prop) (w : World) : compF Pg Try.f4 ⟨[], [], [], [(9, [(3, 3, ⟨[(39, kB)], [37, 38]⟩), (7, 5, ⟨[(45, kB)], [41, 42, 43, 44]⟩)]), (10, [(3, 3, ⟨[(51, kB)], [49, 50]⟩), (7, 4, ⟨[(56, kB)], [53, 54, 55]⟩)]), (12, [(3, 3, ⟨[(65, kB)], [63, 64]⟩), (7, 4, ⟨[(70, kB)], [67, 68, 69]⟩)]), (13, [(3, 3, ⟨[(76, kB)], [74, 75]⟩), (7, 4, ⟨[(81, kB)], [78, 79, 80]⟩), (12, 5, ⟨[(87, kB)], [83, 84, 85, 86]⟩), (18, 6, ⟨[(94, kB)], [89, 90, 91, 92, 93]⟩)])]⟩ [.int .i64 a0, .int .i64 a1, .int .u8 a2] R w = sh4 a0 a1 a2 R w := by kernel_rfl
theorem call4 {a0 : Int} {a1 : Int} {a2 : Int} {w : World} {K : TK [kB] → World → Prop} (h : sh4 a0 a1 a2 (fun vs w' => ∃ t, encK [kB] t = vs ∧ K t w') w) : cl Pg 4 [.int .i64 a0, .int .i64 a1, .int .u8 a2] [kB] w K := cl_of Try.func4 (tie4 ..) h
/-- (*detent/order.Line).Len -/
def sh13 (a0 : Option Addr) (R : List Value → World → Prop) (w : World) : Prop :=
 nn a0 fun b1 o2 =>
 ldS w b1 o2 fun s3 =>
 R [.int .i64 (s3.len : Int)] w
theorem tie13 (a0 : Option Addr) (R : List Value → World → Prop) (w : World) : compF Pg Try.f13 ⟨[], [], [], []⟩ [.pointer a0] R w = sh13 a0 R w := by kernel_rfl
theorem call13 {a0 : Option Addr} {w : World} {K : TK [kI] → World → Prop} (h : sh13 a0 (fun vs w' => ∃ t, encK [kI] t = vs ∧ K t w') w) : cl Pg 13 [.pointer a0] [kI] w K := cl_of Try.func13 (tie13 ..) h
/-- detent/detentlaw14.BoxHands -/
def sh5 (a0 : Int) (a1 : Int) (a2 : Bool) (R : List Value → World → Prop) (w : World) : Prop :=
 cl Pg 7 [] [kB] w fun (r1 : Bool × Unit) w2 =>
 cs (!r1.1) (
 R [.bool false] w2) (
 jn [kB] w2 (fun (t4 : Bool × Unit) w5 =>
 jn [kB] w5 (fun (t8 : Bool × Unit) w9 =>
 jn [kB] w9 (fun (t12 : Bool × Unit) w13 =>
 cs t12.1 (
 R [.bool true] w13) (
 cl Pg 8 [.bool a2, .bool false, .int .i64 1] [kP, kI] w13 fun (r15 : Option Addr × Int × Unit) w16 =>
 lp [kI] w16 ((1 : Int), ()) fun (t17 : Int × Unit) J18 w19 =>
 cs (decide ((t17.1 : Int) ≤ (a0 : Int))) (
 cl Pg 12 [.pointer r15.1, .int .i64 t17.1, .int .i64 (w64 (17 - t17.1))] [kI, kB, kI] w19 fun (r20 : Int × Bool × Int × Unit) w21 =>
 jn [kB] w21 (fun (t23 : Bool × Unit) w24 =>
 cs t23.1 (
 R [.bool false] w24) (
 J18 (w64 (t17.1 + 1), ()) w24)) fun J22 w25 =>
 cs r20.2.1 (
 J22 (true, ()) w25) (
 J22 ((r20.2.2.1 : Int) != (0 : Int), ()) w25)) (
 lp [kI] w19 ((1 : Int), ()) fun (t26 : Int × Unit) J27 w28 =>
 cs (decide ((t26.1 : Int) ≤ (a1 : Int))) (
 cl Pg 9 [.pointer r15.1, .int .i64 t26.1, .int .i64 0] [kI, kI] w28 fun (r29 : Int × Int × Unit) w30 =>
 jn [kI] w30 (fun (t32 : Int × Unit) w33 =>
 jn [kB] w33 (fun (t36 : Bool × Unit) w37 =>
 cs t36.1 (
 R [.bool false] w37) (
 J27 (w64 (t26.1 + 1), ()) w37)) fun J35 w38 =>
 cs ((r29.1 : Int) != (t32.1 : Int)) (
 J35 (true, ()) w38) (
 J35 ((r29.2.1 : Int) != (0 : Int), ()) w38)) fun J31 w34 =>
 cs (decide ((t26.1 : Int) ≤ (a0 : Int))) (
 jn [kI] w34 (fun (t40 : Int × Unit) w41 =>
 J31 (t40.1, ()) w41) fun J39 w42 =>
 cs a2 (
 J39 (w64 ((w64 (a0 + 1)) - t26.1), ()) w42) (
 J39 (t26.1, ()) w42)) (
 J31 ((0 : Int), ()) w34)) (
 jn [kI] w28 (fun (t44 : Int × Unit) w45 =>
 cl Pg 11 [.pointer r15.1] [kS] w45 fun (r47 : Sl × Unit) w48 =>
 jn [kB] w48 (fun (t50 : Bool × Unit) w51 =>
 R [.bool t50.1] w51) fun J49 w52 =>
 cs (((r47.1.len : Int) : Int) == (t44.1 : Int)) (
 jn [kB] w52 (fun (t54 : Bool × Unit) w55 =>
 J49 (t54.1, ()) w55) fun J53 w56 =>
 cs ((t44.1 : Int) == (0 : Int)) (
 J53 (true, ()) w56) (
 nn r15.1 fun b57 o58 =>
 ldP w56 b57 o58 fun p59 =>
 nn p59 fun b60 o61 =>
 cl Pg 13 [.pointer (some ⟨b60, o61, none⟩)] [kI] w56 fun (r62 : Int × Unit) w63 =>
 J53 ((r62.1 : Int) == (0 : Int), ()) w63)) (
 J49 (false, ()) w52)) fun J43 w46 =>
 cs (decide ((w64 (a1 - a0) : Int) < (0 : Int))) (
 J43 ((0 : Int), ()) w46) (
 J43 (w64 (a1 - a0), ()) w46))))) fun J11 w14 =>
 cs t8.1 (
 J11 (true, ()) w14) (
 J11 (decide ((a1 : Int) > (40 : Int)), ()) w14)) fun J7 w10 =>
 cs t4.1 (
 J7 (true, ()) w10) (
 J7 (decide ((a1 : Int) < (0 : Int)), ()) w10)) fun J3 w6 =>
 cs (decide ((a0 : Int) < (0 : Int))) (
 J3 (true, ()) w6) (
 J3 (decide ((a0 : Int) > (16 : Int)), ()) w6))
theorem tie5 (a0 : Int) (a1 : Int) (a2 : Bool) (R : List Value → World → Prop) (w : World) : compF Pg Try.f5 ⟨[(3, ⟨[(9, kI)], [6, 10, 11, 12, 39, 40, 41, 42, 43, 44, 45, 46, 47, 48, 49, 50, 51, 52, 53, 54, 55, 56, 57]⟩), (8, ⟨[(13, kI)], [6, 14, 15, 16, 58, 59, 60, 61, 62, 63, 64, 65, 66, 67, 68, 69, 70, 71, 72, 73, 74, 75, 76, 77, 78, 79, 80, 81, 82, 83, 84]⟩), (11, ⟨[(16, kI)], [72, 73, 74, 75, 76, 77]⟩), (12, ⟨[(16, kI)], [74, 75, 76, 77]⟩), (14, ⟨[(17, kI)], []⟩)], [], [], [(3, [(3, 3, ⟨[(25, kB)], [23, 24]⟩), (7, 3, ⟨[(29, kB)], [27, 28]⟩), (11, 3, ⟨[(33, kB)], [31, 32]⟩)]), (10, [(2, 3, ⟨[(57, kB)], [55, 56]⟩)]), (21, [(4, 3, ⟨[(84, kB)], [82, 83]⟩)]), (26, [(6, 13, ⟨[(108, kB)], [96, 97, 98, 99, 100, 101, 102, 103, 104, 105, 106, 107]⟩), (9, 9, ⟨[(107, kB)], [99, 100, 101, 102, 103, 104, 105, 106]⟩)])]⟩ [.int .i64 a0, .int .i64 a1, .bool a2] R w = sh5 a0 a1 a2 R w := by kernel_rfl
theorem call5 {a0 : Int} {a1 : Int} {a2 : Bool} {w : World} {K : TK [kB] → World → Prop} (h : sh5 a0 a1 a2 (fun vs w' => ∃ t, encK [kB] t = vs ∧ K t w') w) : cl Pg 5 [.int .i64 a0, .int .i64 a1, .bool a2] [kB] w K := cl_of Try.func5 (tie5 ..) h
/-- detent/detentref14.New -/
def sh14 (a0 : Bool) (a1 : Bool) (a2 : Int) (R : List Value → World → Prop) (w : World) : Prop :=
 jn [kB] w (fun (t2 : Bool × Unit) w3 =>
 cs t2.1 (
 R [.pointer none, .int .i64 (-17)] w3) (
 al w3 87 [.bool a0, .slice none 0 0] fun b5 w6 =>
 al w6 63 [.pointer (some ⟨b5, 0, none⟩), .bool a1, .int .i64 a2, .slice none 0 0] fun b7 w8 =>
 R [.pointer (some ⟨b7, 0, none⟩), .int .i64 0] w8)) fun J1 w4 =>
 cs (decide ((a2 : Int) < (1 : Int))) (
 J1 (true, ()) w4) (
 J1 (decide ((a2 : Int) > (255 : Int)), ()) w4)
theorem tie14 (a0 : Bool) (a1 : Bool) (a2 : Int) (R : List Value → World → Prop) (w : World) : compF Pg Try.f14 ⟨[], [], [], [(1, [(3, 3, ⟨[(13, kB)], [11, 12]⟩)])]⟩ [.bool a0, .bool a1, .int .i64 a2] R w = sh14 a0 a1 a2 R w := by kernel_rfl
theorem call14 {a0 : Bool} {a1 : Bool} {a2 : Int} {w : World} {K : TK [kP, kI] → World → Prop} (h : sh14 a0 a1 a2 (fun vs w' => ∃ t, encK [kP, kI] t = vs ∧ K t w') w) : cl Pg 14 [.bool a0, .bool a1, .int .i64 a2] [kP, kI] w K := cl_of Try.func14 (tie14 ..) h
/-- (*detent/detentref4.Queue).Take -/
def sh33 (a0 : Option Addr) (R : List Value → World → Prop) (w : World) : Prop :=
 al w 88 [.int .i64 0, .int .i64 0] fun b1 w2 =>
 nn a0 fun b3 o4 =>
 ldS w2 b3 (o4 + 1) fun s5 =>
 cs (((s5.len : Int) : Int) == (0 : Int)) (
 st1 w2 b1 0 (.int .i64 0) fun w6 =>
 st1 w6 b1 (0 + 1) (.int .i64 0) fun w7 =>
 ldI w7 .i64 b1 0 fun n8 =>
 ldI w7 .i64 b1 (0 + 1) fun n9 =>
 R [.agg #[.int .i64 n8, .int .i64 n9], .bool false] w7) (
 nn a0 fun b10 o11 =>
 ldS w2 b10 (o11 + 1) fun s12 =>
 ix s12 0 2 fun b13 o14 =>
 ldI w2 .i64 b13 o14 fun n15 =>
 ldI w2 .i64 b13 (o14 + 1) fun n16 =>
 al w2 88 [.int .i64 0, .int .i64 0] fun b17 w18 =>
 st1 w18 b17 0 (.int .i64 n15) fun w19 =>
 st1 w19 b17 (0 + 1) (.int .i64 n16) fun w20 =>
 al w20 88 [] fun b21 w22 =>
 nn a0 fun b23 o24 =>
 ldS w22 b23 (o24 + 1) fun s25 =>
 sb s25 1 s25.len s25.cap 2 fun s26 =>
 ef Pg (Builtin.append_ #[85, 85] 85 #[vS ⟨some ⟨b21, 0, none⟩, 0, 0⟩, vS s26]) [kS] w22 fun (r27 : Sl × Unit) w28 =>
 nn a0 fun b29 o30 =>
 st1 w28 b29 (o30 + 1) (vS r27.1) fun w31 =>
 ldI w31 .i64 b17 0 fun n32 =>
 ldI w31 .i64 b17 (0 + 1) fun n33 =>
 st1 w31 b1 0 (.int .i64 n32) fun w34 =>
 st1 w34 b1 (0 + 1) (.int .i64 n33) fun w35 =>
 ldI w35 .i64 b1 0 fun n36 =>
 ldI w35 .i64 b1 (0 + 1) fun n37 =>
 R [.agg #[.int .i64 n36, .int .i64 n37], .bool true] w35)
theorem tie33 (a0 : Option Addr) (R : List Value → World → Prop) (w : World) : compF Pg Try.f33 ⟨[], [], [], []⟩ [.pointer a0] R w = sh33 a0 R w := by kernel_rfl
theorem call33 {a0 : Option Addr} {w : World} {K : TK [.a [(.i .i64), (.i .i64)], kB] → World → Prop} (h : sh33 a0 (fun vs w' => ∃ t, encK [.a [(.i .i64), (.i .i64)], kB] t = vs ∧ K t w') w) : cl Pg 33 [.pointer a0] [.a [(.i .i64), (.i .i64)], kB] w K := cl_of Try.func33 (tie33 ..) h
/-- (*detent/detentref14.Box).Send -/
def sh15 (a0 : Option Addr) (a1 : Int) (a2 : Int) (R : List Value → World → Prop) (w : World) : Prop :=
 jn [kB] w (fun (t2 : Bool × Unit) w3 =>
 cs t2.1 (
 R [.int .i64 0, .int .i64 (-17)] w3) (
 lp [kI] w3 ((0 : Int), ()) fun (t5 : Int × Unit) J6 w7 =>
 nn a0 fun b8 o9 =>
 ldS w7 b8 (o9 + 3) fun s10 =>
 cs (decide ((t5.1 : Int) < ((s10.len : Int) : Int))) (
 nn a0 fun b11 o12 =>
 ldS w7 b11 (o12 + 3) fun s13 =>
 ix s13 t5.1 2 fun b14 o15 =>
 ldI w7 .i64 b14 o15 fun n16 =>
 cs ((n16 : Int) == (a1 : Int)) (
 R [.int .i64 0, .int .i64 (-41)] w7) (
 J6 (w64 (t5.1 + 1), ()) w7)) (
 nn a0 fun b17 o18 =>
 ldP w7 b17 o18 fun p19 =>
 cl Pg 33 [.pointer p19] [.a [(.i .i64), (.i .i64)], kB] w7 fun (r20 : (Int × Int × Unit) × Bool × Unit) w21 =>
 al w21 88 [.int .i64 0, .int .i64 0] fun b22 w23 =>
 st1 w23 b22 0 (.int .i64 r20.1.1) fun w24 =>
 st1 w24 b22 (0 + 1) (.int .i64 r20.1.2.1) fun w25 =>
 cs r20.2.1 (
 ldI w25 .i64 b22 0 fun n26 =>
 R [.int .i64 n26, .int .i64 0] w25) (
 nn a0 fun b27 o28 =>
 ldS w25 b27 (o28 + 3) fun s29 =>
 lp [kI] w25 ((s29.len : Int), ()) fun (t30 : Int × Unit) J31 w32 =>
 nn a0 fun b33 o34 =>
 ldB w32 b33 (o34 + 1) fun b35 =>
 jn [kB] w32 (fun (t37 : Bool × Unit) w38 =>
 jn [kB] w38 (fun (t41 : Bool × Unit) w42 =>
 cs t41.1 (
 J31 (w64 (t30.1 - 1), ()) w42) (
 al w42 67 [] fun b44 w45 =>
 nn a0 fun b46 o47 =>
 ldS w45 b46 (o47 + 3) fun s48 =>
 sb s48 0 t30.1 s48.cap 2 fun s49 =>
 ef Pg (Builtin.append_ #[61, 61] 61 #[vS ⟨some ⟨b44, 0, none⟩, 0, 0⟩, vS s49]) [kS] w45 fun (r50 : Sl × Unit) w51 =>
 al w51 67 [.int .i64 a1, .int .i64 a2] fun b52 w53 =>
 ef Pg (Builtin.append_ #[61, 61] 61 #[vS r50.1, vS ⟨some ⟨b52, 0, none⟩, 1, 1⟩]) [kS] w53 fun (r54 : Sl × Unit) w55 =>
 nn a0 fun b56 o57 =>
 ldS w55 b56 (o57 + 3) fun s58 =>
 sb s58 t30.1 s58.len s58.cap 2 fun s59 =>
 ef Pg (Builtin.append_ #[61, 61] 61 #[vS r54.1, vS s59]) [kS] w55 fun (r60 : Sl × Unit) w61 =>
 nn a0 fun b62 o63 =>
 st1 w61 b62 (o63 + 3) (vS r60.1) fun w65 =>
 R [.int .i64 0, .int .i64 0] w65)) fun J40 w43 =>
 cs t37.1 (
 nn a0 fun b66 o67 =>
 ldS w43 b66 (o67 + 3) fun s68 =>
 ix s68 (w64 (t30.1 - 1)) 2 fun b69 o70 =>
 ldI w43 .i64 b69 (o70 + 1) fun n71 =>
 J40 (decide ((n71 : Int) > (a2 : Int)), ()) w43) (
 J40 (false, ()) w43)) fun J36 w39 =>
 cs b35 (
 J36 (decide ((t30.1 : Int) > (0 : Int)), ()) w39) (
 J36 (false, ()) w39))))) fun J1 w4 =>
 cs ((a1 : Int) == (0 : Int)) (
 J1 (true, ()) w4) (
 nn a0 fun b72 o73 =>
 ldB w4 b72 (o73 + 1) fun b74 =>
 jn [kB] w4 (fun (t76 : Bool × Unit) w77 =>
 J1 (t76.1, ()) w77) fun J75 w78 =>
 cs b74 (
 jn [kB] w78 (fun (t80 : Bool × Unit) w81 =>
 J75 (t80.1, ()) w81) fun J79 w82 =>
 cs (decide ((a2 : Int) < (1 : Int))) (
 J79 (true, ()) w82) (
 nn a0 fun b83 o84 =>
 ldI w82 .i64 b83 (o84 + 2) fun n85 =>
 J79 (decide ((a2 : Int) > (n85 : Int)), ()) w82)) (
 J75 (false, ()) w78))
theorem tie15 (a0 : Option Addr) (a1 : Int) (a2 : Int) (R : List Value → World → Prop) (w : World) : compF Pg Try.f15 ⟨[(2, ⟨[(8, kI)], [6, 7, 33, 34, 35, 36, 37, 38, 39, 40, 41, 42, 43, 44, 45, 46, 47, 48, 49, 50, 51]⟩), (8, ⟨[(11, kI)], [68, 69, 70, 71, 72, 73, 74, 75, 76, 77, 78, 79, 80, 81, 82, 83, 84, 85, 86, 87, 88, 89, 90]⟩)], [], [], [(1, [(3, 17, ⟨[(32, kB)], [16, 17, 18, 19, 20, 21, 22, 23, 24, 25, 26, 27, 28, 29, 30, 31]⟩), (8, 11, ⟨[(31, kB)], [21, 22, 23, 24, 25, 26, 27, 28, 29, 30]⟩), (11, 7, ⟨[(30, kB)], [24, 25, 26, 27, 28, 29]⟩)]), (12, [(5, 3, ⟨[(75, kB)], [73, 74]⟩), (9, 12, ⟨[(88, kB)], [77, 78, 79, 80, 81, 82, 83, 84, 85, 86, 87]⟩)])]⟩ [.pointer a0, .int .i64 a1, .int .i64 a2] R w = sh15 a0 a1 a2 R w := by kernel_rfl
theorem call15 {a0 : Option Addr} {a1 : Int} {a2 : Int} {w : World} {K : TK [kI, kI] → World → Prop} (h : sh15 a0 a1 a2 (fun vs w' => ∃ t, encK [kI, kI] t = vs ∧ K t w') w) : cl Pg 15 [.pointer a0, .int .i64 a1, .int .i64 a2] [kI, kI] w K := cl_of Try.func15 (tie15 ..) h
/-- (*detent/detentref14.Box).Poll -/
def sh17 (a0 : Option Addr) (R : List Value → World → Prop) (w : World) : Prop :=
 nn a0 fun b1 o2 =>
 ldS w b1 (o2 + 3) fun s3 =>
 cs (((s3.len : Int) : Int) == (0 : Int)) (
 R [.int .i64 0, .bool false] w) (
 nn a0 fun b4 o5 =>
 ldS w b4 (o5 + 3) fun s6 =>
 ix s6 0 2 fun b7 o8 =>
 ldI w .i64 b7 o8 fun n9 =>
 al w 67 [] fun b10 w11 =>
 nn a0 fun b12 o13 =>
 ldS w11 b12 (o13 + 3) fun s14 =>
 sb s14 1 s14.len s14.cap 2 fun s15 =>
 ef Pg (Builtin.append_ #[61, 61] 61 #[vS ⟨some ⟨b10, 0, none⟩, 0, 0⟩, vS s15]) [kS] w11 fun (r16 : Sl × Unit) w17 =>
 nn a0 fun b18 o19 =>
 st1 w17 b18 (o19 + 3) (vS r16.1) fun w20 =>
 R [.int .i64 n9, .bool true] w20)
theorem tie17 (a0 : Option Addr) (R : List Value → World → Prop) (w : World) : compF Pg Try.f17 ⟨[], [], [], []⟩ [.pointer a0] R w = sh17 a0 R w := by kernel_rfl
theorem call17 {a0 : Option Addr} {w : World} {K : TK [kI, kB] → World → Prop} (h : sh17 a0 (fun vs w' => ∃ t, encK [kI, kB] t = vs ∧ K t w') w) : cl Pg 17 [.pointer a0] [kI, kB] w K := cl_of Try.func17 (tie17 ..) h
/-- (*detent/detentref4.Queue).At -/
def sh37 (a0 : Option Addr) (a1 : Int) (R : List Value → World → Prop) (w : World) : Prop :=
 lp [kI] w ((0 : Int), ()) fun (t1 : Int × Unit) J2 w3 =>
 nn a0 fun b4 o5 =>
 ldS w3 b4 (o5 + 1) fun s6 =>
 cs (decide ((t1.1 : Int) < ((s6.len : Int) : Int))) (
 nn a0 fun b7 o8 =>
 ldS w3 b7 (o8 + 1) fun s9 =>
 ix s9 t1.1 2 fun b10 o11 =>
 ldI w3 .i64 b10 o11 fun n12 =>
 cs ((n12 : Int) == (a1 : Int)) (
 R [.int .i64 t1.1] w3) (
 J2 (w64 (t1.1 + 1), ()) w3)) (
 R [.int .i64 (-1)] w3)
theorem tie37 (a0 : Option Addr) (a1 : Int) (R : List Value → World → Prop) (w : World) : compF Pg Try.f37 ⟨[(1, ⟨[(5, kI)], [4, 6, 7, 8, 9, 10, 11, 12, 13, 14, 15, 16, 17, 18, 19, 20, 21, 22, 23, 24, 25]⟩)], [], [], []⟩ [.pointer a0, .int .i64 a1] R w = sh37 a0 a1 R w := by kernel_rfl
theorem call37 {a0 : Option Addr} {a1 : Int} {w : World} {K : TK [kI] → World → Prop} (h : sh37 a0 a1 (fun vs w' => ∃ t, encK [kI] t = vs ∧ K t w') w) : cl Pg 37 [.pointer a0, .int .i64 a1] [kI] w K := cl_of Try.func37 (tie37 ..) h
/-- (*detent/detentref4.Queue).put -/
def sh40 (a0 : Option Addr) (a1 : (Int × Int × Unit)) (R : List Value → World → Prop) (w : World) : Prop :=
 al w 88 [.int .i64 a1.1, .int .i64 a1.2.1] fun b1 w2 =>
 nn a0 fun b3 o4 =>
 ldS w2 b3 (o4 + 1) fun s5 =>
 nn a0 fun b6 o7 =>
 ldB w2 b6 o7 fun b8 =>
 jn [kI] w2 (fun (t10 : Int × Unit) w11 =>
 dr w11 fun w13 =>
 nn a0 fun b14 o15 =>
 ldS w13 b14 (o15 + 1) fun s16 =>
 sb s16 0 t10.1 s16.cap 2 fun s17 =>
 ldI w13 .i64 b1 0 fun n18 =>
 ldI w13 .i64 b1 (0 + 1) fun n19 =>
(
 al w13 88 [] fun b20 w21 =>
(w21.cell? ⟨b1, 0, none⟩ = some (.int .i64 n18) ∧ w21.cell? ⟨b1, 0 + 1, none⟩ = some (.int .i64 n19)) ∧ (
(w21.cell? ⟨b14, o15 + 1, none⟩ = some (vS s16)) ∧ (
(
 ef Pg (Builtin.append_ #[85, 85] 85 #[vS ⟨some ⟨b20, 0, none⟩, 0, 0⟩, vS s17]) [kS] w21 fun (r22 : Sl × Unit) w23 =>
(w23.cell? ⟨b1, 0, none⟩ = some (.int .i64 n18) ∧ w23.cell? ⟨b1, 0 + 1, none⟩ = some (.int .i64 n19)) ∧ (
 al w23 88 [.int .i64 n18, .int .i64 n19] fun b24 w25 =>
(w25.cell? ⟨b14, o15 + 1, none⟩ = some (vS s16)) ∧ (
 ef Pg (Builtin.append_ #[85, 85] 85 #[vS r22.1, vS ⟨some ⟨b24, 0, none⟩, 1, 1⟩]) [kS] w25 fun (r26 : Sl × Unit) w27 =>
 nn a0 fun b28 o29 =>
 ldS w27 b28 (o29 + 1) fun s30 =>
 sb s30 t10.1 s30.len s30.cap 2 fun s31 =>
 ef Pg (Builtin.append_ #[85, 85] 85 #[vS r26.1, vS s31]) [kS] w27 fun (r32 : Sl × Unit) w33 =>
 nn a0 fun b34 o35 =>
 st1 w33 b34 (o35 + 1) (vS r32.1) fun w36 =>
 R [] w36))) ∧ (
 al w21 88 [.int .i64 n18, .int .i64 n19] fun b37 w38 =>
(w38.cell? ⟨b14, o15 + 1, none⟩ = some (vS s16)) ∧ (
 ef Pg (Builtin.append_ #[85, 85] 85 #[vS ⟨some ⟨b20, 0, none⟩, 0, 0⟩, vS s17]) [kS] w38 fun (r39 : Sl × Unit) w40 =>
(w40.cell? ⟨b1, 0, none⟩ = some (.int .i64 n18) ∧ w40.cell? ⟨b1, 0 + 1, none⟩ = some (.int .i64 n19)) ∧ (
 ef Pg (Builtin.append_ #[85, 85] 85 #[vS r39.1, vS ⟨some ⟨b37, 0, none⟩, 1, 1⟩]) [kS] w40 fun (r41 : Sl × Unit) w42 =>
 nn a0 fun b43 o44 =>
 ldS w42 b43 (o44 + 1) fun s45 =>
 sb s45 t10.1 s45.len s45.cap 2 fun s46 =>
 ef Pg (Builtin.append_ #[85, 85] 85 #[vS r41.1, vS s46]) [kS] w42 fun (r47 : Sl × Unit) w48 =>
 nn a0 fun b49 o50 =>
 st1 w48 b49 (o50 + 1) (vS r47.1) fun w51 =>
 R [] w51)))))) ∧ (
 al w13 88 [.int .i64 n18, .int .i64 n19] fun b52 w53 =>
(w53.cell? ⟨b14, o15 + 1, none⟩ = some (vS s16)) ∧ (
 al w53 88 [] fun b54 w55 =>
(w55.cell? ⟨b1, 0, none⟩ = some (.int .i64 n18) ∧ w55.cell? ⟨b1, 0 + 1, none⟩ = some (.int .i64 n19)) ∧ (
(w55.cell? ⟨b14, o15 + 1, none⟩ = some (vS s16)) ∧ (
 ef Pg (Builtin.append_ #[85, 85] 85 #[vS ⟨some ⟨b54, 0, none⟩, 0, 0⟩, vS s17]) [kS] w55 fun (r56 : Sl × Unit) w57 =>
(w57.cell? ⟨b1, 0, none⟩ = some (.int .i64 n18) ∧ w57.cell? ⟨b1, 0 + 1, none⟩ = some (.int .i64 n19)) ∧ (
 ef Pg (Builtin.append_ #[85, 85] 85 #[vS r56.1, vS ⟨some ⟨b52, 0, none⟩, 1, 1⟩]) [kS] w57 fun (r58 : Sl × Unit) w59 =>
 nn a0 fun b60 o61 =>
 ldS w59 b60 (o61 + 1) fun s62 =>
 sb s62 t10.1 s62.len s62.cap 2 fun s63 =>
 ef Pg (Builtin.append_ #[85, 85] 85 #[vS r58.1, vS s63]) [kS] w59 fun (r64 : Sl × Unit) w65 =>
 nn a0 fun b66 o67 =>
 st1 w65 b66 (o67 + 1) (vS r64.1) fun w68 =>
 R [] w68)))))) fun J9 w12 =>
 cs b8 (
 lp [kI] w12 ((s5.len : Int), ()) fun (t69 : Int × Unit) J70 w71 =>
 dr w71 fun w72 =>
 jn [kB] w72 (fun (t74 : Bool × Unit) w75 =>
 cs t74.1 (
 J70 (w64 (t69.1 - 1), ()) w75) (
 J9 (t69.1, ()) w75)) fun J73 w76 =>
 cs (decide ((t69.1 : Int) > (0 : Int))) (
 nn a0 fun b77 o78 =>
 ldS w76 b77 (o78 + 1) fun s79 =>
 ix s79 (w64 (t69.1 - 1)) 2 fun b80 o81 =>
 ldI w76 .i64 b80 (o81 + 1) fun n82 =>
 ldI w76 .i64 b1 (0 + 1) fun n83 =>
 J73 (decide ((n82 : Int) > (n83 : Int)), ()) w76) (
 J73 (false, ()) w76)) (
 J9 ((s5.len : Int), ()) w12)
theorem tie40 (a0 : Option Addr) (a1 : (Int × Int × Unit)) (R : List Value → World → Prop) (w : World) : compF Pg Try.f40 ⟨[(0, ⟨[(4, kI)], [15, 16, 17, 18, 19, 20, 21, 22, 23, 24, 25, 26, 27, 28, 29, 30, 31, 32]⟩), (2, ⟨[(4, kI)], [15, 16, 17, 18, 19, 20, 21, 22, 23, 24, 25, 26, 27, 28, 29, 30, 31, 32]⟩)], [(3, ⟨[(30, kB)], [15, 16, 17, 18, 19, 20, 21, 22, 23, 24, 25, 26, 27, 28, 29]⟩)], [(5, .t [(1, []), (2, []), (3, []), (4, []), (5, []), (6, []), (8, [])] 0 [] (.t [] 7 [0, 6, 4, 5, 3, 2, 1] (.l [(9, [8]), (10, [7, 9, 0, 6, 8, 4, 5, 3, 2, 1]), (11, [])]) 9 [8] (.l [(7, [0, 6, 4, 5, 3, 2, 1]), (10, [7, 9, 0, 6, 8, 4, 5, 3, 2, 1]), (11, [])])) 9 [8] (.l [(0, []), (7, [0, 6, 4, 5, 3, 2, 1]), (10, [7, 9, 0, 6, 8, 4, 5, 3, 2, 1]), (11, [])])), (3, .l [(0, []), (1, []), (2, []), (3, []), (4, []), (5, []), (6, []), (7, []), (8, []), (9, []), (10, []), (11, []), (12, []), (13, []), (14, []), (15, [])])], []⟩ [.pointer a0, .agg #[.int .i64 a1.1, .int .i64 a1.2.1]] R w = sh40 a0 a1 R w := by kernel_rfl
theorem call40 {a0 : Option Addr} {a1 : (Int × Int × Unit)} {w : World} {K : TK [] → World → Prop} (h : sh40 a0 a1 (fun vs w' => ∃ t, encK [] t = vs ∧ K t w') w) : cl Pg 40 [.pointer a0, .agg #[.int .i64 a1.1, .int .i64 a1.2.1]] [] w K := cl_of Try.func40 (tie40 ..) h
/-- detent/detentref4.Good -/
def sh51 (a0 : Int) (a1 : Int) (R : List Value → World → Prop) (w : World) : Prop :=
 jn [kB] w (fun (t2 : Bool × Unit) w3 =>
 jn [kB] w3 (fun (t6 : Bool × Unit) w7 =>
 jn [kB] w7 (fun (t10 : Bool × Unit) w11 =>
 R [.bool t10.1] w11) fun J9 w12 =>
 cs t6.1 (
 J9 (decide ((a1 : Int) ≤ (16 : Int)), ()) w12) (
 J9 (false, ()) w12)) fun J5 w8 =>
 cs t2.1 (
 J5 (decide ((a1 : Int) ≥ (1 : Int)), ()) w8) (
 J5 (false, ()) w8)) fun J1 w4 =>
 cs (decide ((a0 : Int) ≥ (1 : Int))) (
 J1 (decide ((a0 : Int) ≤ (16 : Int)), ()) w4) (
 J1 (false, ()) w4)
theorem tie51 (a0 : Int) (a1 : Int) (R : List Value → World → Prop) (w : World) : compF Pg Try.f51 ⟨[], [], [], [(1, [(3, 3, ⟨[(10, kB)], [8, 9]⟩), (7, 3, ⟨[(14, kB)], [12, 13]⟩), (11, 3, ⟨[(18, kB)], [16, 17]⟩)])]⟩ [.int .i64 a0, .int .i64 a1] R w = sh51 a0 a1 R w := by kernel_rfl
theorem call51 {a0 : Int} {a1 : Int} {w : World} {K : TK [kB] → World → Prop} (h : sh51 a0 a1 (fun vs w' => ∃ t, encK [kB] t = vs ∧ K t w') w) : cl Pg 51 [.int .i64 a0, .int .i64 a1] [kB] w K := cl_of Try.func51 (tie51 ..) h
/-- (*detent/detentref4.Queue).Add -/
def sh34 (a0 : Option Addr) (a1 : Int) (a2 : Int) (R : List Value → World → Prop) (w : World) : Prop :=
 cl Pg 51 [.int .i64 a1, .int .i64 a2] [kB] w fun (r1 : Bool × Unit) w2 =>
 cs (!r1.1) (
 R [.int .i64 (-17)] w2) (
 cl Pg 37 [.pointer a0, .int .i64 a1] [kI] w2 fun (r3 : Int × Unit) w4 =>
 cs (decide ((r3.1 : Int) ≥ (0 : Int))) (
 R [.int .i64 (-41)] w4) (
 cl Pg 40 [.pointer a0, .agg #[.int .i64 a1, .int .i64 a2]] [] w4 fun (r5 : Unit) w6 =>
 R [.int .i64 0] w6))
theorem tie34 (a0 : Option Addr) (a1 : Int) (a2 : Int) (R : List Value → World → Prop) (w : World) : compF Pg Try.f34 ⟨[], [], [], []⟩ [.pointer a0, .int .i64 a1, .int .i64 a2] R w = sh34 a0 a1 a2 R w := by kernel_rfl
theorem call34 {a0 : Option Addr} {a1 : Int} {a2 : Int} {w : World} {K : TK [kI] → World → Prop} (h : sh34 a0 a1 a2 (fun vs w' => ∃ t, encK [kI] t = vs ∧ K t w') w) : cl Pg 34 [.pointer a0, .int .i64 a1, .int .i64 a2] [kI] w K := cl_of Try.func34 (tie34 ..) h
/-- (*detent/detentref14.Box).Recv -/
def sh16 (a0 : Option Addr) (a1 : Int) (a2 : Int) (R : List Value → World → Prop) (w : World) : Prop :=
 cl Pg 17 [.pointer a0] [kI, kB] w fun (r1 : Int × Bool × Unit) w2 =>
 cs r1.2.1 (
 R [.int .i64 r1.1, .bool true, .int .i64 0] w2) (
 nn a0 fun b3 o4 =>
 ldP w2 b3 o4 fun p5 =>
 cl Pg 34 [.pointer p5, .int .i64 a1, .int .i64 a2] [kI] w2 fun (r6 : Int × Unit) w7 =>
 R [.int .i64 0, .bool false, .int .i64 r6.1] w7)
theorem tie16 (a0 : Option Addr) (a1 : Int) (a2 : Int) (R : List Value → World → Prop) (w : World) : compF Pg Try.f16 ⟨[], [], [], []⟩ [.pointer a0, .int .i64 a1, .int .i64 a2] R w = sh16 a0 a1 a2 R w := by kernel_rfl
theorem call16 {a0 : Option Addr} {a1 : Int} {a2 : Int} {w : World} {K : TK [kI, kB, kI] → World → Prop} (h : sh16 a0 a1 a2 (fun vs w' => ∃ t, encK [kI, kB, kI] t = vs ∧ K t w') w) : cl Pg 16 [.pointer a0, .int .i64 a1, .int .i64 a2] [kI, kB, kI] w K := cl_of Try.func16 (tie16 ..) h
/-- (*detent/detentref4.Queue).Remove -/
def sh19 (a0 : Option Addr) (a1 : Int) (R : List Value → World → Prop) (w : World) : Prop :=
 cl Pg 37 [.pointer a0, .int .i64 a1] [kI] w fun (r1 : Int × Unit) w2 =>
 cs (decide ((r1.1 : Int) < (0 : Int))) (
 R [.bool false] w2) (
 al w2 88 [] fun b3 w4 =>
 nn a0 fun b5 o6 =>
 ldS w4 b5 (o6 + 1) fun s7 =>
 sb s7 0 r1.1 s7.cap 2 fun s8 =>
 ef Pg (Builtin.append_ #[85, 85] 85 #[vS ⟨some ⟨b3, 0, none⟩, 0, 0⟩, vS s8]) [kS] w4 fun (r9 : Sl × Unit) w10 =>
 nn a0 fun b11 o12 =>
 ldS w10 b11 (o12 + 1) fun s13 =>
 sb s13 (w64 (r1.1 + 1)) s13.len s13.cap 2 fun s14 =>
 ef Pg (Builtin.append_ #[85, 85] 85 #[vS r9.1, vS s14]) [kS] w10 fun (r15 : Sl × Unit) w16 =>
 nn a0 fun b17 o18 =>
 st1 w16 b17 (o18 + 1) (vS r15.1) fun w19 =>
 R [.bool true] w19)
theorem tie19 (a0 : Option Addr) (a1 : Int) (R : List Value → World → Prop) (w : World) : compF Pg Try.f19 ⟨[], [], [], []⟩ [.pointer a0, .int .i64 a1] R w = sh19 a0 a1 R w := by kernel_rfl
theorem call19 {a0 : Option Addr} {a1 : Int} {w : World} {K : TK [kB] → World → Prop} (h : sh19 a0 a1 (fun vs w' => ∃ t, encK [kB] t = vs ∧ K t w') w) : cl Pg 19 [.pointer a0, .int .i64 a1] [kB] w K := cl_of Try.func19 (tie19 ..) h
/-- (*detent/order.Queue).Change -/
def sh20 (a0 : Option Addr) (a1 : Int) (a2 : Int) (R : List Value → World → Prop) (w : World) : Prop :=
 nn a0 fun b1 o2 =>
 cl Pg 35 [.pointer (some ⟨b1, o2, none⟩), .int .i64 a1] [kI] w fun (r3 : Int × Unit) w4 =>
 jn [kB] w4 (fun (t6 : Bool × Unit) w7 =>
 cs t6.1 (
 R [.bool false] w7) (
 nn a0 fun b9 o10 =>
 ldB w7 b9 (o10 + 1) fun b11 =>
 cs (!b11) (
 nn a0 fun b12 o13 =>
 ldS w7 b12 o13 fun s14 =>
 ix s14 r3.1 2 fun b15 o16 =>
 st1 w7 b15 (o16 + 1) (.int .i64 a2) fun w17 =>
 R [.bool true] w17) (
 nn a0 fun b18 o19 =>
 cl Pg 18 [.pointer (some ⟨b18, o19, none⟩), .int .i64 a1] [kB] w7 fun (r20 : Bool × Unit) w21 =>
 cl Pg 39 [.pointer a0, .agg #[.int .i64 a1, .int .i64 a2]] [] w21 fun (r22 : Unit) w23 =>
 R [.bool true] w23))) fun J5 w8 =>
 cs (decide ((r3.1 : Int) < (0 : Int))) (
 J5 (true, ()) w8) (
 cl Pg 38 [.int .i64 a2] [kB] w8 fun (r24 : Bool × Unit) w25 =>
 J5 (!r24.1, ()) w25)
theorem tie20 (a0 : Option Addr) (a1 : Int) (a2 : Int) (R : List Value → World → Prop) (w : World) : compF Pg Try.f20 ⟨[], [], [], [(2, [(3, 4, ⟨[(19, kB)], [16, 17, 18]⟩)])]⟩ [.pointer a0, .int .i64 a1, .int .i64 a2] R w = sh20 a0 a1 a2 R w := by kernel_rfl
theorem call20 {a0 : Option Addr} {a1 : Int} {a2 : Int} {w : World} {K : TK [kB] → World → Prop} (h : sh20 a0 a1 a2 (fun vs w' => ∃ t, encK [kB] t = vs ∧ K t w') w) : cl Pg 20 [.pointer a0, .int .i64 a1, .int .i64 a2] [kB] w K := cl_of Try.func20 (tie20 ..) h
/-- (*detent/detentref4.Queue).Change -/
def sh21 (a0 : Option Addr) (a1 : Int) (a2 : Int) (R : List Value → World → Prop) (w : World) : Prop :=
 cl Pg 37 [.pointer a0, .int .i64 a1] [kI] w fun (r1 : Int × Unit) w2 =>
 jn [kB] w2 (fun (t4 : Bool × Unit) w5 =>
 jn [kB] w5 (fun (t8 : Bool × Unit) w9 =>
 cs t8.1 (
 R [.bool false] w9) (
 nn a0 fun b11 o12 =>
 ldB w9 b11 o12 fun b13 =>
 cs b13 (
 cl Pg 19 [.pointer a0, .int .i64 a1] [kB] w9 fun (r14 : Bool × Unit) w15 =>
 cl Pg 40 [.pointer a0, .agg #[.int .i64 a1, .int .i64 a2]] [] w15 fun (r16 : Unit) w17 =>
 R [.bool true] w17) (
 al w9 88 [] fun b18 w19 =>
 nn a0 fun b20 o21 =>
 ldS w19 b20 (o21 + 1) fun s22 =>
 ef Pg (Builtin.append_ #[85, 85] 85 #[vS ⟨some ⟨b18, 0, none⟩, 0, 0⟩, vS s22]) [kS] w19 fun (r23 : Sl × Unit) w24 =>
 nn a0 fun b25 o26 =>
 st1 w24 b25 (o26 + 1) (vS r23.1) fun w27 =>
 nn a0 fun b28 o29 =>
 ldS w27 b28 (o29 + 1) fun s30 =>
 ix s30 r1.1 2 fun b31 o32 =>
 st1 w27 b31 (o32 + 1) (.int .i64 a2) fun w33 =>
 R [.bool true] w33))) fun J7 w10 =>
 cs t4.1 (
 J7 (true, ()) w10) (
 J7 (decide ((a2 : Int) > (16 : Int)), ()) w10)) fun J3 w6 =>
 cs (decide ((r1.1 : Int) < (0 : Int))) (
 J3 (true, ()) w6) (
 J3 (decide ((a2 : Int) < (1 : Int)), ()) w6)
theorem tie21 (a0 : Option Addr) (a1 : Int) (a2 : Int) (R : List Value → World → Prop) (w : World) : compF Pg Try.f21 ⟨[], [], [], [(2, [(3, 3, ⟨[(16, kB)], [14, 15]⟩), (7, 3, ⟨[(20, kB)], [18, 19]⟩)])]⟩ [.pointer a0, .int .i64 a1, .int .i64 a2] R w = sh21 a0 a1 a2 R w := by kernel_rfl
theorem call21 {a0 : Option Addr} {a1 : Int} {a2 : Int} {w : World} {K : TK [kB] → World → Prop} (h : sh21 a0 a1 a2 (fun vs w' => ∃ t, encK [kB] t = vs ∧ K t w') w) : cl Pg 21 [.pointer a0, .int .i64 a1, .int .i64 a2] [kB] w K := cl_of Try.func21 (tie21 ..) h
/-- slices.Clone[[]detent/order.Item,detent/order.Item] -/
def sh55 (a0 : Sl) (R : List Value → World → Prop) (w : World) : Prop :=
 cs a0.a.isNone (
 R [.slice none 0 0] w) (
 al w 77 [] fun b1 w2 =>
 ef Pg (Builtin.append_ #[43, 43] 43 #[vS ⟨some ⟨b1, 0, none⟩, 0, 0⟩, vS a0]) [kS] w2 fun (r3 : Sl × Unit) w4 =>
 R [vS r3.1] w4)
theorem tie55 (a0 : Sl) (R : List Value → World → Prop) (w : World) : compF Pg Try.f55 ⟨[], [], [], []⟩ [vS a0] R w = sh55 a0 R w := by kernel_rfl
theorem call55 {a0 : Sl} {w : World} {K : TK [kS] → World → Prop} (h : sh55 a0 (fun vs w' => ∃ t, encK [kS] t = vs ∧ K t w') w) : cl Pg 55 [vS a0] [kS] w K := cl_of Try.func55 (tie55 ..) h
/-- (*detent/order.Queue).Twin -/
def sh41 (a0 : Option Addr) (R : List Value → World → Prop) (w : World) : Prop :=
 dr w fun w1 =>
 nn a0 fun b2 o3 =>
 ldS w1 b2 o3 fun s4 =>
 nn a0 fun b5 o6 =>
 ldB w1 b5 (o6 + 1) fun b7 =>
 cl Pg 55 [vS s4] [kS] w1 fun (r8 : Sl × Unit) w9 =>
(w9.cell? ⟨b5, o6 + 1, none⟩ = some (.bool b7)) ∧ (
 al w9 47 [vS r8.1, .bool b7] fun b10 w11 =>
 R [.pointer (some ⟨b10, 0, none⟩)] w11)
theorem tie41 (a0 : Option Addr) (R : List Value → World → Prop) (w : World) : compF Pg Try.f41 ⟨[], [], [(1, .l [(0, []), (1, []), (2, []), (3, []), (4, []), (7, []), (8, []), (9, []), (10, []), (5, [4, 3, 2, 1, 0]), (6, []), (11, []), (12, [11, 6, 10, 5, 9, 4, 8, 3, 7, 2, 1, 0]), (13, [])])], []⟩ [.pointer a0] R w = sh41 a0 R w := by kernel_rfl
theorem call41 {a0 : Option Addr} {w : World} {K : TK [kP] → World → Prop} (h : sh41 a0 (fun vs w' => ∃ t, encK [kP] t = vs ∧ K t w') w) : cl Pg 41 [.pointer a0] [kP] w K := cl_of Try.func41 (tie41 ..) h
/-- slices.Clone[[]detent/mbx.message,detent/mbx.message] -/
def sh42 (a0 : Sl) (R : List Value → World → Prop) (w : World) : Prop :=
 cs a0.a.isNone (
 R [.slice none 0 0] w) (
 al w 74 [] fun b1 w2 =>
 ef Pg (Builtin.append_ #[40, 40] 40 #[vS ⟨some ⟨b1, 0, none⟩, 0, 0⟩, vS a0]) [kS] w2 fun (r3 : Sl × Unit) w4 =>
 R [vS r3.1] w4)
theorem tie42 (a0 : Sl) (R : List Value → World → Prop) (w : World) : compF Pg Try.f42 ⟨[], [], [], []⟩ [vS a0] R w = sh42 a0 R w := by kernel_rfl
theorem call42 {a0 : Sl} {w : World} {K : TK [kS] → World → Prop} (h : sh42 a0 (fun vs w' => ∃ t, encK [kS] t = vs ∧ K t w') w) : cl Pg 42 [vS a0] [kS] w K := cl_of Try.func42 (tie42 ..) h
/-- (*detent/mbx.Box).Apart -/
def sh22 (a0 : Option Addr) (R : List Value → World → Prop) (w : World) : Prop :=
 dr w fun w1 =>
 nn a0 fun b2 o3 =>
 ldP w1 b2 o3 fun p4 =>
 nn a0 fun b5 o6 =>
 ldB w1 b5 (o6 + 1) fun b7 =>
 nn a0 fun b8 o9 =>
 ldI w1 .i64 b8 (o9 + 2) fun n10 =>
 nn a0 fun b11 o12 =>
 ldS w1 b11 (o12 + 3) fun s13 =>
 cl Pg 41 [.pointer p4] [kP] w1 fun (r14 : Option Addr × Unit) w15 =>
(w15.cell? ⟨b11, o12 + 3, none⟩ = some (vS s13)) ∧ (
(w15.cell? ⟨b8, o9 + 2, none⟩ = some (.int .i64 n10)) ∧ (
(w15.cell? ⟨b5, o6 + 1, none⟩ = some (.bool b7)) ∧ (
 cl Pg 42 [vS s13] [kS] w15 fun (r16 : Sl × Unit) w17 =>
(w17.cell? ⟨b8, o9 + 2, none⟩ = some (.int .i64 n10)) ∧ (
(w17.cell? ⟨b5, o6 + 1, none⟩ = some (.bool b7)) ∧ (
 al w17 42 [.pointer r14.1, .bool b7, .int .i64 n10, vS r16.1] fun b18 w19 =>
 R [.pointer (some ⟨b18, 0, none⟩)] w19)))))
theorem tie22 (a0 : Option Addr) (R : List Value → World → Prop) (w : World) : compF Pg Try.f22 ⟨[], [], [(1, .l [(0, []), (1, []), (2, []), (3, []), (5, []), (6, []), (7, []), (8, []), (9, []), (10, []), (11, []), (12, []), (13, []), (14, []), (15, []), (16, []), (4, [3, 2, 1, 0]), (17, [16, 4, 15, 3, 14, 2, 13, 1, 0]), (18, []), (19, [18, 4, 8, 12, 17, 3, 7, 11, 16, 2, 6, 10, 15, 1, 5, 9, 14, 0, 13]), (20, [])])], []⟩ [.pointer a0] R w = sh22 a0 R w := by kernel_rfl
theorem call22 {a0 : Option Addr} {w : World} {K : TK [kP] → World → Prop} (h : sh22 a0 (fun vs w' => ∃ t, encK [kP] t = vs ∧ K t w') w) : cl Pg 22 [.pointer a0] [kP] w K := cl_of Try.func22 (tie22 ..) h
/-- detent/detentlaw3.Same -/
def sh23 (a0 : Sl) (a1 : Sl) (R : List Value → World → Prop) (w : World) : Prop :=
 cs (((a0.len : Int) : Int) != ((a1.len : Int) : Int)) (
 R [.bool false] w) (
 lp [kI] w ((0 : Int), ()) fun (t1 : Int × Unit) J2 w3 =>
 cs (decide ((t1.1 : Int) < ((a0.len : Int) : Int))) (
 dr w3 fun w4 =>
 ix a0 t1.1 1 fun b5 o6 =>
 ldI w4 .i64 b5 o6 fun n7 =>
 ix a1 t1.1 1 fun b8 o9 =>
 ldI w4 .i64 b8 o9 fun n10 =>
 cs ((n7 : Int) != (n10 : Int)) (
 R [.bool false] w4) (
 J2 (w64 (t1.1 + 1), ()) w4)) (
 R [.bool true] w3))
theorem tie23 (a0 : Sl) (a1 : Sl) (R : List Value → World → Prop) (w : World) : compF Pg Try.f23 ⟨[(2, ⟨[(5, kI)], [4, 11, 12, 13, 14, 15, 16, 17, 18, 19, 20, 21, 22, 23, 24, 25]⟩)], [], [(6, .l [(0, []), (1, []), (2, []), (3, []), (4, []), (5, []), (6, []), (7, []), (8, [])])], []⟩ [vS a0, vS a1] R w = sh23 a0 a1 R w := by kernel_rfl
theorem call23 {a0 : Sl} {a1 : Sl} {w : World} {K : TK [kB] → World → Prop} (h : sh23 a0 a1 (fun vs w' => ∃ t, encK [kB] t = vs ∧ K t w') w) : cl Pg 23 [vS a0, vS a1] [kB] w K := cl_of Try.func23 (tie23 ..) h
/-- detent/detentlaw4.Row -/
def sh43 (a0 : Sl) (a1 : Sl) (R : List Value → World → Prop) (w : World) : Prop :=
 cs (((a0.len : Int) : Int) != ((a1.len : Int) : Int)) (
 R [.bool false] w) (
 lp [kI] w ((0 : Int), ()) fun (t1 : Int × Unit) J2 w3 =>
 cs (decide ((t1.1 : Int) < ((a0.len : Int) : Int))) (
 dr w3 fun w4 =>
 jn [kB] w4 (fun (t6 : Bool × Unit) w7 =>
 cs t6.1 (
 R [.bool false] w7) (
 J2 (w64 (t1.1 + 1), ()) w7)) fun J5 w8 =>
 ix a0 t1.1 2 fun b9 o10 =>
 ldI w8 .i64 b9 o10 fun n11 =>
 ix a1 t1.1 2 fun b12 o13 =>
 ldI w8 .i64 b12 o13 fun n14 =>
 cs ((n11 : Int) != (n14 : Int)) (
 J5 (true, ()) w8) (
 ix a0 t1.1 2 fun b15 o16 =>
 ldI w8 .i64 b15 (o16 + 1) fun n17 =>
 ix a1 t1.1 2 fun b18 o19 =>
 ldI w8 .i64 b18 (o19 + 1) fun n20 =>
 J5 ((n17 : Int) != (n20 : Int), ()) w8)) (
 R [.bool true] w3))
theorem tie43 (a0 : Sl) (a1 : Sl) (R : List Value → World → Prop) (w : World) : compF Pg Try.f43 ⟨[(2, ⟨[(5, kI)], [4, 11, 12, 13, 14, 15, 16, 17, 18, 19, 20, 21, 22, 23, 24, 25, 26, 27, 28, 29, 30, 31, 32, 33, 34, 35, 36, 37, 38, 39, 40]⟩)], [(6, ⟨[(40, kB)], [17, 18, 19, 20, 21, 22, 23, 24, 25, 26, 27, 28, 29, 30, 31, 32, 33, 34, 35, 36, 37, 38, 39]⟩)], [(6, .l [(0, []), (1, []), (2, []), (3, []), (4, []), (5, []), (6, []), (7, []), (8, []), (9, []), (10, []), (11, []), (12, []), (13, []), (14, []), (15, []), (16, []), (17, []), (18, []), (19, []), (20, []), (21, []), (22, []), (23, [])])], []⟩ [vS a0, vS a1] R w = sh43 a0 a1 R w := by kernel_rfl
theorem call43 {a0 : Sl} {a1 : Sl} {w : World} {K : TK [kB] → World → Prop} (h : sh43 a0 a1 (fun vs w' => ∃ t, encK [kB] t = vs ∧ K t w') w) : cl Pg 43 [vS a0, vS a1] [kB] w K := cl_of Try.func43 (tie43 ..) h
/-- slices.Clip[[]detent/order.Item,detent/order.Item] -/
def sh56 (a0 : Sl) (R : List Value → World → Prop) (w : World) : Prop :=
 sb a0 0 (a0.len : Int) (a0.len : Int) 2 fun s1 =>
 R [vS s1] w
theorem tie56 (a0 : Sl) (R : List Value → World → Prop) (w : World) : compF Pg Try.f56 ⟨[], [], [], []⟩ [vS a0] R w = sh56 a0 R w := by kernel_rfl
theorem call56 {a0 : Sl} {w : World} {K : TK [kS] → World → Prop} (h : sh56 a0 (fun vs w' => ∃ t, encK [kS] t = vs ∧ K t w') w) : cl Pg 56 [vS a0] [kS] w K := cl_of Try.func56 (tie56 ..) h
/-- (*detent/order.Line).Row -/
def sh44 (a0 : Option Addr) (R : List Value → World → Prop) (w : World) : Prop :=
 nn a0 fun b1 o2 =>
 ldS w b1 o2 fun s3 =>
 cl Pg 55 [vS s3] [kS] w fun (r4 : Sl × Unit) w5 =>
 cl Pg 56 [vS r4.1] [kS] w5 fun (r6 : Sl × Unit) w7 =>
 R [vS r6.1] w7
theorem tie44 (a0 : Option Addr) (R : List Value → World → Prop) (w : World) : compF Pg Try.f44 ⟨[], [], [], []⟩ [.pointer a0] R w = sh44 a0 R w := by kernel_rfl
theorem call44 {a0 : Option Addr} {w : World} {K : TK [kS] → World → Prop} (h : sh44 a0 (fun vs w' => ∃ t, encK [kS] t = vs ∧ K t w') w) : cl Pg 44 [.pointer a0] [kS] w K := cl_of Try.func44 (tie44 ..) h
/-- (*detent/order.Line).Pri -/
def sh46 (a0 : Option Addr) (a1 : Int) (R : List Value → World → Prop) (w : World) : Prop :=
 cl Pg 35 [.pointer a0, .int .i64 a1] [kI] w fun (r1 : Int × Unit) w2 =>
 cs (decide ((r1.1 : Int) < (0 : Int))) (
 R [.int .i64 0, .bool false] w2) (
 nn a0 fun b3 o4 =>
 ldS w2 b3 o4 fun s5 =>
 ix s5 r1.1 2 fun b6 o7 =>
 ldI w2 .i64 b6 (o7 + 1) fun n8 =>
 R [.int .i64 n8, .bool true] w2)
theorem tie46 (a0 : Option Addr) (a1 : Int) (R : List Value → World → Prop) (w : World) : compF Pg Try.f46 ⟨[], [], [], []⟩ [.pointer a0, .int .i64 a1] R w = sh46 a0 a1 R w := by kernel_rfl
theorem call46 {a0 : Option Addr} {a1 : Int} {w : World} {K : TK [kI, kB] → World → Prop} (h : sh46 a0 a1 (fun vs w' => ∃ t, encK [kI, kB] t = vs ∧ K t w') w) : cl Pg 46 [.pointer a0, .int .i64 a1] [kI, kB] w K := cl_of Try.func46 (tie46 ..) h
/-- detent/detentlaw4.Same -/
def sh24 (a0 : Option Addr) (a1 : Option Addr) (R : List Value → World → Prop) (w : World) : Prop :=
 dr w fun w1 =>
 jn [kB] w1 (fun (t3 : Bool × Unit) w4 =>
 cs t3.1 (
 R [.bool false] w4) (
 nn a0 fun b6 o7 =>
 cl Pg 45 [.pointer (some ⟨b6, o7, none⟩)] [.a [(.i .i64), (.i .i64)], kB] w4 fun (r8 : (Int × Int × Unit) × Bool × Unit) w9 =>
 al w9 77 [.int .i64 0, .int .i64 0] fun b10 w11 =>
 st1 w11 b10 0 (.int .i64 r8.1.1) fun w12 =>
 st1 w12 b10 (0 + 1) (.int .i64 r8.1.2.1) fun w13 =>
 dr w13 fun w14 =>
 jn [kB] w14 (fun (t16 : Bool × Unit) w17 =>
 cs t16.1 (
 R [.bool false] w17) (
 lp [kI] w17 ((0 : Int), ()) fun (t19 : Int × Unit) J20 w21 =>
 cs (decide ((t19.1 : Int) ≤ (17 : Int))) (
 cl Pg 37 [.pointer a1, .int .i64 t19.1] [kI] w21 fun (r22 : Int × Unit) w23 =>
 nn a0 fun b24 o25 =>
 cl Pg 46 [.pointer (some ⟨b24, o25, none⟩), .int .i64 t19.1] [kI, kB] w23 fun (r26 : Int × Bool × Unit) w27 =>
 nn a0 fun b28 o29 =>
 cl Pg 47 [.pointer (some ⟨b28, o29, none⟩), .int .i64 t19.1] [kB] w27 fun (r30 : Bool × Unit) w31 =>
 jn [kB] w31 (fun (t33 : Bool × Unit) w34 =>
 jn [kB] w34 (fun (t37 : Bool × Unit) w38 =>
 jn [kB] w38 (fun (t41 : Bool × Unit) w42 =>
 cs t41.1 (
 R [.bool false] w42) (
 J20 (w64 (t19.1 + 1), ()) w42)) fun J40 w43 =>
 cs t37.1 (
 J40 (true, ()) w43) (
 jn [kB] w43 (fun (t45 : Bool × Unit) w46 =>
 J40 (t45.1, ()) w46) fun J44 w47 =>
 cs (decide ((r22.1 : Int) < (0 : Int))) (
 J44 ((r26.1 : Int) != (0 : Int), ()) w47) (
 J44 (false, ()) w47))) fun J36 w39 =>
 cs t33.1 (
 J36 (true, ()) w39) (
 jn [kB] w39 (fun (t49 : Bool × Unit) w50 =>
 J36 (t49.1, ()) w50) fun J48 w51 =>
 cs (decide ((r22.1 : Int) ≥ (0 : Int))) (
 nn a1 fun b52 o53 =>
 ldS w51 b52 (o53 + 1) fun s54 =>
 ix s54 r22.1 2 fun b55 o56 =>
 ldI w51 .i64 b55 (o56 + 1) fun n57 =>
 J48 ((r26.1 : Int) != (n57 : Int), ()) w51) (
 J48 (false, ()) w51))) fun J32 w35 =>
 cs (!(r30.1 == (decide ((r22.1 : Int) ≥ (0 : Int))))) (
 J32 (true, ()) w35) (
 J32 (!(r26.2.1 == (decide ((r22.1 : Int) ≥ (0 : Int)))), ()) w35)) (
 R [.bool true] w21))) fun J15 w18 =>
 nn a1 fun b58 o59 =>
 ldS w18 b58 (o59 + 1) fun s60 =>
 cs (!(r8.2.1 == (decide (((s60.len : Int) : Int) > (0 : Int))))) (
 J15 (true, ()) w18) (
 cs r8.2.1 (
 ldI w18 .i64 b10 0 fun n61 =>
 nn a1 fun b62 o63 =>
 ldS w18 b62 (o63 + 1) fun s64 =>
 ix s64 0 2 fun b65 o66 =>
 ldI w18 .i64 b65 o66 fun n67 =>
 cs ((n61 : Int) != (n67 : Int)) (
 J15 (true, ()) w18) (
 ldI w18 .i64 b10 (0 + 1) fun n68 =>
 nn a1 fun b69 o70 =>
 ldS w18 b69 (o70 + 1) fun s71 =>
 ix s71 0 2 fun b72 o73 =>
 ldI w18 .i64 b72 (o73 + 1) fun n74 =>
 cs ((n68 : Int) != (n74 : Int)) (
 J15 (true, ()) w18) (
 cs (!r8.2.1) (
 ldI w18 .i64 b10 0 fun n75 =>
 cs ((n75 : Int) != (0 : Int)) (
 J15 (true, ()) w18) (
 ldI w18 .i64 b10 (0 + 1) fun n76 =>
 J15 ((n76 : Int) != (0 : Int), ()) w18)) (
 J15 (false, ()) w18)))) (
 cs (!r8.2.1) (
 ldI w18 .i64 b10 0 fun n77 =>
 cs ((n77 : Int) != (0 : Int)) (
 J15 (true, ()) w18) (
 ldI w18 .i64 b10 (0 + 1) fun n78 =>
 J15 ((n78 : Int) != (0 : Int), ()) w18)) (
 J15 (false, ()) w18))))) fun J2 w5 =>
 nn a0 fun b79 o80 =>
 nn a1 fun b81 o82 =>
 ldS w5 b81 (o82 + 1) fun s83 =>
 cl Pg 44 [.pointer (some ⟨b79, o80, none⟩)] [kS] w5 fun (r84 : Sl × Unit) w85 =>
(w85.cell? ⟨b81, o82 + 1, none⟩ = some (vS s83)) ∧ (
 cl Pg 43 [vS r84.1, vS s83] [kB] w85 fun (r86 : Bool × Unit) w87 =>
 cs (!r86.1) (
 J2 (true, ()) w87) (
 nn a0 fun b88 o89 =>
 nn a1 fun b90 o91 =>
 ldS w87 b90 (o91 + 1) fun s92 =>
 cl Pg 13 [.pointer (some ⟨b88, o89, none⟩)] [kI] w87 fun (r93 : Int × Unit) w94 =>
(w94.cell? ⟨b90, o91 + 1, none⟩ = some (vS s92)) ∧ (
 J2 ((r93.1 : Int) != ((s92.len : Int) : Int), ()) w94)))
theorem tie24 (a0 : Option Addr) (a1 : Option Addr) (R : List Value → World → Prop) (w : World) : compF Pg Try.f24 ⟨[(3, ⟨[(7, kI)], [4, 8, 9, 10, 89, 90, 91, 92, 93, 94, 95, 96, 97, 98, 99, 100, 101, 102, 103, 104, 105, 106, 107, 108, 109, 110, 111, 112, 113, 114, 115, 116, 117, 118, 119, 120, 121, 122, 123, 124, 125, 126, 127, 128, 129, 130, 131, 132, 133, 134, 135, 136, 137, 138, 139, 140, 141]⟩)], [(1, ⟨[(32, kB)], [11, 12, 13, 14, 15, 16, 17, 18, 19, 20, 21, 22, 23, 24, 25, 26, 27, 28, 29, 30, 31]⟩), (4, ⟨[(88, kB)], [40, 41, 42, 43, 44, 45, 46, 47, 48, 49, 50, 51, 52, 53, 54, 55, 56, 57, 58, 59, 60, 61, 62, 63, 64, 65, 66, 67, 68, 69, 70, 71, 72, 73, 74, 75, 76, 77, 78, 79, 80, 81, 82, 83, 84, 85, 86, 87]⟩)], [(1, .l [(0, []), (1, []), (2, []), (4, []), (5, []), (6, []), (7, []), (3, [2, 1, 0]), (8, [3, 7, 2, 6, 1, 5, 0, 4]), (9, []), (10, []), (11, []), (12, []), (13, []), (15, []), (16, []), (17, []), (18, []), (19, []), (14, [13, 10, 12, 9, 8, 11, 3, 7, 2, 6, 1, 5, 0, 4]), (20, []), (21, [])]), (4, .l [(0, []), (1, []), (2, []), (3, []), (4, []), (5, []), (6, []), (7, []), (8, []), (9, []), (10, []), (11, []), (12, []), (13, []), (14, []), (15, []), (16, []), (17, []), (18, []), (19, []), (20, []), (21, []), (22, []), (23, []), (24, []), (25, []), (26, []), (27, []), (28, []), (29, []), (30, []), (31, []), (32, []), (33, []), (34, []), (35, []), (36, []), (37, []), (38, []), (39, []), (40, []), (41, []), (42, []), (43, []), (44, []), (45, []), (46, []), (47, []), (48, [])])], [(11, [(9, 5, ⟨[(117, kB)], [113, 114, 115, 116]⟩), (15, 15, ⟨[(133, kB)], [119, 120, 121, 122, 123, 124, 125, 126, 127, 128, 129, 130, 131, 132]⟩), (18, 11, ⟨[(132, kB)], [122, 123, 124, 125, 126, 127, 128, 129, 130, 131]⟩), (31, 7, ⟨[(141, kB)], [135, 136, 137, 138, 139, 140]⟩), (34, 3, ⟨[(140, kB)], [138, 139]⟩)])]⟩ [.pointer a0, .pointer a1] R w = sh24 a0 a1 R w := by kernel_rfl
theorem call24 {a0 : Option Addr} {a1 : Option Addr} {w : World} {K : TK [kB] → World → Prop} (h : sh24 a0 a1 (fun vs w' => ∃ t, encK [kB] t = vs ∧ K t w') w) : cl Pg 24 [.pointer a0, .pointer a1] [kB] w K := cl_of Try.func24 (tie24 ..) h
/-- detent/detentlaw14.BoxPlays -/
def sh6 (a0 : Bool) (a1 : Bool) (a2 : Int) (a3 : Sl) (R : List Value → World → Prop) (w : World) : Prop :=
 cl Pg 7 [] [kB] w fun (r1 : Bool × Unit) w2 =>
 cs (!r1.1) (
 R [.bool false] w2) (
 cs (decide (((a3.len : Int) : Int) > (100 : Int))) (
 R [.bool true] w2) (
 cl Pg 8 [.bool a0, .bool a1, .int .i64 a2] [kP, kI] w2 fun (r3 : Option Addr × Int × Unit) w4 =>
 cl Pg 14 [.bool a0, .bool a1, .int .i64 a2] [kP, kI] w4 fun (r5 : Option Addr × Int × Unit) w6 =>
 jn [kB] w6 (fun (t8 : Bool × Unit) w9 =>
 cs t8.1 (
 R [.bool false] w9) (
 cs r5.1.isNone (
 R [.bool true] w9) (
 lp [kP, kI] w9 (r3.1, (0 : Int), ()) fun (t11 : Option Addr × Int × Unit) J12 w13 =>
 cs (decide ((t11.2.1 : Int) < ((a3.len : Int) : Int))) (
 ix a3 t11.2.1 4 fun b14 o15 =>
 ldI w13 .i64 b14 o15 fun n16 =>
 ldI w13 .i64 b14 (o15 + 1) fun n17 =>
 ldI w13 .i64 b14 (o15 + 2) fun n18 =>
 ldI w13 .i64 b14 (o15 + 3) fun n19 =>
 al w13 54 [.int .i64 0, .int .i64 0, .int .i64 0, .int .i64 0] fun b20 w21 =>
 st1 w21 b20 0 (.int .i64 n16) fun w22 =>
 st1 w22 b20 (0 + 1) (.int .i64 n17) fun w23 =>
 st1 w23 b20 (0 + 2) (.int .i64 n18) fun w24 =>
 st1 w24 b20 (0 + 3) (.int .i64 n19) fun w25 =>
 ldI w25 .i64 b20 0 fun n26 =>
 jn [kP] w25 (fun (t28 : Option Addr × Unit) w29 =>
 lp [kS, kI] w29 (⟨none, 0, 0⟩, (0 : Int), ()) fun (t31 : Sl × Int × Unit) J32 w33 =>
 nn r5.1 fun b34 o35 =>
 ldS w33 b34 (o35 + 3) fun s36 =>
 cs (decide ((t31.2.1 : Int) < ((s36.len : Int) : Int))) (
 nn r5.1 fun b37 o38 =>
 ldS w33 b37 (o38 + 3) fun s39 =>
 ix s39 t31.2.1 2 fun b40 o41 =>
 ldI w33 .i64 b40 o41 fun n42 =>
 al w33 3 [.int .i64 n42] fun b43 w44 =>
 ef Pg (Builtin.append_ #[33, 33] 33 #[vS t31.1, vS ⟨some ⟨b43, 0, none⟩, 1, 1⟩]) [kS] w44 fun (r45 : Sl × Unit) w46 =>
 J32 (r45.1, w64 (t31.2.1 + 1), ()) w46) (
 dr w33 fun w47 =>
 jn [kB] w47 (fun (t49 : Bool × Unit) w50 =>
 cs t49.1 (
 R [.bool false] w50) (
 J12 (t28.1, w64 (t11.2.1 + 1), ()) w50)) fun J48 w51 =>
 cl Pg 11 [.pointer t28.1] [kS] w51 fun (r52 : Sl × Unit) w53 =>
 cl Pg 23 [vS r52.1, vS t31.1] [kB] w53 fun (r54 : Bool × Unit) w55 =>
 cs (!r54.1) (
 J48 (true, ()) w55) (
 nn t28.1 fun b56 o57 =>
 ldP w55 b56 o57 fun p58 =>
 nn r5.1 fun b59 o60 =>
 ldP w55 b59 o60 fun p61 =>
 cl Pg 24 [.pointer p58, .pointer p61] [kB] w55 fun (r62 : Bool × Unit) w63 =>
 J48 (!r62.1, ()) w63))) fun J27 w30 =>
 cs ((n26 : Int) == (1 : Int)) (
 ldI w30 .i64 b20 (0 + 3) fun n64 =>
 ldI w30 .i64 b20 (0 + 2) fun n65 =>
 cl Pg 9 [.pointer t11.1, .int .i64 n64, .int .i64 n65] [kI, kI] w30 fun (r66 : Int × Int × Unit) w67 =>
 ldI w67 .i64 b20 (0 + 3) fun n68 =>
 ldI w67 .i64 b20 (0 + 2) fun n69 =>
 cl Pg 15 [.pointer r5.1, .int .i64 n68, .int .i64 n69] [kI, kI] w67 fun (r70 : Int × Int × Unit) w71 =>
 jn [kB] w71 (fun (t73 : Bool × Unit) w74 =>
 cs t73.1 (
 R [.bool false] w74) (
 J27 (t11.1, ()) w74)) fun J72 w75 =>
 cs ((r66.1 : Int) != (r70.1 : Int)) (
 J72 (true, ()) w75) (
 J72 ((r66.2.1 : Int) != (r70.2.1 : Int), ()) w75)) (
 jn [kP] w30 (fun (t77 : Option Addr × Unit) w78 =>
 J27 (t77.1, ()) w78) fun J76 w79 =>
 cs ((n26 : Int) == (2 : Int)) (
 ldI w79 .i64 b20 (0 + 1) fun n80 =>
 ldI w79 .i64 b20 (0 + 2) fun n81 =>
 cl Pg 12 [.pointer t11.1, .int .i64 n80, .int .i64 n81] [kI, kB, kI] w79 fun (r82 : Int × Bool × Int × Unit) w83 =>
 ldI w83 .i64 b20 (0 + 1) fun n84 =>
 ldI w83 .i64 b20 (0 + 2) fun n85 =>
 cl Pg 16 [.pointer r5.1, .int .i64 n84, .int .i64 n85] [kI, kB, kI] w83 fun (r86 : Int × Bool × Int × Unit) w87 =>
 jn [kB] w87 (fun (t89 : Bool × Unit) w90 =>
 jn [kB] w90 (fun (t93 : Bool × Unit) w94 =>
 cs t93.1 (
 R [.bool false] w94) (
 J76 (t11.1, ()) w94)) fun J92 w95 =>
 cs t89.1 (
 J92 (true, ()) w95) (
 J92 ((r82.2.2.1 : Int) != (r86.2.2.1 : Int), ()) w95)) fun J88 w91 =>
 cs ((r82.1 : Int) != (r86.1 : Int)) (
 J88 (true, ()) w91) (
 J88 (!(r82.2.1 == r86.2.1), ()) w91)) (
 jn [kP] w79 (fun (t97 : Option Addr × Unit) w98 =>
 J76 (t97.1, ()) w98) fun J96 w99 =>
 cs ((n26 : Int) == (3 : Int)) (
 cl Pg 10 [.pointer t11.1] [kI, kB] w99 fun (r100 : Int × Bool × Unit) w101 =>
 cl Pg 17 [.pointer r5.1] [kI, kB] w101 fun (r102 : Int × Bool × Unit) w103 =>
 jn [kB] w103 (fun (t105 : Bool × Unit) w106 =>
 cs t105.1 (
 R [.bool false] w106) (
 J96 (t11.1, ()) w106)) fun J104 w107 =>
 cs ((r100.1 : Int) != (r102.1 : Int)) (
 J104 (true, ()) w107) (
 J104 (!(r100.2.1 == r102.2.1), ()) w107)) (
 jn [kP] w99 (fun (t109 : Option Addr × Unit) w110 =>
 J96 (t109.1, ()) w110) fun J108 w111 =>
 cs ((n26 : Int) == (4 : Int)) (
 dr w111 fun w112 =>
 nn t11.1 fun b113 o114 =>
 ldP w112 b113 o114 fun p115 =>
 nn p115 fun b116 o117 =>
 ldI w112 .i64 b20 (0 + 1) fun n118 =>
 nn r5.1 fun b119 o120 =>
 ldP w112 b119 o120 fun p121 =>
 ldI w112 .i64 b20 (0 + 1) fun n122 =>
 cl Pg 18 [.pointer (some ⟨b116, o117, none⟩), .int .i64 n118] [kB] w112 fun (r123 : Bool × Unit) w124 =>
(w124.cell? ⟨b20, 0 + 1, none⟩ = some (.int .i64 n122)) ∧ (
(w124.cell? ⟨b119, o120, none⟩ = some (.pointer p121)) ∧ (
 cl Pg 19 [.pointer p121, .int .i64 n122] [kB] w124 fun (r125 : Bool × Unit) w126 =>
 cs (!(r123.1 == r125.1)) (
 R [.bool false] w126) (
 J108 (t11.1, ()) w126)))) (
 jn [kP] w111 (fun (t128 : Option Addr × Unit) w129 =>
 J108 (t128.1, ()) w129) fun J127 w130 =>
 cs ((n26 : Int) == (5 : Int)) (
 dr w130 fun w131 =>
 nn t11.1 fun b132 o133 =>
 ldP w131 b132 o133 fun p134 =>
 ldI w131 .i64 b20 (0 + 1) fun n135 =>
 ldI w131 .i64 b20 (0 + 2) fun n136 =>
 nn r5.1 fun b137 o138 =>
 ldP w131 b137 o138 fun p139 =>
 ldI w131 .i64 b20 (0 + 1) fun n140 =>
 ldI w131 .i64 b20 (0 + 2) fun n141 =>
 cl Pg 20 [.pointer p134, .int .i64 n135, .int .i64 n136] [kB] w131 fun (r142 : Bool × Unit) w143 =>
(w143.cell? ⟨b20, 0 + 2, none⟩ = some (.int .i64 n141)) ∧ (
(w143.cell? ⟨b20, 0 + 1, none⟩ = some (.int .i64 n140)) ∧ (
(w143.cell? ⟨b137, o138, none⟩ = some (.pointer p139)) ∧ (
 cl Pg 21 [.pointer p139, .int .i64 n140, .int .i64 n141] [kB] w143 fun (r144 : Bool × Unit) w145 =>
 cs (!(r142.1 == r144.1)) (
 R [.bool false] w145) (
 J127 (t11.1, ()) w145))))) (
 jn [kP] w130 (fun (t147 : Option Addr × Unit) w148 =>
 J127 (t147.1, ()) w148) fun J146 w149 =>
 cs ((n26 : Int) == (6 : Int)) (
 cl Pg 22 [.pointer t11.1] [kP] w149 fun (r150 : Option Addr × Unit) w151 =>
 cs r150.1.isNone (
 R [.bool false] w151) (
 cl Pg 10 [.pointer t11.1] [kI, kB] w151 fun (r152 : Int × Bool × Unit) w153 =>
 cl Pg 9 [.pointer t11.1, .int .i64 99, .int .i64 1] [kI, kI] w153 fun (r154 : Int × Int × Unit) w155 =>
 J146 (r150.1, ()) w155)) (
 J146 (t11.1, ()) w149))))))) (
 R [.bool true] w13)))) fun J7 w10 =>
 cs ((r3.2.1 : Int) != (r5.2.1 : Int)) (
 J7 (true, ()) w10) (
 J7 (!(r3.1.isNone == ((r5.2.1 : Int) != (0 : Int))), ()) w10)))
theorem tie6 (a0 : Bool) (a1 : Bool) (a2 : Int) (a3 : Sl) (R : List Value → World → Prop) (w : World) : compF Pg Try.f6 ⟨[(5, ⟨[(9, kP), (13, kI)], [8, 14, 15, 16, 17, 18, 19, 20, 21, 22, 23, 24, 25, 26, 27, 28, 29, 30, 31, 63, 64, 65, 66, 67, 68, 69, 70, 71, 72, 73, 74, 75, 76, 77, 78, 79, 80, 81, 82, 83, 84, 85, 86, 87, 88, 89, 90, 91, 92, 93, 94, 95, 96, 97, 98, 99, 100, 101, 102, 103, 104, 105, 106, 107, 108, 109, 110, 111, 112, 113, 114, 115, 116, 117, 118, 119, 120, 121, 122, 123, 124, 125, 126, 127, 128, 129, 130, 131, 132, 133, 134, 135, 136, 137, 138, 139, 140, 141, 142, 143, 144, 145, 146, 147, 148, 149, 150, 151, 152, 153, 154, 155, 156, 157, 158, 159, 160, 161, 162, 163, 164, 165, 166, 167, 168, 169, 170, 171, 172, 173, 174, 175, 176, 177, 178, 179, 180, 181, 182, 183, 184, 185, 186, 187, 188, 189, 190, 191, 192, 193, 194, 195, 196, 197, 198, 199, 200, 201, 202, 203, 204, 205, 206, 207, 208, 209, 210, 211, 212, 213, 214, 215, 216, 217, 218, 219, 220, 221, 222, 223, 224, 225, 226, 227, 228, 229, 230, 231, 232, 233, 234, 235, 236, 237, 238, 239, 240, 241, 242, 243, 244, 245]⟩), (9, ⟨[(9, kP)], [8, 15, 16, 17, 18, 19, 20, 21, 22, 23, 24, 25, 26, 27, 28, 29, 77, 78, 79, 80, 81, 82, 83, 84, 85, 86, 87, 88, 89, 90, 91, 92, 93, 94, 95, 96, 97, 98, 99, 100, 101, 102, 103, 104, 105, 106, 107, 108, 109, 110, 111, 112, 113, 114, 115, 116, 117, 118, 119, 120, 121, 122, 123, 124, 125, 126, 127, 128, 129, 130, 131, 132, 133, 134, 135, 136, 137, 138, 139, 140, 141, 142, 143, 144, 145, 146, 147, 148, 149, 150, 151, 152, 153, 154, 155, 156, 157, 158, 159, 160, 161, 162, 163, 164, 165, 166, 167, 168, 169, 170, 171, 172, 173, 174, 175, 176, 177, 178, 179, 180, 181, 182, 183, 184, 185, 186, 187, 188, 189, 190, 191, 192, 193, 194, 195, 196, 197, 198, 199, 200, 201, 202, 203, 204, 205, 206, 207, 208]⟩), (22, ⟨[(30, kS), (31, kI)], [209, 210, 211, 212, 213, 214, 215, 216, 217, 218, 219, 220, 221, 222, 223, 224, 225, 226, 227, 228]⟩), (11, ⟨[(9, kP)], [8, 19, 20, 21, 22, 23, 24, 25, 26, 27, 28, 29, 105, 106, 107, 108, 109, 110, 111, 112, 113, 114, 115, 116, 117, 118, 119, 120, 121, 122, 123, 124, 125, 126, 127, 128, 129, 130, 131, 132, 133, 134, 135, 136, 137, 138, 139, 140, 141, 142, 143, 144, 145, 146, 147, 148, 149, 150, 151, 152, 153, 154, 155, 156, 157, 158, 159, 160, 161, 162, 163, 164, 165, 166, 167, 168, 169, 170, 171, 172, 173, 174, 175, 176, 177, 178, 179, 180, 181, 182, 183, 184, 185, 186, 187, 188, 189, 190, 191, 192, 193, 194, 195, 196, 197, 198, 199, 200, 201, 202, 203, 204, 205, 206, 207, 208]⟩), (13, ⟨[(9, kP)], [8, 25, 26, 27, 28, 29, 140, 141, 142, 143, 144, 145, 146, 147, 148, 149, 150, 151, 152, 153, 154, 155, 156, 157, 158, 159, 160, 161, 162, 163, 164, 165, 166, 167, 168, 169, 170, 171, 172, 173, 174, 175, 176, 177, 178, 179, 180, 181, 182, 183, 184, 185, 186, 187, 188, 189, 190, 191, 192, 193, 194, 195, 196, 197, 198, 199, 200, 201, 202, 203, 204, 205, 206, 207, 208]⟩), (15, ⟨[(9, kP)], [8, 29, 160, 161, 162, 163, 164, 165, 166, 167, 168, 169, 170, 171, 172, 173, 174, 175, 176, 177, 178, 179, 180, 181, 182, 183, 184, 185, 186, 187, 188, 189, 190, 191, 192, 193, 194, 195, 196, 197, 198, 199, 200, 201, 202, 203, 204, 205, 206, 207, 208]⟩), (17, ⟨[(9, kP)], [8, 29, 179, 180, 181, 182, 183, 184, 185, 186, 187, 188, 189, 190, 191, 192, 193, 194, 195, 196, 197, 198, 199, 200, 201, 202, 203, 204, 205, 206, 207, 208]⟩), (19, ⟨[(9, kP)], [8, 29, 200, 201, 202, 203, 204, 205, 206, 207, 208]⟩)], [(49, ⟨[(245, kB)], [229, 230, 231, 232, 233, 234, 235, 236, 237, 238, 239, 240, 241, 242, 243, 244]⟩)], [(49, .l [(0, []), (2, []), (1, [0]), (3, [1, 2, 0]), (4, []), (5, []), (6, []), (7, []), (8, []), (9, []), (10, []), (11, []), (12, []), (13, []), (14, [9, 13, 5, 8, 12, 4, 3, 7, 11, 1, 2, 6, 10, 0]), (15, []), (16, [])]), (32, .l [(0, []), (1, []), (2, []), (3, []), (4, []), (5, []), (6, []), (7, []), (9, []), (10, []), (11, []), (12, []), (13, []), (14, []), (8, [5, 7, 4, 6, 3, 2, 1, 0]), (15, [12, 14, 8, 11, 13, 5, 7, 10, 4, 6, 9, 3, 2, 1, 0]), (16, [])]), (35, .l [(0, []), (1, []), (2, []), (3, []), (4, []), (5, []), (6, []), (7, []), (9, []), (10, []), (11, []), (12, []), (13, []), (14, []), (15, []), (16, []), (8, [3, 5, 7, 2, 4, 6, 1, 0]), (17, [12, 14, 16, 8, 11, 13, 15, 3, 5, 7, 10, 2, 4, 6, 9, 1, 0]), (18, [])])], [(7, [(4, 6, ⟨[(60, kB)], [55, 56, 57, 58, 59]⟩)]), (19, [(4, 4, ⟨[(102, kB)], [99, 100, 101]⟩)]), (24, [(4, 4, ⟨[(132, kB)], [129, 130, 131]⟩), (9, 4, ⟨[(137, kB)], [134, 135, 136]⟩)]), (29, [(4, 4, ⟨[(157, kB)], [154, 155, 156]⟩)])]⟩ [.bool a0, .bool a1, .int .i64 a2, vS a3] R w = sh6 a0 a1 a2 a3 R w := by kernel_rfl
theorem call6 {a0 : Bool} {a1 : Bool} {a2 : Int} {a3 : Sl} {w : World} {K : TK [kB] → World → Prop} (h : sh6 a0 a1 a2 a3 (fun vs w' => ∃ t, encK [kB] t = vs ∧ K t w') w) : cl Pg 6 [.bool a0, .bool a1, .int .i64 a2, vS a3] [kB] w K := cl_of Try.func6 (tie6 ..) h
end Go.Proofs.Ytiepcdoknmpemaa.B
