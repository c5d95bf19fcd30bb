/- Texts of ours, joined: Sh1, Sh2, Ints, Sep2, Sep3. -/
import Derived.IntWalk
import Derived.Laws.Externs
import Derived.Lib.Overlaps
import Derived.Test.YtenonfkfoedfmaaGreatDoorJTopB2
set_option linter.unusedSimpArgs false
set_option linter.unusedVariables false
/- Printed by sh.py: each Go function as a typed shallow program, and its tie to the code. -/
namespace Go.Proofs.YtenonfkfoedfmaaGreatDoor.B
open Go Go.Proofs
set_option linter.unusedVariables false
set_option maxRecDepth 100000
def sh79 (a0 : Option Addr) (a1 : (Int × Int × Int × Int × Int × Unit)) (R : List Value → World → Prop) (w : World) : Prop :=
 al w 97 [.int .i64 a1.1, .int .i64 a1.2.1, .int .i64 a1.2.2.1, .int .i64 a1.2.2.2.1, .int .i64 a1.2.2.2.2.1] fun b1 w2 =>
 al w2 57 [.int .i64 0, .int .i64 0] fun b3 w4 =>
 ldI w4 .i64 b1 0 fun n5 =>
 ldI w4 .i64 b1 (0 + 1) fun n6 =>
 ldI w4 .i64 b1 (0 + 2) fun n7 =>
 ldI w4 .i64 b1 (0 + 3) fun n8 =>
 ldI w4 .i64 b1 (0 + 4) fun n9 =>
 cl Pg 130 [.pointer a0, .agg #[.int .i64 n5, .int .i64 n6, .int .i64 n7, .int .i64 n8, .int .i64 n9]] [kI] w4 fun (r10 : Int × Unit) w11 =>
 jn [kB] w11 (fun (t13 : Bool × Unit) w14 =>
 jn [kB] w14 (fun (t17 : Bool × Unit) w18 =>
 cs t17.1 (
 cl Pg 77 [.int .i64 (-18), .slice none 0 0] [.a [(.i .i64), (.i .i64)]] w18 fun (r20 : (Int × Int × Unit) × Unit) w21 =>
 st1 w21 b3 0 (.int .i64 r20.1.1) fun w22 =>
 st1 w22 b3 (0 + 1) (.int .i64 r20.1.2.1) fun w23 =>
 ldI w23 .i64 b3 0 fun n24 =>
 ldI w23 .i64 b3 (0 + 1) fun n25 =>
 R [.agg #[.int .i64 n24, .int .i64 n25]] w23) (
 ldI w18 .i64 b1 0 fun n26 =>
 cs ((n26 : Int) == (4 : Int)) (
 nn a0 fun b27 o28 =>
 ldP w18 b27 (o28 + 6) fun p29 =>
 cl Pg 131 [.pointer p29, .bool false] [] w18 fun (r30 : Unit) w31 =>
 nn a0 fun b32 o33 =>
 ldP w31 b32 (o33 + 6) fun p34 =>
 cl Pg 132 [.pointer p34, .bool false] [] w31 fun (r35 : Unit) w36 =>
 cl Pg 133 [.pointer a0, .int .i64 r10.1] [] w36 fun (r37 : Unit) w38 =>
 cl Pg 77 [.int .i64 0, .slice none 0 0] [.a [(.i .i64), (.i .i64)]] w38 fun (r39 : (Int × Int × Unit) × Unit) w40 =>
 st1 w40 b3 0 (.int .i64 r39.1.1) fun w41 =>
 st1 w41 b3 (0 + 1) (.int .i64 r39.1.2.1) fun w42 =>
 ldI w42 .i64 b3 0 fun n43 =>
 ldI w42 .i64 b3 (0 + 1) fun n44 =>
 R [.agg #[.int .i64 n43, .int .i64 n44]] w42) (
 jn [kB] w18 (fun (t46 : Bool × Unit) w47 =>
 cs t46.1 (
 ldI w47 .i64 b1 0 fun n49 =>
 ldI w47 .i64 b1 (0 + 1) fun n50 =>
 ldI w47 .i64 b1 (0 + 2) fun n51 =>
 ldI w47 .i64 b1 (0 + 3) fun n52 =>
 ldI w47 .i64 b1 (0 + 4) fun n53 =>
 cl Pg 134 [.pointer a0, .agg #[.int .i64 n49, .int .i64 n50, .int .i64 n51, .int .i64 n52, .int .i64 n53]] [.a [(.i .i64), (.i .i64)]] w47 fun (r54 : (Int × Int × Unit) × Unit) w55 =>
 st1 w55 b3 0 (.int .i64 r54.1.1) fun w56 =>
 st1 w56 b3 (0 + 1) (.int .i64 r54.1.2.1) fun w57 =>
 ldI w57 .i64 b3 0 fun n58 =>
 ldI w57 .i64 b3 (0 + 1) fun n59 =>
 R [.agg #[.int .i64 n58, .int .i64 n59]] w57) (
 jn [kB] w47 (fun (t61 : Bool × Unit) w62 =>
 cs t61.1 (
 nn a0 fun b64 o65 =>
 ldI w62 .i64 b64 (o65 + 12) fun n66 =>
 al w62 2 [.int .i64 n66] fun b67 w68 =>
 cl Pg 77 [.int .i64 0, vS ⟨some ⟨b67, 0, none⟩, 1, 1⟩] [.a [(.i .i64), (.i .i64)]] w68 fun (r69 : (Int × Int × Unit) × Unit) w70 =>
 st1 w70 b3 0 (.int .i64 r69.1.1) fun w71 =>
 st1 w71 b3 (0 + 1) (.int .i64 r69.1.2.1) fun w72 =>
 ldI w72 .i64 b3 0 fun n73 =>
 ldI w72 .i64 b3 (0 + 1) fun n74 =>
 R [.agg #[.int .i64 n73, .int .i64 n74]] w72) (
 cs ((n26 : Int) == (12 : Int)) (
 cl Pg 135 [.pointer a0, .int .i64 (-1)] [.a [(.i .i64), (.i .i64)]] w62 fun (r75 : (Int × Int × Unit) × Unit) w76 =>
 st1 w76 b3 0 (.int .i64 r75.1.1) fun w77 =>
 st1 w77 b3 (0 + 1) (.int .i64 r75.1.2.1) fun w78 =>
 ldI w78 .i64 b3 0 fun n79 =>
 ldI w78 .i64 b3 (0 + 1) fun n80 =>
 R [.agg #[.int .i64 n79, .int .i64 n80]] w78) (
 cs ((n26 : Int) == (13 : Int)) (
 ixA b1 (0 + 1) 4 0 1 fun b81 o82 =>
 ldI w62 .i64 b81 o82 fun n83 =>
 cl Pg 136 [.int .i64 n83] [kB] w62 fun (r84 : Bool × Unit) w85 =>
 cs (!r84.1) (
 cl Pg 77 [.int .i64 (-17), .slice none 0 0] [.a [(.i .i64), (.i .i64)]] w85 fun (r86 : (Int × Int × Unit) × Unit) w87 =>
 st1 w87 b3 0 (.int .i64 r86.1.1) fun w88 =>
 st1 w88 b3 (0 + 1) (.int .i64 r86.1.2.1) fun w89 =>
 ldI w89 .i64 b3 0 fun n90 =>
 ldI w89 .i64 b3 (0 + 1) fun n91 =>
 R [.agg #[.int .i64 n90, .int .i64 n91]] w89) (
 ixA b1 (0 + 1) 4 0 1 fun b92 o93 =>
 ldI w85 .i64 b92 o93 fun n94 =>
 cl Pg 135 [.pointer a0, .int .i64 n94] [.a [(.i .i64), (.i .i64)]] w85 fun (r95 : (Int × Int × Unit) × Unit) w96 =>
 st1 w96 b3 0 (.int .i64 r95.1.1) fun w97 =>
 st1 w97 b3 (0 + 1) (.int .i64 r95.1.2.1) fun w98 =>
 ldI w98 .i64 b3 0 fun n99 =>
 ldI w98 .i64 b3 (0 + 1) fun n100 =>
 R [.agg #[.int .i64 n99, .int .i64 n100]] w98)) (
 cs ((n26 : Int) == (22 : Int)) (
 ixA b1 (0 + 1) 4 0 1 fun b101 o102 =>
 ldI w62 .i64 b101 o102 fun n103 =>
 cl Pg 137 [.int .i64 n103] [.l (.i .u64), kI] w62 fun (r104 : Int × Int × Unit) w105 =>
 cs ((r104.2.1 : Int) != (0 : Int)) (
 cl Pg 77 [.int .i64 r104.2.1, .slice none 0 0] [.a [(.i .i64), (.i .i64)]] w105 fun (r106 : (Int × Int × Unit) × Unit) w107 =>
 st1 w107 b3 0 (.int .i64 r106.1.1) fun w108 =>
 st1 w108 b3 (0 + 1) (.int .i64 r106.1.2.1) fun w109 =>
 ldI w109 .i64 b3 0 fun n110 =>
 ldI w109 .i64 b3 (0 + 1) fun n111 =>
 R [.agg #[.int .i64 n110, .int .i64 n111]] w109) (
 ixA b1 (0 + 1) 4 0 1 fun b112 o113 =>
 ldI w105 .i64 b112 o113 fun n114 =>
 cl Pg 138 [.pointer a0, .int .i64 2, .int .i64 0, .int .i64 n114] [.a [(.i .i64), (.i .i64)]] w105 fun (r115 : (Int × Int × Unit) × Unit) w116 =>
 st1 w116 b3 0 (.int .i64 r115.1.1) fun w117 =>
 st1 w117 b3 (0 + 1) (.int .i64 r115.1.2.1) fun w118 =>
 ldI w118 .i64 b3 0 fun n119 =>
 ldI w118 .i64 b3 (0 + 1) fun n120 =>
 R [.agg #[.int .i64 n119, .int .i64 n120]] w118)) (
 cs ((n26 : Int) == (6 : Int)) (
 ixA b1 (0 + 1) 4 1 1 fun b121 o122 =>
 ldI w62 .i64 b121 o122 fun n123 =>
 cl Pg 139 [.pointer a0, .int .i64 r10.1, .int .i64 n123] [kI] w62 fun (r124 : Int × Unit) w125 =>
 cl Pg 77 [.int .i64 r124.1, .slice none 0 0] [.a [(.i .i64), (.i .i64)]] w125 fun (r126 : (Int × Int × Unit) × Unit) w127 =>
 st1 w127 b3 0 (.int .i64 r126.1.1) fun w128 =>
 st1 w128 b3 (0 + 1) (.int .i64 r126.1.2.1) fun w129 =>
 ldI w129 .i64 b3 0 fun n130 =>
 ldI w129 .i64 b3 (0 + 1) fun n131 =>
 R [.agg #[.int .i64 n130, .int .i64 n131]] w129) (
 dr w62 fun w132 =>
 ldI w132 .i64 b1 0 fun n133 =>
 ldI w132 .i64 b1 (0 + 1) fun n134 =>
 ldI w132 .i64 b1 (0 + 2) fun n135 =>
 ldI w132 .i64 b1 (0 + 3) fun n136 =>
 ldI w132 .i64 b1 (0 + 4) fun n137 =>
 nn a0 fun b138 o139 =>
 ldS w132 b138 (o139 + 9) fun s140 =>
 ix s140 r10.1 1 fun b141 o142 =>
 ldP w132 b141 o142 fun p143 =>
 nn p143 fun b144 o145 =>
 ldP w132 b144 o145 fun p146 =>
 cl Pg 140 [.pointer a0, .agg #[.int .i64 n133, .int .i64 n134, .int .i64 n135, .int .i64 n136, .int .i64 n137], .int .i64 r10.1, .pointer p146] [.a [(.i .i64), (.i .i64)]] w132 fun (r147 : (Int × Int × Unit) × Unit) w148 =>
 st1 w148 b3 0 (.int .i64 r147.1.1) fun w149 =>
 st1 w149 b3 (0 + 1) (.int .i64 r147.1.2.1) fun w150 =>
 ldI w150 .i64 b3 0 fun n151 =>
 ldI w150 .i64 b3 (0 + 1) fun n152 =>
 R [.agg #[.int .i64 n151, .int .i64 n152]] w150)))))) fun J60 w63 =>
 cs ((n26 : Int) == (10 : Int)) (
 J60 (true, ()) w63) (
 J60 ((n26 : Int) == (11 : Int), ()) w63))) fun J45 w48 =>
 cs ((n26 : Int) == (8 : Int)) (
 J45 (true, ()) w48) (
 J45 ((n26 : Int) == (9 : Int), ()) w48)))) fun J16 w19 =>
 cs t13.1 (
 ldI w19 .i64 b1 0 fun n153 =>
 J16 ((n153 : Int) != (11 : Int), ()) w19) (
 J16 (false, ()) w19)) fun J12 w15 =>
 cs ((r10.1 : Int) == (0 : Int)) (
 ldI w15 .i64 b1 0 fun n154 =>
 J12 ((n154 : Int) != (9 : Int), ()) w15) (
 J12 (false, ()) w15)
theorem tie79 (a0 : Option Addr) (a1 : (Int × Int × Int × Int × Int × Unit)) (R : List Value → World → Prop) (w : World) : compF Pg Tryz.f79 ⟨[(3, ⟨[(42, kB)], [44]⟩), (5, ⟨[(48, kB)], [50]⟩)], [], [(29, .l [(0, []), (1, []), (2, []), (3, []), (4, []), (5, []), (6, []), (7, []), (8, []), (9, []), (10, []), (11, []), (12, []), (13, [0, 1, 2, 12, 11, 10, 9, 8, 6, 7, 5, 4, 3]), (14, [13, 0, 1, 2, 3, 4, 5, 6, 7, 8, 9, 10, 11, 12])])], [(2, [(3, 4, ⟨[(17, kB)], [14, 15, 16]⟩), (8, 4, ⟨[(22, kB)], [19, 20, 21]⟩)])]⟩ [.pointer a0, .agg #[.int .i64 a1.1, .int .i64 a1.2.1, .int .i64 a1.2.2.1, .int .i64 a1.2.2.2.1, .int .i64 a1.2.2.2.2.1]] R w = sh79 a0 a1 R w := by kernel_rfl
theorem call79 {a0 : Option Addr} {a1 : (Int × Int × Int × Int × Int × Unit)} {w : World} {K : TK [.a [(.i .i64), (.i .i64)]] → World → Prop} (h : sh79 a0 a1 (fun vs w' => ∃ t, encK [.a [(.i .i64), (.i .i64)]] t = vs ∧ K t w') w) : cl Pg 79 [.pointer a0, .agg #[.int .i64 a1.1, .int .i64 a1.2.1, .int .i64 a1.2.2.1, .int .i64 a1.2.2.2.1, .int .i64 a1.2.2.2.2.1]] [.a [(.i .i64), (.i .i64)]] w K := cl_of Tryz.func79 (tie79 ..) h
def sh94 (a0 : Option Addr) (a1 : Int) (R : List Value → World → Prop) (w : World) : Prop :=
 cl Pg 171 [.pointer a0, .int .i64 a1] [kI] w fun (r1 : Int × Unit) w2 =>
 R [.bool (decide ((r1.1 : Int) ≥ (0 : Int)))] w2
theorem tie94 (a0 : Option Addr) (a1 : Int) (R : List Value → World → Prop) (w : World) : compF Pg Tryz.f94 ⟨[], [], [], []⟩ [.pointer a0, .int .i64 a1] R w = sh94 a0 a1 R w := by kernel_rfl
theorem call94 {a0 : Option Addr} {a1 : Int} {w : World} {K : TK [kB] → World → Prop} (h : sh94 a0 a1 (fun vs w' => ∃ t, encK [kB] t = vs ∧ K t w') w) : cl Pg 94 [.pointer a0, .int .i64 a1] [kB] w K := cl_of Tryz.func94 (tie94 ..) h
def sh49 (a0 : Option Addr) (a1 : Int) (a2 : Int) (R : List Value → World → Prop) (w : World) : Prop :=
 jn [kB] w (fun (t2 : Bool × Unit) w3 =>
 jn [kB] w3 (fun (t6 : Bool × Unit) w7 =>
 cs t6.1 (
 R [.int .i64 (-17)] w7) (
 nn a0 fun b9 o10 =>
 cl Pg 94 [.pointer (some ⟨b9, o10, none⟩), .int .i64 a1] [kB] w7 fun (r11 : Bool × Unit) w12 =>
 cs r11.1 (
 R [.int .i64 (-41)] w12) (
 cl Pg 95 [.pointer a0, .agg #[.int .i64 a1, .int .i64 a2]] [] w12 fun (r13 : Unit) w14 =>
 R [.int .i64 0] w14))) fun J5 w8 =>
 cs t2.1 (
 J5 (true, ()) w8) (
 cl Pg 93 [.int .i64 a2] [kB] w8 fun (r15 : Bool × Unit) w16 =>
 J5 (!r15.1, ()) w16)) fun J1 w4 =>
 cs (decide ((a1 : Int) < (1 : Int))) (
 J1 (true, ()) w4) (
 J1 (decide ((a1 : Int) > (16 : Int)), ()) w4)
theorem tie49 (a0 : Option Addr) (a1 : Int) (a2 : Int) (R : List Value → World → Prop) (w : World) : compF Pg Tryz.f49 ⟨[], [], [], [(1, [(3, 3, ⟨[(13, kB)], [11, 12]⟩), (7, 4, ⟨[(18, kB)], [15, 16, 17]⟩)])]⟩ [.pointer a0, .int .i64 a1, .int .i64 a2] R w = sh49 a0 a1 a2 R w := by kernel_rfl
theorem call49 {a0 : Option Addr} {a1 : Int} {a2 : Int} {w : World} {K : TK [kI] → World → Prop} (h : sh49 a0 a1 a2 (fun vs w' => ∃ t, encK [kI] t = vs ∧ K t w') w) : cl Pg 49 [.pointer a0, .int .i64 a1, .int .i64 a2] [kI] w K := cl_of Tryz.func49 (tie49 ..) h
def sh92 (a0 : Option Addr) (R : List Value → World → Prop) (w : World) : Prop :=
 nn a0 fun b1 o2 =>
 ldI w .i64 b1 (o2 + 1) fun n3 =>
 cs (decide ((n3 : Int) ≤ (0 : Int))) (
 R [.bool false] w) (
 nn a0 fun b4 o5 =>
 ldI w .i64 b4 (o5 + 1) fun n6 =>
 nn a0 fun b7 o8 =>
 st1 w b7 (o8 + 1) (.int .i64 (w64 (n6 - 1))) fun w9 =>
 R [.bool true] w9)
theorem tie92 (a0 : Option Addr) (R : List Value → World → Prop) (w : World) : compF Pg Tryz.f92 ⟨[], [], [], []⟩ [.pointer a0] R w = sh92 a0 R w := by kernel_rfl
theorem call92 {a0 : Option Addr} {w : World} {K : TK [kB] → World → Prop} (h : sh92 a0 (fun vs w' => ∃ t, encK [kB] t = vs ∧ K t w') w) : cl Pg 92 [.pointer a0] [kB] w K := cl_of Tryz.func92 (tie92 ..) h
def sh48 (a0 : Option Addr) (a1 : Int) (a2 : Int) (R : List Value → World → Prop) (w : World) : Prop :=
 cl Pg 92 [.pointer a0] [kB] w fun (r1 : Bool × Unit) w2 =>
 cs r1.1 (
 R [.bool true, .int .i64 0] w2) (
 nn a0 fun b3 o4 =>
 ldP w2 b3 o4 fun p5 =>
 cl Pg 49 [.pointer p5, .int .i64 a1, .int .i64 a2] [kI] w2 fun (r6 : Int × Unit) w7 =>
 R [.bool false, .int .i64 r6.1] w7)
theorem tie48 (a0 : Option Addr) (a1 : Int) (a2 : Int) (R : List Value → World → Prop) (w : World) : compF Pg Tryz.f48 ⟨[], [], [], []⟩ [.pointer a0, .int .i64 a1, .int .i64 a2] R w = sh48 a0 a1 a2 R w := by kernel_rfl
theorem call48 {a0 : Option Addr} {a1 : Int} {a2 : Int} {w : World} {K : TK [kB, kI] → World → Prop} (h : sh48 a0 a1 a2 (fun vs w' => ∃ t, encK [kB, kI] t = vs ∧ K t w') w) : cl Pg 48 [.pointer a0, .int .i64 a1, .int .i64 a2] [kB, kI] w K := cl_of Tryz.func48 (tie48 ..) h
def sh59 (a0 : Sl) (a1 : Int) (R : List Value → World → Prop) (w : World) : Prop :=
 jn [kB] w (fun (t2 : Bool × Unit) w3 =>
 cs t2.1 (
 R [.pointer none, .bool false] w3) (
 ix a0 (w64 (a1 - 1)) 1 fun b5 o6 =>
 ldP w3 b5 o6 fun p7 =>
 R [.pointer p7, .bool true] w3)) fun J1 w4 =>
 cs (decide ((a1 : Int) < (1 : Int))) (
 J1 (true, ()) w4) (
 J1 (decide ((a1 : Int) > ((a0.len : Int) : Int)), ()) w4)
theorem tie59 (a0 : Sl) (a1 : Int) (R : List Value → World → Prop) (w : World) : compF Pg Tryz.f59 ⟨[], [], [], [(2, [(3, 5, ⟨[(14, kB)], [10, 11, 12, 13]⟩)])]⟩ [vS a0, .int .i64 a1] R w = sh59 a0 a1 R w := by kernel_rfl
theorem call59 {a0 : Sl} {a1 : Int} {w : World} {K : TK [kP, kB] → World → Prop} (h : sh59 a0 a1 (fun vs w' => ∃ t, encK [kP, kB] t = vs ∧ K t w') w) : cl Pg 59 [vS a0, .int .i64 a1] [kP, kB] w K := cl_of Tryz.func59 (tie59 ..) h
def sh213 (a0 : Int) (R : List Value → World → Prop) (w : World) : Prop :=
 cl Pg 87 [.int .i64 a0] [.a [.g, (.i .i64), (.i .i64)]] w fun (r1 : (ByteArray × Int × Int × Unit) × Unit) w2 =>
 R [.int .i64 r1.1.2.1] w2
theorem tie213 (a0 : Int) (R : List Value → World → Prop) (w : World) : compF Pg Tryz.f213 ⟨[], [], [], []⟩ [.int .i64 a0] R w = sh213 a0 R w := by kernel_rfl
theorem call213 {a0 : Int} {w : World} {K : TK [kI] → World → Prop} (h : sh213 a0 (fun vs w' => ∃ t, encK [kI] t = vs ∧ K t w') w) : cl Pg 213 [.int .i64 a0] [kI] w K := cl_of Tryz.func213 (tie213 ..) h
def sh141 (a0 : (Int × Int × Int × Int × Int × Unit)) (a1 : Int) (a2 : Int) (R : List Value → World → Prop) (w : World) : Prop :=
 al w 97 [.int .i64 a0.1, .int .i64 a0.2.1, .int .i64 a0.2.2.1, .int .i64 a0.2.2.2.1, .int .i64 a0.2.2.2.2.1] fun b1 w2 =>
 ldI w2 .i64 b1 0 fun n3 =>
 cs ((n3 : Int) == (a1 : Int)) (
 R [.int .i64 0] w2) (
 cs ((n3 : Int) == (a2 : Int)) (
 ldI w2 .i64 b1 0 fun n4 =>
 cl Pg 213 [.int .i64 n4] [kI] w2 fun (r5 : Int × Unit) w6 =>
 ixA b1 (0 + 1) 4 (w64 (r5.1 - 1)) 1 fun b7 o8 =>
 ldI w6 .i64 b7 o8 fun n9 =>
 R [.int .i64 n9] w6) (
 R [.int .i64 (-1)] w2))
theorem tie141 (a0 : (Int × Int × Int × Int × Int × Unit)) (a1 : Int) (a2 : Int) (R : List Value → World → Prop) (w : World) : compF Pg Tryz.f141 ⟨[], [], [], []⟩ [.agg #[.int .i64 a0.1, .int .i64 a0.2.1, .int .i64 a0.2.2.1, .int .i64 a0.2.2.2.1, .int .i64 a0.2.2.2.2.1], .int .i64 a1, .int .i64 a2] R w = sh141 a0 a1 a2 R w := by kernel_rfl
theorem call141 {a0 : (Int × Int × Int × Int × Int × Unit)} {a1 : Int} {a2 : Int} {w : World} {K : TK [kI] → World → Prop} (h : sh141 a0 a1 a2 (fun vs w' => ∃ t, encK [kI] t = vs ∧ K t w') w) : cl Pg 141 [.agg #[.int .i64 a0.1, .int .i64 a0.2.1, .int .i64 a0.2.2.1, .int .i64 a0.2.2.2.1, .int .i64 a0.2.2.2.2.1], .int .i64 a1, .int .i64 a2] [kI] w K := cl_of Tryz.func141 (tie141 ..) h
def sh244 (a0 : Option Addr) (R : List Value → World → Prop) (w : World) : Prop :=
 al w 117 [.int .i64 0, .int .i64 0] fun b1 w2 =>
 nn a0 fun b3 o4 =>
 ldS w2 b3 o4 fun s5 =>
 cs (((s5.len : Int) : Int) == (0 : Int)) (
 st1 w2 b1 0 (.int .i64 0) fun w6 =>
 st1 w6 b1 (0 + 1) (.int .i64 0) fun w7 =>
 ldI w7 .i64 b1 0 fun n8 =>
 ldI w7 .i64 b1 (0 + 1) fun n9 =>
 R [.agg #[.int .i64 n8, .int .i64 n9], .bool false] w7) (
 nn a0 fun b10 o11 =>
 ldS w2 b10 o11 fun s12 =>
 ix s12 0 2 fun b13 o14 =>
 ldI w2 .i64 b13 o14 fun n15 =>
 ldI w2 .i64 b13 (o14 + 1) fun n16 =>
 st1 w2 b1 0 (.int .i64 n15) fun w17 =>
 st1 w17 b1 (0 + 1) (.int .i64 n16) fun w18 =>
 ldI w18 .i64 b1 0 fun n19 =>
 ldI w18 .i64 b1 (0 + 1) fun n20 =>
 R [.agg #[.int .i64 n19, .int .i64 n20], .bool true] w18)
theorem tie244 (a0 : Option Addr) (R : List Value → World → Prop) (w : World) : compF Pg Tryz.f244 ⟨[], [], [], []⟩ [.pointer a0] R w = sh244 a0 R w := by kernel_rfl
theorem call244 {a0 : Option Addr} {w : World} {K : TK [.a [(.i .i64), (.i .i64)], kB] → World → Prop} (h : sh244 a0 (fun vs w' => ∃ t, encK [.a [(.i .i64), (.i .i64)], kB] t = vs ∧ K t w') w) : cl Pg 244 [.pointer a0] [.a [(.i .i64), (.i .i64)], kB] w K := cl_of Tryz.func244 (tie244 ..) h
def sh214 (a0 : Option Addr) (R : List Value → World → Prop) (w : World) : Prop :=
 al w 117 [.int .i64 0, .int .i64 0] fun b1 w2 =>
 nn a0 fun b3 o4 =>
 cl Pg 244 [.pointer (some ⟨b3, o4, none⟩)] [.a [(.i .i64), (.i .i64)], kB] w2 fun (r5 : (Int × Int × Unit) × Bool × Unit) w6 =>
 al w6 117 [.int .i64 0, .int .i64 0] fun b7 w8 =>
 st1 w8 b7 0 (.int .i64 r5.1.1) fun w9 =>
 st1 w9 b7 (0 + 1) (.int .i64 r5.1.2.1) fun w10 =>
 jn [] w10 (fun (t12 : Unit) w13 =>
 ldI w13 .i64 b7 0 fun n15 =>
 ldI w13 .i64 b7 (0 + 1) fun n16 =>
 st1 w13 b1 0 (.int .i64 n15) fun w17 =>
 st1 w17 b1 (0 + 1) (.int .i64 n16) fun w18 =>
 ldI w18 .i64 b1 0 fun n19 =>
 ldI w18 .i64 b1 (0 + 1) fun n20 =>
 R [.agg #[.int .i64 n19, .int .i64 n20], .bool r5.2.1] w18) fun J11 w14 =>
 cs r5.2.1 (
 dr w14 fun w21 =>
 nn a0 fun b22 o23 =>
 ldI w21 .i64 b7 0 fun n24 =>
 cl Pg 111 [.pointer (some ⟨b22, o23, none⟩), .int .i64 n24] [kB] w21 fun (r25 : Bool × Unit) w26 =>
 J11 () w26) (
 J11 () w14)
theorem tie214 (a0 : Option Addr) (R : List Value → World → Prop) (w : World) : compF Pg Tryz.f214 ⟨[(0, ⟨[], [14, 15, 16, 17, 18, 19]⟩)], [], [(3, .l [(0, []), (1, []), (2, []), (3, []), (4, []), (5, [2, 4, 1, 3, 0])])], []⟩ [.pointer a0] R w = sh214 a0 R w := by kernel_rfl
theorem call214 {a0 : Option Addr} {w : World} {K : TK [.a [(.i .i64), (.i .i64)], kB] → World → Prop} (h : sh214 a0 (fun vs w' => ∃ t, encK [.a [(.i .i64), (.i .i64)], kB] t = vs ∧ K t w') w) : cl Pg 214 [.pointer a0] [.a [(.i .i64), (.i .i64)], kB] w K := cl_of Tryz.func214 (tie214 ..) h
def sh80 (a0 : Option Addr) (a1 : (Int × Int × Int × Int × Int × Unit)) (R : List Value → World → Prop) (w : World) : Prop :=
 al w 97 [.int .i64 a1.1, .int .i64 a1.2.1, .int .i64 a1.2.2.1, .int .i64 a1.2.2.2.1, .int .i64 a1.2.2.2.2.1] fun b1 w2 =>
 al w2 57 [.int .i64 0, .int .i64 0] fun b3 w4 =>
 ixA b1 (0 + 1) 4 0 1 fun b5 o6 =>
 ldI w4 .i64 b5 o6 fun n7 =>
 nn a0 fun b8 o9 =>
 ldS w4 b8 o9 fun s10 =>
 cl Pg 59 [vS s10, .int .i64 (if 0 > (if 9 < n7 then 9 else n7) then 0 else (if 9 < n7 then 9 else n7))] [kP, kB] w4 fun (r11 : Option Addr × Bool × Unit) w12 =>
 ldI w12 .i64 b1 0 fun n13 =>
 ldI w12 .i64 b1 (0 + 1) fun n14 =>
 ldI w12 .i64 b1 (0 + 2) fun n15 =>
 ldI w12 .i64 b1 (0 + 3) fun n16 =>
 ldI w12 .i64 b1 (0 + 4) fun n17 =>
 cl Pg 141 [.agg #[.int .i64 n13, .int .i64 n14, .int .i64 n15, .int .i64 n16, .int .i64 n17], .int .i64 26, .int .i64 27] [kI] w12 fun (r18 : Int × Unit) w19 =>
 cs (!r11.2.1) (
 cl Pg 77 [.int .i64 (-18), .slice none 0 0] [.a [(.i .i64), (.i .i64)]] w19 fun (r20 : (Int × Int × Unit) × Unit) w21 =>
 st1 w21 b3 0 (.int .i64 r20.1.1) fun w22 =>
 st1 w22 b3 (0 + 1) (.int .i64 r20.1.2.1) fun w23 =>
 ldI w23 .i64 b3 0 fun n24 =>
 ldI w23 .i64 b3 (0 + 1) fun n25 =>
 R [.agg #[.int .i64 n24, .int .i64 n25]] w23) (
 cl Pg 136 [.int .i64 r18.1] [kB] w19 fun (r26 : Bool × Unit) w27 =>
 cs (!r26.1) (
 cl Pg 77 [.int .i64 (-17), .slice none 0 0] [.a [(.i .i64), (.i .i64)]] w27 fun (r28 : (Int × Int × Unit) × Unit) w29 =>
 st1 w29 b3 0 (.int .i64 r28.1.1) fun w30 =>
 st1 w30 b3 (0 + 1) (.int .i64 r28.1.2.1) fun w31 =>
 ldI w31 .i64 b3 0 fun n32 =>
 ldI w31 .i64 b3 (0 + 1) fun n33 =>
 R [.agg #[.int .i64 n32, .int .i64 n33]] w31) (
 ldI w27 .i64 b1 0 fun n34 =>
 jn [kB] w27 (fun (t36 : Bool × Unit) w37 =>
 cs t36.1 (
 cl Pg 142 [.pointer r11.1] [kI, kI] w37 fun (r39 : Int × Int × Unit) w40 =>
 al w40 3 [.int .i64 r39.1] fun b41 w42 =>
 cl Pg 143 [.pointer a0, .int .i64 0, vS ⟨some ⟨b41, 0, none⟩, 1, 1⟩] [] w42 fun (r43 : Unit) w44 =>
 cl Pg 77 [.int .i64 r39.2.1, .slice none 0 0] [.a [(.i .i64), (.i .i64)]] w44 fun (r45 : (Int × Int × Unit) × Unit) w46 =>
 st1 w46 b3 0 (.int .i64 r45.1.1) fun w47 =>
 st1 w47 b3 (0 + 1) (.int .i64 r45.1.2.1) fun w48 =>
 ldI w48 .i64 b3 0 fun n49 =>
 ldI w48 .i64 b3 (0 + 1) fun n50 =>
 R [.agg #[.int .i64 n49, .int .i64 n50]] w48) (
 cl Pg 92 [.pointer r11.1] [kB] w37 fun (r51 : Bool × Unit) w52 =>
 cs r51.1 (
 cl Pg 77 [.int .i64 0, .slice none 0 0] [.a [(.i .i64), (.i .i64)]] w52 fun (r53 : (Int × Int × Unit) × Unit) w54 =>
 st1 w54 b3 0 (.int .i64 r53.1.1) fun w55 =>
 st1 w55 b3 (0 + 1) (.int .i64 r53.1.2.1) fun w56 =>
 ldI w56 .i64 b3 0 fun n57 =>
 ldI w56 .i64 b3 (0 + 1) fun n58 =>
 R [.agg #[.int .i64 n57, .int .i64 n58]] w56) (
 cs ((r18.1 : Int) == (0 : Int)) (
 cl Pg 77 [.int .i64 (-50), .slice none 0 0] [.a [(.i .i64), (.i .i64)]] w52 fun (r59 : (Int × Int × Unit) × Unit) w60 =>
 st1 w60 b3 0 (.int .i64 r59.1.1) fun w61 =>
 st1 w61 b3 (0 + 1) (.int .i64 r59.1.2.1) fun w62 =>
 ldI w62 .i64 b3 0 fun n63 =>
 ldI w62 .i64 b3 (0 + 1) fun n64 =>
 R [.agg #[.int .i64 n63, .int .i64 n64]] w62) (
 dr w52 fun w65 =>
 nn a0 fun b66 o67 =>
 ldI w65 .i64 b66 (o67 + 12) fun n68 =>
 nn a0 fun b69 o70 =>
 ldP w65 b69 (o70 + 5) fun p71 =>
 nn a0 fun b72 o73 =>
 ldI w65 .i64 b72 (o73 + 12) fun n74 =>
 cl Pg 35 [.pointer p71, .int .i64 n74] [kI] w65 fun (r75 : Int × Unit) w76 =>
(w76.cell? ⟨b66, o67 + 12, none⟩ = some (.int .i64 n68)) ∧ (
 cl Pg 48 [.pointer r11.1, .int .i64 n68, .int .i64 r75.1] [kB, kI] w76 fun (r77 : Bool × Int × Unit) w78 =>
 cl Pg 138 [.pointer a0, .int .i64 3, .int .i64 (if 0 > (if 9 < n7 then 9 else n7) then 0 else (if 9 < n7 then 9 else n7)), .int .i64 r18.1] [.a [(.i .i64), (.i .i64)]] w78 fun (r79 : (Int × Int × Unit) × Unit) w80 =>
 st1 w80 b3 0 (.int .i64 r79.1.1) fun w81 =>
 st1 w81 b3 (0 + 1) (.int .i64 r79.1.2.1) fun w82 =>
 ldI w82 .i64 b3 0 fun n83 =>
 ldI w82 .i64 b3 (0 + 1) fun n84 =>
 R [.agg #[.int .i64 n83, .int .i64 n84]] w82))))) fun J35 w38 =>
 cs ((n34 : Int) == (23 : Int)) (
 J35 (true, ()) w38) (
 ldI w38 .i64 b1 0 fun n85 =>
 J35 ((n85 : Int) == (24 : Int), ()) w38)))
theorem tie80 (a0 : Option Addr) (a1 : (Int × Int × Int × Int × Int × Unit)) (R : List Value → World → Prop) (w : World) : compF Pg Tryz.f80 ⟨[], [], [(16, .l [(0, []), (1, []), (2, []), (3, []), (4, []), (5, []), (6, []), (7, []), (8, []), (9, []), (10, []), (11, []), (12, []), (13, []), (14, [9, 13, 8, 12, 7, 11, 6, 10, 5]), (15, [0, 4, 14, 3, 9, 13, 2, 8, 12, 1, 7, 11, 6, 10, 5])])], [(8, [(4, 4, ⟨[(45, kB)], [42, 43, 44]⟩)])]⟩ [.pointer a0, .agg #[.int .i64 a1.1, .int .i64 a1.2.1, .int .i64 a1.2.2.1, .int .i64 a1.2.2.2.1, .int .i64 a1.2.2.2.2.1]] R w = sh80 a0 a1 R w := by kernel_rfl
theorem call80 {a0 : Option Addr} {a1 : (Int × Int × Int × Int × Int × Unit)} {w : World} {K : TK [.a [(.i .i64), (.i .i64)]] → World → Prop} (h : sh80 a0 a1 (fun vs w' => ∃ t, encK [.a [(.i .i64), (.i .i64)]] t = vs ∧ K t w') w) : cl Pg 80 [.pointer a0, .agg #[.int .i64 a1.1, .int .i64 a1.2.1, .int .i64 a1.2.2.1, .int .i64 a1.2.2.2.1, .int .i64 a1.2.2.2.2.1]] [.a [(.i .i64), (.i .i64)]] w K := cl_of Tryz.func80 (tie80 ..) h
def sh96 (a0 : Sl) (R : List Value → World → Prop) (w : World) : Prop :=
 sb a0 0 (a0.len : Int) (a0.len : Int) 2 fun s1 =>
 R [vS s1] w
theorem tie96 (a0 : Sl) (R : List Value → World → Prop) (w : World) : compF Pg Tryz.f96 ⟨[], [], [], []⟩ [vS a0] R w = sh96 a0 R w := by kernel_rfl
theorem call96 {a0 : Sl} {w : World} {K : TK [kS] → World → Prop} (h : sh96 a0 (fun vs w' => ∃ t, encK [kS] t = vs ∧ K t w') w) : cl Pg 96 [vS a0] [kS] w K := cl_of Tryz.func96 (tie96 ..) h
def sh97 (a0 : Sl) (R : List Value → World → Prop) (w : World) : Prop :=
 cs a0.a.isNone (
 R [.slice none 0 0] w) (
 al w 117 [] fun b1 w2 =>
 ef Pg (Builtin.append_ #[108, 108] 108 #[vS ⟨some ⟨b1, 0, none⟩, 0, 0⟩, vS a0]) [kS] w2 fun (r3 : Sl × Unit) w4 =>
 R [vS r3.1] w4)
theorem tie97 (a0 : Sl) (R : List Value → World → Prop) (w : World) : compF Pg Tryz.f97 ⟨[], [], [], []⟩ [vS a0] R w = sh97 a0 R w := by kernel_rfl
theorem call97 {a0 : Sl} {w : World} {K : TK [kS] → World → Prop} (h : sh97 a0 (fun vs w' => ∃ t, encK [kS] t = vs ∧ K t w') w) : cl Pg 97 [vS a0] [kS] w K := cl_of Tryz.func97 (tie97 ..) h
def sh50 (a0 : Option Addr) (R : List Value → World → Prop) (w : World) : Prop :=
 nn a0 fun b1 o2 =>
 ldS w b1 o2 fun s3 =>
 cl Pg 97 [vS s3] [kS] w fun (r4 : Sl × Unit) w5 =>
 cl Pg 96 [vS r4.1] [kS] w5 fun (r6 : Sl × Unit) w7 =>
 R [vS r6.1] w7
theorem tie50 (a0 : Option Addr) (R : List Value → World → Prop) (w : World) : compF Pg Tryz.f50 ⟨[], [], [], []⟩ [.pointer a0] R w = sh50 a0 R w := by kernel_rfl
theorem call50 {a0 : Option Addr} {w : World} {K : TK [kS] → World → Prop} (h : sh50 a0 (fun vs w' => ∃ t, encK [kS] t = vs ∧ K t w') w) : cl Pg 50 [.pointer a0] [kS] w K := cl_of Tryz.func50 (tie50 ..) h
def sh81 (a0 : Option Addr) (a1 : (Int × Int × Int × Int × Int × Unit)) (R : List Value → World → Prop) (w : World) : Prop :=
 al w 97 [.int .i64 a1.1, .int .i64 a1.2.1, .int .i64 a1.2.2.1, .int .i64 a1.2.2.2.1, .int .i64 a1.2.2.2.2.1] fun b1 w2 =>
 al w2 57 [.int .i64 0, .int .i64 0] fun b3 w4 =>
 ixA b1 (0 + 1) 4 0 1 fun b5 o6 =>
 ldI w4 .i64 b5 o6 fun n7 =>
 nn a0 fun b8 o9 =>
 ldS w4 b8 (o9 + 1) fun s10 =>
 cl Pg 144 [vS s10, .int .i64 (if 0 > (if 9 < n7 then 9 else n7) then 0 else (if 9 < n7 then 9 else n7))] [kP, kB] w4 fun (r11 : Option Addr × Bool × Unit) w12 =>
 ldI w12 .i64 b1 0 fun n13 =>
 ldI w12 .i64 b1 (0 + 1) fun n14 =>
 ldI w12 .i64 b1 (0 + 2) fun n15 =>
 ldI w12 .i64 b1 (0 + 3) fun n16 =>
 ldI w12 .i64 b1 (0 + 4) fun n17 =>
 cl Pg 141 [.agg #[.int .i64 n13, .int .i64 n14, .int .i64 n15, .int .i64 n16, .int .i64 n17], .int .i64 32, .int .i64 33] [kI] w12 fun (r18 : Int × Unit) w19 =>
 cs (!r11.2.1) (
 cl Pg 77 [.int .i64 (-18), .slice none 0 0] [.a [(.i .i64), (.i .i64)]] w19 fun (r20 : (Int × Int × Unit) × Unit) w21 =>
 st1 w21 b3 0 (.int .i64 r20.1.1) fun w22 =>
 st1 w22 b3 (0 + 1) (.int .i64 r20.1.2.1) fun w23 =>
 ldI w23 .i64 b3 0 fun n24 =>
 ldI w23 .i64 b3 (0 + 1) fun n25 =>
 R [.agg #[.int .i64 n24, .int .i64 n25]] w23) (
 ixA b1 (0 + 1) 4 1 1 fun b26 o27 =>
 ldI w19 .i64 b26 o27 fun n28 =>
 jn [kB] w19 (fun (t30 : Bool × Unit) w31 =>
 jn [kB] w31 (fun (t34 : Bool × Unit) w35 =>
 cs t34.1 (
 cl Pg 77 [.int .i64 (-17), .slice none 0 0] [.a [(.i .i64), (.i .i64)]] w35 fun (r37 : (Int × Int × Unit) × Unit) w38 =>
 st1 w38 b3 0 (.int .i64 r37.1.1) fun w39 =>
 st1 w39 b3 (0 + 1) (.int .i64 r37.1.2.1) fun w40 =>
 ldI w40 .i64 b3 0 fun n41 =>
 ldI w40 .i64 b3 (0 + 1) fun n42 =>
 R [.agg #[.int .i64 n41, .int .i64 n42]] w40) (
 ixA b1 (0 + 1) 4 1 1 fun b43 o44 =>
 ldI w35 .i64 b43 o44 fun n45 =>
 ldI w35 .i64 b1 0 fun n46 =>
 jn [kB] w35 (fun (t48 : Bool × Unit) w49 =>
 cs t48.1 (
 al w49 210 [.int .u32 (IntKind.u32.wrap (n45))] fun b51 w52 =>
 cl Pg 145 [.pointer r11.1, vS ⟨some ⟨b51, 0, none⟩, 1, 1⟩] [kS] w52 fun (r53 : Sl × Unit) w54 =>
 lp [kI] w54 ((0 : Int), ()) fun (t55 : Int × Unit) J56 w57 =>
 cs (decide ((t55.1 : Int) < ((r53.1.len : Int) : Int))) (
 ix r53.1 t55.1 2 fun b58 o59 =>
 ldI w57 .i64 b58 o59 fun n60 =>
 ldI w57 .u32 b58 (o59 + 1) fun n61 =>
 al w57 243 [.int .i64 0, .int .u32 0] fun b62 w63 =>
 st1 w63 b62 0 (.int .i64 n60) fun w65 =>
 st1 w65 b62 (0 + 1) (.int .u32 n61) fun w66 =>
 ldI w66 .u32 b62 (0 + 1) fun n67 =>
 ldI w66 .i64 b62 0 fun n68 =>
 al w66 3 [.int .i64 n68] fun b69 w70 =>
 cl Pg 143 [.pointer a0, .int .i64 (w64 (n67)), vS ⟨some ⟨b69, 0, none⟩, 1, 1⟩] [] w70 fun (r71 : Unit) w72 =>
 J56 (w64 (t55.1 + 1), ()) w72) (
 cl Pg 77 [.int .i64 0, .slice none 0 0] [.a [(.i .i64), (.i .i64)]] w57 fun (r73 : (Int × Int × Unit) × Unit) w74 =>
 st1 w74 b3 0 (.int .i64 r73.1.1) fun w75 =>
 st1 w75 b3 (0 + 1) (.int .i64 r73.1.2.1) fun w76 =>
 ldI w76 .i64 b3 0 fun n77 =>
 ldI w76 .i64 b3 (0 + 1) fun n78 =>
 R [.agg #[.int .i64 n77, .int .i64 n78]] w76)) (
 cs ((n46 : Int) == (30 : Int)) (
 cl Pg 146 [.pointer r11.1, .int .u32 (IntKind.u32.wrap (n45))] [] w49 fun (r79 : Unit) w80 =>
 cl Pg 77 [.int .i64 0, .slice none 0 0] [.a [(.i .i64), (.i .i64)]] w80 fun (r81 : (Int × Int × Unit) × Unit) w82 =>
 st1 w82 b3 0 (.int .i64 r81.1.1) fun w83 =>
 st1 w83 b3 (0 + 1) (.int .i64 r81.1.2.1) fun w84 =>
 ldI w84 .i64 b3 0 fun n85 =>
 ldI w84 .i64 b3 (0 + 1) fun n86 =>
 R [.agg #[.int .i64 n85, .int .i64 n86]] w84) (
 ixA b1 (0 + 1) 4 2 1 fun b87 o88 =>
 ldI w49 .i64 b87 o88 fun n89 =>
 jn [kI] w49 (fun (t91 : Int × Unit) w92 =>
 cl Pg 147 [.pointer r11.1, .int .u32 (IntKind.u32.wrap (n45)), .int .i64 t91.1] [.l (.i .u32), kB, kI] w92 fun (r94 : Int × Bool × Int × Unit) w95 =>
 jn [kB] w95 (fun (t97 : Bool × Unit) w98 =>
 cs t97.1 (
 al w98 2 [.int .i64 (w64 (r94.1))] fun b100 w101 =>
 cl Pg 77 [.int .i64 r94.2.2.1, vS ⟨some ⟨b100, 0, none⟩, 1, 1⟩] [.a [(.i .i64), (.i .i64)]] w101 fun (r102 : (Int × Int × Unit) × Unit) w103 =>
 st1 w103 b3 0 (.int .i64 r102.1.1) fun w104 =>
 st1 w104 b3 (0 + 1) (.int .i64 r102.1.2.1) fun w105 =>
 ldI w105 .i64 b3 0 fun n106 =>
 ldI w105 .i64 b3 (0 + 1) fun n107 =>
 R [.agg #[.int .i64 n106, .int .i64 n107]] w105) (
 cs ((r18.1 : Int) == (0 : Int)) (
 cl Pg 77 [.int .i64 (-50), .slice none 0 0] [.a [(.i .i64), (.i .i64)]] w98 fun (r108 : (Int × Int × Unit) × Unit) w109 =>
 st1 w109 b3 0 (.int .i64 r108.1.1) fun w110 =>
 st1 w110 b3 (0 + 1) (.int .i64 r108.1.2.1) fun w111 =>
 ldI w111 .i64 b3 0 fun n112 =>
 ldI w111 .i64 b3 (0 + 1) fun n113 =>
 R [.agg #[.int .i64 n112, .int .i64 n113]] w111) (
 dr w98 fun w114 =>
 nn a0 fun b115 o116 =>
 ldI w114 .i64 b115 (o116 + 12) fun n117 =>
 nn a0 fun b118 o119 =>
 ldP w114 b118 (o119 + 5) fun p120 =>
 nn a0 fun b121 o122 =>
 ldI w114 .i64 b121 (o122 + 12) fun n123 =>
 cl Pg 35 [.pointer p120, .int .i64 n123] [kI] w114 fun (r124 : Int × Unit) w125 =>
(w125.cell? ⟨b115, o116 + 12, none⟩ = some (.int .i64 n117)) ∧ (
 cl Pg 148 [.pointer r11.1, .int .i64 n117, .int .i64 r124.1, .int .u32 (IntKind.u32.wrap (n45)), .int .i64 t91.1] [.l (.i .u32), kB, kI] w125 fun (r126 : Int × Bool × Int × Unit) w127 =>
 cl Pg 138 [.pointer a0, .int .i64 4, .int .i64 (if 0 > (if 9 < n7 then 9 else n7) then 0 else (if 9 < n7 then 9 else n7)), .int .i64 r18.1] [.a [(.i .i64), (.i .i64)]] w127 fun (r128 : (Int × Int × Unit) × Unit) w129 =>
 st1 w129 b3 0 (.int .i64 r128.1.1) fun w130 =>
 st1 w130 b3 (0 + 1) (.int .i64 r128.1.2.1) fun w131 =>
 ldI w131 .i64 b3 0 fun n132 =>
 ldI w131 .i64 b3 (0 + 1) fun n133 =>
 R [.agg #[.int .i64 n132, .int .i64 n133]] w131)))) fun J96 w99 =>
 cs r94.2.1 (
 J96 (true, ()) w99) (
 J96 ((r94.2.2.1 : Int) != (0 : Int), ()) w99)) fun J90 w93 =>
 cs ((n89 : Int) == (0 : Int)) (
 J90 ((0 : Int), ()) w93) (
 jn [kI] w93 (fun (t135 : Int × Unit) w136 =>
 J90 (t135.1, ()) w136) fun J134 w137 =>
 cs ((n89 : Int) == (1 : Int)) (
 J134 ((1 : Int), ()) w137) (
 J134 (((-1) : Int), ()) w137))))) fun J47 w50 =>
 cs ((n46 : Int) == (28 : Int)) (
 J47 (true, ()) w50) (
 J47 ((n46 : Int) == (29 : Int), ()) w50))) fun J33 w36 =>
 cs t30.1 (
 J33 (true, ()) w36) (
 cl Pg 136 [.int .i64 r18.1] [kB] w36 fun (r138 : Bool × Unit) w139 =>
 J33 (!r138.1, ()) w139)) fun J29 w32 =>
 cs (decide ((n28 : Int) < (0 : Int))) (
 J29 (true, ()) w32) (
 ixA b1 (0 + 1) 4 1 1 fun b140 o141 =>
 ldI w32 .i64 b140 o141 fun n142 =>
 J29 (decide ((n142 : Int) > (4294967295 : Int)), ()) w32))
theorem tie81 (a0 : Option Addr) (a1 : (Int × Int × Int × Int × Int × Unit)) (R : List Value → World → Prop) (w : World) : compF Pg Tryz.f81 ⟨[(4, ⟨[(59, kB)], [61]⟩), (7, ⟨[(67, kI)], [11, 68, 69, 70, 71, 72, 73, 74, 75, 76, 77, 78, 79]⟩), (12, ⟨[(12, kI)], [92, 93]⟩), (13, ⟨[(12, kI)], []⟩)], [], [(32, .l [(0, []), (1, []), (2, []), (3, []), (4, []), (5, []), (6, []), (7, []), (8, []), (9, []), (10, []), (11, []), (12, []), (13, []), (15, []), (16, []), (14, [9, 13, 8, 12, 7, 11, 6, 10, 5]), (17, [0, 4, 14, 15, 16, 3, 9, 13, 2, 8, 12, 1, 7, 11, 6, 10, 5])])], [(6, [(5, 5, ⟨[(46, kB)], [42, 43, 44, 45]⟩), (11, 4, ⟨[(51, kB)], [48, 49, 50]⟩)]), (28, [(2, 3, ⟨[(107, kB)], [105, 106]⟩)])]⟩ [.pointer a0, .agg #[.int .i64 a1.1, .int .i64 a1.2.1, .int .i64 a1.2.2.1, .int .i64 a1.2.2.2.1, .int .i64 a1.2.2.2.2.1]] R w = sh81 a0 a1 R w := by kernel_rfl
theorem call81 {a0 : Option Addr} {a1 : (Int × Int × Int × Int × Int × Unit)} {w : World} {K : TK [.a [(.i .i64), (.i .i64)]] → World → Prop} (h : sh81 a0 a1 (fun vs w' => ∃ t, encK [.a [(.i .i64), (.i .i64)]] t = vs ∧ K t w') w) : cl Pg 81 [.pointer a0, .agg #[.int .i64 a1.1, .int .i64 a1.2.1, .int .i64 a1.2.2.1, .int .i64 a1.2.2.2.1, .int .i64 a1.2.2.2.2.1]] [.a [(.i .i64), (.i .i64)]] w K := cl_of Tryz.func81 (tie81 ..) h
def sh149 (a0 : Sl) (a1 : Int) (R : List Value → World → Prop) (w : World) : Prop :=
 jn [kB] w (fun (t2 : Bool × Unit) w3 =>
 cs t2.1 (
 R [.pointer none, .bool false] w3) (
 ix a0 (w64 (a1 - 1)) 1 fun b5 o6 =>
 ldP w3 b5 o6 fun p7 =>
 R [.pointer p7, .bool true] w3)) fun J1 w4 =>
 cs (decide ((a1 : Int) < (1 : Int))) (
 J1 (true, ()) w4) (
 J1 (decide ((a1 : Int) > ((a0.len : Int) : Int)), ()) w4)
theorem tie149 (a0 : Sl) (a1 : Int) (R : List Value → World → Prop) (w : World) : compF Pg Tryz.f149 ⟨[], [], [], [(2, [(3, 5, ⟨[(14, kB)], [10, 11, 12, 13]⟩)])]⟩ [vS a0, .int .i64 a1] R w = sh149 a0 a1 R w := by kernel_rfl
theorem call149 {a0 : Sl} {a1 : Int} {w : World} {K : TK [kP, kB] → World → Prop} (h : sh149 a0 a1 (fun vs w' => ∃ t, encK [kP, kB] t = vs ∧ K t w') w) : cl Pg 149 [vS a0, .int .i64 a1] [kP, kB] w K := cl_of Tryz.func149 (tie149 ..) h
def sh151 (a0 : Option Addr) (a1 : Int) (R : List Value → World → Prop) (w : World) : Prop :=
 nn a0 fun b1 o2 =>
 ldP w b1 (o2 + 1) fun p3 =>
 cl Pg 214 [.pointer p3] [.a [(.i .i64), (.i .i64)], kB] w fun (r4 : (Int × Int × Unit) × Bool × Unit) w5 =>
 al w5 117 [.int .i64 0, .int .i64 0] fun b6 w7 =>
 st1 w7 b6 0 (.int .i64 r4.1.1) fun w8 =>
 st1 w8 b6 (0 + 1) (.int .i64 r4.1.2.1) fun w9 =>
 cs r4.2.1 (
 dr w9 fun w10 =>
 ldI w10 .i64 b6 0 fun n11 =>
 R [.bool true, .int .i64 n11] w10) (
 dr w9 fun w12 =>
 nn a0 fun b13 o14 =>
 ldS w12 b13 (o14 + 3) fun s15 =>
 nn a0 fun b16 o17 =>
 ldI w12 .i64 b16 (o17 + 2) fun n18 =>
 cs (decide (((s15.len : Int) : Int) ≥ (n18 : Int))) (
 R [.bool false, .int .i64 0] w12) (
 nn a0 fun b19 o20 =>
 ldS w12 b19 (o20 + 3) fun s21 =>
 al w12 3 [.int .i64 a1] fun b22 w23 =>
 ef Pg (Builtin.append_ #[72, 72] 72 #[vS s21, vS ⟨some ⟨b22, 0, none⟩, 1, 1⟩]) [kS] w23 fun (r24 : Sl × Unit) w25 =>
 nn a0 fun b26 o27 =>
 st1 w25 b26 (o27 + 3) (vS r24.1) fun w28 =>
 R [.bool true, .int .i64 0] w28))
theorem tie151 (a0 : Option Addr) (a1 : Int) (R : List Value → World → Prop) (w : World) : compF Pg Tryz.f151 ⟨[], [], [(3, .l [(0, []), (1, []), (2, []), (3, [])]), (4, .l [(0, []), (1, []), (2, []), (3, []), (4, []), (5, []), (6, []), (7, []), (8, []), (9, [])])], []⟩ [.pointer a0, .int .i64 a1] R w = sh151 a0 a1 R w := by kernel_rfl
theorem call151 {a0 : Option Addr} {a1 : Int} {w : World} {K : TK [kB, kI] → World → Prop} (h : sh151 a0 a1 (fun vs w' => ∃ t, encK [kB, kI] t = vs ∧ K t w') w) : cl Pg 151 [.pointer a0, .int .i64 a1] [kB, kI] w K := cl_of Tryz.func151 (tie151 ..) h
def sh218 (a0 : Option Addr) (R : List Value → World → Prop) (w : World) : Prop :=
 nn a0 fun b1 o2 =>
 ldP w b1 o2 fun p3 =>
 cl Pg 214 [.pointer p3] [.a [(.i .i64), (.i .i64)], kB] w fun (r4 : (Int × Int × Unit) × Bool × Unit) w5 =>
 al w5 117 [.int .i64 0, .int .i64 0] fun b6 w7 =>
 st1 w7 b6 0 (.int .i64 r4.1.1) fun w8 =>
 st1 w8 b6 (0 + 1) (.int .i64 r4.1.2.1) fun w9 =>
 cs (!r4.2.1) (
 R [.int .i64 0, .int .i64 0, .bool false] w9) (
 dr w9 fun w10 =>
 nn a0 fun b11 o12 =>
 ldM w10 b11 (o12 + 4) fun m13 =>
 ldI w10 .i64 b6 0 fun n14 =>
 ef Pg (Instr.lookup 294 (.map m13) (.int .i64 n14) false) [kI] w10 fun (r15 : Int × Unit) w16 =>
 dr w16 fun w17 =>
 nn a0 fun b18 o19 =>
 ldM w17 b18 (o19 + 4) fun m20 =>
 ldI w17 .i64 b6 0 fun n21 =>
 ef Pg (Builtin.delete_ #[294, 3] 0 #[.map m20, .int .i64 n21]) [] w17 fun (r22 : Unit) w23 =>
 dr w23 fun w24 =>
 ldI w24 .i64 b6 0 fun n25 =>
 R [.int .i64 r15.1, .int .i64 n25, .bool true] w24)
theorem tie218 (a0 : Option Addr) (R : List Value → World → Prop) (w : World) : compF Pg Tryz.f218 ⟨[], [], [(4, .l [(0, []), (1, []), (2, []), (3, []), (4, []), (5, []), (6, [3, 5, 2, 4, 1, 0]), (7, [])]), (5, .l [(0, []), (1, []), (2, []), (3, []), (4, []), (5, []), (6, [3, 5, 2, 4, 1, 0])]), (6, .l [(0, []), (1, []), (2, []), (3, []), (4, []), (5, [])])], []⟩ [.pointer a0] R w = sh218 a0 R w := by kernel_rfl
theorem call218 {a0 : Option Addr} {w : World} {K : TK [kI, kI, kB] → World → Prop} (h : sh218 a0 (fun vs w' => ∃ t, encK [kI, kI, kB] t = vs ∧ K t w') w) : cl Pg 218 [.pointer a0] [kI, kI, kB] w K := cl_of Tryz.func218 (tie218 ..) h
def sh153 (a0 : Option Addr) (R : List Value → World → Prop) (w : World) : Prop :=
 al w 256 [.int .i64 0, .bool false, .int .i64 0] fun b1 w2 =>
 nn a0 fun b3 o4 =>
 ldS w2 b3 (o4 + 3) fun s5 =>
 cs (((s5.len : Int) : Int) == (0 : Int)) (
 cl Pg 218 [.pointer a0] [kI, kI, kB] w2 fun (r6 : Int × Int × Bool × Unit) w7 =>
 st1 w7 b1 0 (.int .i64 r6.1) fun w8 =>
 st1 w8 b1 (0 + 1) (.bool r6.2.2.1) fun w9 =>
 st1 w9 b1 (0 + 2) (.int .i64 r6.2.1) fun w10 =>
 ldI w10 .i64 b1 0 fun n11 =>
 ldB w10 b1 (0 + 1) fun b12 =>
 ldI w10 .i64 b1 (0 + 2) fun n13 =>
 R [.agg #[.int .i64 n11, .bool b12, .int .i64 n13]] w10) (
 nn a0 fun b14 o15 =>
 ldS w2 b14 (o15 + 3) fun s16 =>
 ix s16 0 1 fun b17 o18 =>
 ldI w2 .i64 b17 o18 fun n19 =>
 al w2 256 [.int .i64 0, .bool false, .int .i64 0] fun b20 w21 =>
 st1 w21 b20 0 (.int .i64 n19) fun w22 =>
 st1 w22 b20 (0 + 1) (.bool true) fun w23 =>
 st1 w23 b20 (0 + 2) (.int .i64 0) fun w24 =>
 nn a0 fun b25 o26 =>
 ldS w24 b25 (o26 + 3) fun s27 =>
 sb s27 1 s27.len s27.cap 1 fun s28 =>
 cl Pg 70 [vS s28] [kS] w24 fun (r29 : Sl × Unit) w30 =>
 nn a0 fun b31 o32 =>
 st1 w30 b31 (o32 + 3) (vS r29.1) fun w33 =>
 cl Pg 218 [.pointer a0] [kI, kI, kB] w33 fun (r34 : Int × Int × Bool × Unit) w35 =>
 cs r34.2.2.1 (
 nn a0 fun b36 o37 =>
 ldS w35 b36 (o37 + 3) fun s38 =>
 al w35 3 [.int .i64 r34.1] fun b39 w40 =>
 ef Pg (Builtin.append_ #[72, 72] 72 #[vS s38, vS ⟨some ⟨b39, 0, none⟩, 1, 1⟩]) [kS] w40 fun (r41 : Sl × Unit) w42 =>
 nn a0 fun b43 o44 =>
 st1 w42 b43 (o44 + 3) (vS r41.1) fun w45 =>
 st1 w45 b20 (0 + 2) (.int .i64 r34.2.1) fun w46 =>
 ldI w46 .i64 b20 0 fun n47 =>
 ldB w46 b20 (0 + 1) fun b48 =>
 ldI w46 .i64 b20 (0 + 2) fun n49 =>
 st1 w46 b1 0 (.int .i64 n47) fun w50 =>
 st1 w50 b1 (0 + 1) (.bool b48) fun w51 =>
 st1 w51 b1 (0 + 2) (.int .i64 n49) fun w52 =>
 ldI w52 .i64 b1 0 fun n53 =>
 ldB w52 b1 (0 + 1) fun b54 =>
 ldI w52 .i64 b1 (0 + 2) fun n55 =>
 R [.agg #[.int .i64 n53, .bool b54, .int .i64 n55]] w52) (
 ldI w35 .i64 b20 0 fun n56 =>
 ldB w35 b20 (0 + 1) fun b57 =>
 ldI w35 .i64 b20 (0 + 2) fun n58 =>
 st1 w35 b1 0 (.int .i64 n56) fun w59 =>
 st1 w59 b1 (0 + 1) (.bool b57) fun w60 =>
 st1 w60 b1 (0 + 2) (.int .i64 n58) fun w61 =>
 ldI w61 .i64 b1 0 fun n62 =>
 ldB w61 b1 (0 + 1) fun b63 =>
 ldI w61 .i64 b1 (0 + 2) fun n64 =>
 R [.agg #[.int .i64 n62, .bool b63, .int .i64 n64]] w61))
theorem tie153 (a0 : Option Addr) (R : List Value → World → Prop) (w : World) : compF Pg Tryz.f153 ⟨[], [], [], []⟩ [.pointer a0] R w = sh153 a0 R w := by kernel_rfl
theorem call153 {a0 : Option Addr} {w : World} {K : TK [.a [(.i .i64), .b, (.i .i64)]] → World → Prop} (h : sh153 a0 (fun vs w' => ∃ t, encK [.a [(.i .i64), .b, (.i .i64)]] t = vs ∧ K t w') w) : cl Pg 153 [.pointer a0] [.a [(.i .i64), .b, (.i .i64)]] w K := cl_of Tryz.func153 (tie153 ..) h
def sh82 (a0 : Option Addr) (a1 : (Int × Int × Int × Int × Int × Unit)) (R : List Value → World → Prop) (w : World) : Prop :=
 al w 97 [.int .i64 a1.1, .int .i64 a1.2.1, .int .i64 a1.2.2.1, .int .i64 a1.2.2.2.1, .int .i64 a1.2.2.2.2.1] fun b1 w2 =>
 al w2 57 [.int .i64 0, .int .i64 0] fun b3 w4 =>
 ixA b1 (0 + 1) 4 0 1 fun b5 o6 =>
 ldI w4 .i64 b5 o6 fun n7 =>
 nn a0 fun b8 o9 =>
 ldS w4 b8 (o9 + 2) fun s10 =>
 cl Pg 149 [vS s10, .int .i64 (if 0 > (if 9 < n7 then 9 else n7) then 0 else (if 9 < n7 then 9 else n7))] [kP, kB] w4 fun (r11 : Option Addr × Bool × Unit) w12 =>
 ldI w12 .i64 b1 0 fun n13 =>
 ldI w12 .i64 b1 (0 + 1) fun n14 =>
 ldI w12 .i64 b1 (0 + 2) fun n15 =>
 ldI w12 .i64 b1 (0 + 3) fun n16 =>
 ldI w12 .i64 b1 (0 + 4) fun n17 =>
 cl Pg 141 [.agg #[.int .i64 n13, .int .i64 n14, .int .i64 n15, .int .i64 n16, .int .i64 n17], .int .i64 35, .int .i64 37] [kI] w12 fun (r18 : Int × Unit) w19 =>
 ldI w19 .i64 b1 0 fun n20 =>
 jn [kI] w19 (fun (t22 : Int × Unit) w23 =>
 ldI w23 .i64 b1 0 fun n25 =>
 jn [kI] w23 (fun (t27 : Int × Unit) w28 =>
 cs (!r11.2.1) (
 cl Pg 77 [.int .i64 (-18), .slice none 0 0] [.a [(.i .i64), (.i .i64)]] w28 fun (r30 : (Int × Int × Unit) × Unit) w31 =>
 st1 w31 b3 0 (.int .i64 r30.1.1) fun w32 =>
 st1 w32 b3 (0 + 1) (.int .i64 r30.1.2.1) fun w33 =>
 ldI w33 .i64 b3 0 fun n34 =>
 ldI w33 .i64 b3 (0 + 1) fun n35 =>
 R [.agg #[.int .i64 n34, .int .i64 n35]] w33) (
 cl Pg 136 [.int .i64 t27.1] [kB] w28 fun (r36 : Bool × Unit) w37 =>
 cs (!r36.1) (
 cl Pg 77 [.int .i64 (-17), .slice none 0 0] [.a [(.i .i64), (.i .i64)]] w37 fun (r38 : (Int × Int × Unit) × Unit) w39 =>
 st1 w39 b3 0 (.int .i64 r38.1.1) fun w40 =>
 st1 w40 b3 (0 + 1) (.int .i64 r38.1.2.1) fun w41 =>
 ldI w41 .i64 b3 0 fun n42 =>
 ldI w41 .i64 b3 (0 + 1) fun n43 =>
 R [.agg #[.int .i64 n42, .int .i64 n43]] w41) (
 ldI w37 .i64 b1 0 fun n44 =>
 jn [kB] w37 (fun (t46 : Bool × Unit) w47 =>
 cs t46.1 (
 ixA b1 (0 + 1) 4 1 1 fun b49 o50 =>
 ldI w47 .i64 b49 o50 fun n51 =>
 cl Pg 150 [.pointer r11.1, .int .i64 n51] [kI, kI] w47 fun (r52 : Int × Int × Unit) w53 =>
 ixA b1 (0 + 1) 4 1 1 fun b54 o55 =>
 ldI w53 .i64 b54 o55 fun n56 =>
 al w53 3 [.int .i64 r52.1] fun b57 w58 =>
 cl Pg 143 [.pointer a0, .int .i64 n56, vS ⟨some ⟨b57, 0, none⟩, 1, 1⟩] [] w58 fun (r59 : Unit) w60 =>
 cl Pg 77 [.int .i64 r52.2.1, .slice none 0 0] [.a [(.i .i64), (.i .i64)]] w60 fun (r61 : (Int × Int × Unit) × Unit) w62 =>
 st1 w62 b3 0 (.int .i64 r61.1.1) fun w63 =>
 st1 w63 b3 (0 + 1) (.int .i64 r61.1.2.1) fun w65 =>
 ldI w65 .i64 b3 0 fun n66 =>
 ldI w65 .i64 b3 (0 + 1) fun n67 =>
 R [.agg #[.int .i64 n66, .int .i64 n67]] w65) (
 ldI w47 .i64 b1 0 fun n68 =>
 cs (decide ((n68 : Int) < (40 : Int))) (
 ixA b1 (0 + 1) 4 1 1 fun b69 o70 =>
 ldI w47 .i64 b69 o70 fun n71 =>
 cl Pg 151 [.pointer r11.1, .int .i64 n71] [kB, kI] w47 fun (r72 : Bool × Int × Unit) w73 =>
 ixA b1 (0 + 1) 4 1 1 fun b74 o75 =>
 ldI w73 .i64 b74 o75 fun n76 =>
 al w73 3 [.int .i64 r72.2.1] fun b77 w78 =>
 cl Pg 143 [.pointer a0, .int .i64 n76, vS ⟨some ⟨b77, 0, none⟩, 1, 1⟩] [] w78 fun (r79 : Unit) w80 =>
 cs r72.1 (
 cl Pg 77 [.int .i64 0, .slice none 0 0] [.a [(.i .i64), (.i .i64)]] w80 fun (r81 : (Int × Int × Unit) × Unit) w82 =>
 st1 w82 b3 0 (.int .i64 r81.1.1) fun w83 =>
 st1 w83 b3 (0 + 1) (.int .i64 r81.1.2.1) fun w84 =>
 ldI w84 .i64 b3 0 fun n85 =>
 ldI w84 .i64 b3 (0 + 1) fun n86 =>
 R [.agg #[.int .i64 n85, .int .i64 n86]] w84) (
 cs ((t27.1 : Int) == (0 : Int)) (
 cl Pg 77 [.int .i64 (-50), .slice none 0 0] [.a [(.i .i64), (.i .i64)]] w80 fun (r87 : (Int × Int × Unit) × Unit) w88 =>
 st1 w88 b3 0 (.int .i64 r87.1.1) fun w89 =>
 st1 w89 b3 (0 + 1) (.int .i64 r87.1.2.1) fun w90 =>
 ldI w90 .i64 b3 0 fun n91 =>
 ldI w90 .i64 b3 (0 + 1) fun n92 =>
 R [.agg #[.int .i64 n91, .int .i64 n92]] w90) (
 dr w80 fun w93 =>
 nn a0 fun b94 o95 =>
 ldI w93 .i64 b94 (o95 + 12) fun n96 =>
 nn a0 fun b97 o98 =>
 ldP w93 b97 (o98 + 5) fun p99 =>
 nn a0 fun b100 o101 =>
 ldI w93 .i64 b100 (o101 + 12) fun n102 =>
 ixA b1 (0 + 1) 4 1 1 fun b103 o104 =>
 ldI w93 .i64 b103 o104 fun n105 =>
 cl Pg 35 [.pointer p99, .int .i64 n102] [kI] w93 fun (r106 : Int × Unit) w107 =>
(w107.cell? ⟨b103, o104, none⟩ = some (.int .i64 n105)) ∧ (
(w107.cell? ⟨b94, o95 + 12, none⟩ = some (.int .i64 n96)) ∧ (
 cl Pg 152 [.pointer r11.1, .int .i64 n96, .int .i64 r106.1, .int .i64 n105] [kB, kI, kI] w107 fun (r108 : Bool × Int × Int × Unit) w109 =>
 cl Pg 138 [.pointer a0, .int .i64 5, .int .i64 (if 0 > (if 9 < n7 then 9 else n7) then 0 else (if 9 < n7 then 9 else n7)), .int .i64 t27.1] [.a [(.i .i64), (.i .i64)]] w109 fun (r110 : (Int × Int × Unit) × Unit) w111 =>
 st1 w111 b3 0 (.int .i64 r110.1.1) fun w112 =>
 st1 w112 b3 (0 + 1) (.int .i64 r110.1.2.1) fun w113 =>
 ldI w113 .i64 b3 0 fun n114 =>
 ldI w113 .i64 b3 (0 + 1) fun n115 =>
 R [.agg #[.int .i64 n114, .int .i64 n115]] w113))))) (
 cl Pg 153 [.pointer r11.1] [.a [(.i .i64), .b, (.i .i64)]] w47 fun (r116 : (Int × Bool × Int × Unit) × Unit) w117 =>
 al w117 256 [.int .i64 0, .bool false, .int .i64 0] fun b118 w119 =>
 st1 w119 b118 0 (.int .i64 r116.1.1) fun w120 =>
 st1 w120 b118 (0 + 1) (.bool r116.1.2.1) fun w121 =>
 st1 w121 b118 (0 + 2) (.int .i64 r116.1.2.2.1) fun w122 =>
 ldI w122 .i64 b118 (0 + 2) fun n123 =>
 al w122 3 [.int .i64 n123] fun b124 w125 =>
 cl Pg 143 [.pointer a0, .int .i64 0, vS ⟨some ⟨b124, 0, none⟩, 1, 1⟩] [] w125 fun (r126 : Unit) w127 =>
 ldB w127 b118 (0 + 1) fun b128 =>
 cs b128 (
 ldI w127 .i64 b118 0 fun n129 =>
 al w127 2 [.int .i64 n129] fun b130 w131 =>
 cl Pg 77 [.int .i64 0, vS ⟨some ⟨b130, 0, none⟩, 1, 1⟩] [.a [(.i .i64), (.i .i64)]] w131 fun (r132 : (Int × Int × Unit) × Unit) w133 =>
 st1 w133 b3 0 (.int .i64 r132.1.1) fun w134 =>
 st1 w134 b3 (0 + 1) (.int .i64 r132.1.2.1) fun w135 =>
 ldI w135 .i64 b3 0 fun n136 =>
 ldI w135 .i64 b3 (0 + 1) fun n137 =>
 R [.agg #[.int .i64 n136, .int .i64 n137]] w135) (
 cs ((t27.1 : Int) == (0 : Int)) (
 cl Pg 77 [.int .i64 (-50), .slice none 0 0] [.a [(.i .i64), (.i .i64)]] w127 fun (r138 : (Int × Int × Unit) × Unit) w139 =>
 st1 w139 b3 0 (.int .i64 r138.1.1) fun w140 =>
 st1 w140 b3 (0 + 1) (.int .i64 r138.1.2.1) fun w141 =>
 ldI w141 .i64 b3 0 fun n142 =>
 ldI w141 .i64 b3 (0 + 1) fun n143 =>
 R [.agg #[.int .i64 n142, .int .i64 n143]] w141) (
 dr w127 fun w144 =>
 nn a0 fun b145 o146 =>
 ldI w144 .i64 b145 (o146 + 12) fun n147 =>
 nn a0 fun b148 o149 =>
 ldP w144 b148 (o149 + 5) fun p150 =>
 nn a0 fun b151 o152 =>
 ldI w144 .i64 b151 (o152 + 12) fun n153 =>
 cl Pg 35 [.pointer p150, .int .i64 n153] [kI] w144 fun (r154 : Int × Unit) w155 =>
(w155.cell? ⟨b145, o146 + 12, none⟩ = some (.int .i64 n147)) ∧ (
 cl Pg 154 [.pointer r11.1, .int .i64 n147, .int .i64 r154.1] [.a [(.i .i64), .b, (.i .i64)], kI] w155 fun (r156 : (Int × Bool × Int × Unit) × Int × Unit) w157 =>
 cl Pg 138 [.pointer a0, .int .i64 6, .int .i64 (if 0 > (if 9 < n7 then 9 else n7) then 0 else (if 9 < n7 then 9 else n7)), .int .i64 t27.1] [.a [(.i .i64), (.i .i64)]] w157 fun (r158 : (Int × Int × Unit) × Unit) w159 =>
 st1 w159 b3 0 (.int .i64 r158.1.1) fun w160 =>
 st1 w160 b3 (0 + 1) (.int .i64 r158.1.2.1) fun w161 =>
 ldI w161 .i64 b3 0 fun n162 =>
 ldI w161 .i64 b3 (0 + 1) fun n163 =>
 R [.agg #[.int .i64 n162, .int .i64 n163]] w161)))))) fun J45 w48 =>
 cs ((n44 : Int) == (38 : Int)) (
 J45 (true, ()) w48) (
 ldI w48 .i64 b1 0 fun n164 =>
 J45 ((n164 : Int) == (39 : Int), ()) w48)))) fun J26 w29 =>
 cs (decide ((n25 : Int) ≥ (40 : Int))) (
 ldI w29 .i64 b1 0 fun n165 =>
 ldI w29 .i64 b1 (0 + 1) fun n166 =>
 ldI w29 .i64 b1 (0 + 2) fun n167 =>
 ldI w29 .i64 b1 (0 + 3) fun n168 =>
 ldI w29 .i64 b1 (0 + 4) fun n169 =>
 cl Pg 141 [.agg #[.int .i64 n165, .int .i64 n166, .int .i64 n167, .int .i64 n168, .int .i64 n169], .int .i64 41, .int .i64 42] [kI] w29 fun (r170 : Int × Unit) w171 =>
 J26 (r170.1, ()) w171) (
 J26 (t22.1, ()) w29)) fun J21 w24 =>
 cs ((n20 : Int) == (36 : Int)) (
 J21 ((0 : Int), ()) w24) (
 J21 (r18.1, ()) w24)
theorem tie82 (a0 : Option Addr) (a1 : (Int × Int × Int × Int × Int × Unit)) (R : List Value → World → Prop) (w : World) : compF Pg Tryz.f82 ⟨[(0, ⟨[(8, kI)], []⟩), (1, ⟨[(8, kI)], [37, 38]⟩)], [], [(23, .l [(0, []), (1, []), (2, []), (3, []), (4, []), (5, []), (6, []), (7, []), (8, []), (9, []), (10, []), (11, []), (12, []), (13, []), (15, []), (16, []), (17, []), (14, [9, 13, 8, 12, 7, 11, 6, 10, 5]), (18, [0, 4, 14, 17, 3, 9, 13, 16, 2, 8, 12, 15, 1, 7, 11, 6, 10, 5])]), (31, .l [(0, []), (1, []), (2, []), (3, []), (4, []), (5, []), (6, []), (7, []), (8, []), (9, []), (10, []), (11, []), (12, []), (13, []), (14, [9, 13, 8, 12, 7, 11, 6, 10, 5]), (15, [0, 4, 14, 3, 9, 13, 2, 8, 12, 1, 7, 11, 6, 10, 5])])], [(12, [(4, 4, ⟨[(56, kB)], [53, 54, 55]⟩)])]⟩ [.pointer a0, .agg #[.int .i64 a1.1, .int .i64 a1.2.1, .int .i64 a1.2.2.1, .int .i64 a1.2.2.2.1, .int .i64 a1.2.2.2.2.1]] R w = sh82 a0 a1 R w := by kernel_rfl
theorem call82 {a0 : Option Addr} {a1 : (Int × Int × Int × Int × Int × Unit)} {w : World} {K : TK [.a [(.i .i64), (.i .i64)]] → World → Prop} (h : sh82 a0 a1 (fun vs w' => ∃ t, encK [.a [(.i .i64), (.i .i64)]] t = vs ∧ K t w') w) : cl Pg 82 [.pointer a0, .agg #[.int .i64 a1.1, .int .i64 a1.2.1, .int .i64 a1.2.2.1, .int .i64 a1.2.2.2.1, .int .i64 a1.2.2.2.2.1]] [.a [(.i .i64), (.i .i64)]] w K := cl_of Tryz.func82 (tie82 ..) h
def sh83 (a0 : Option Addr) (a1 : (Int × Int × Int × Int × Int × Unit)) (R : List Value → World → Prop) (w : World) : Prop :=
 al w 97 [.int .i64 a1.1, .int .i64 a1.2.1, .int .i64 a1.2.2.1, .int .i64 a1.2.2.2.1, .int .i64 a1.2.2.2.2.1] fun b1 w2 =>
 al w2 57 [.int .i64 0, .int .i64 0] fun b3 w4 =>
 ixA b1 (0 + 1) 4 0 1 fun b5 o6 =>
 ldI w4 .i64 b5 o6 fun n7 =>
 ldI w4 .i64 b1 0 fun n8 =>
 ldI w4 .i64 b1 (0 + 1) fun n9 =>
 ldI w4 .i64 b1 (0 + 2) fun n10 =>
 ldI w4 .i64 b1 (0 + 3) fun n11 =>
 ldI w4 .i64 b1 (0 + 4) fun n12 =>
 cl Pg 141 [.agg #[.int .i64 n8, .int .i64 n9, .int .i64 n10, .int .i64 n11, .int .i64 n12], .int .i64 44, .int .i64 45] [kI] w4 fun (r13 : Int × Unit) w14 =>
 jn [kB] w14 (fun (t16 : Bool × Unit) w17 =>
 cs t16.1 (
 cl Pg 77 [.int .i64 (-18), .slice none 0 0] [.a [(.i .i64), (.i .i64)]] w17 fun (r19 : (Int × Int × Unit) × Unit) w20 =>
 st1 w20 b3 0 (.int .i64 r19.1.1) fun w21 =>
 st1 w21 b3 (0 + 1) (.int .i64 r19.1.2.1) fun w22 =>
 ldI w22 .i64 b3 0 fun n23 =>
 ldI w22 .i64 b3 (0 + 1) fun n24 =>
 R [.agg #[.int .i64 n23, .int .i64 n24]] w22) (
 cl Pg 136 [.int .i64 r13.1] [kB] w17 fun (r25 : Bool × Unit) w26 =>
 cs (!r25.1) (
 cl Pg 77 [.int .i64 (-17), .slice none 0 0] [.a [(.i .i64), (.i .i64)]] w26 fun (r27 : (Int × Int × Unit) × Unit) w28 =>
 st1 w28 b3 0 (.int .i64 r27.1.1) fun w29 =>
 st1 w29 b3 (0 + 1) (.int .i64 r27.1.2.1) fun w30 =>
 ldI w30 .i64 b3 0 fun n31 =>
 ldI w30 .i64 b3 (0 + 1) fun n32 =>
 R [.agg #[.int .i64 n31, .int .i64 n32]] w30) (
 ldI w26 .i64 b1 0 fun n33 =>
 cs ((n33 : Int) == (46 : Int)) (
 dr w26 fun w34 =>
 nn a0 fun b35 o36 =>
 ldP w34 b35 (o36 + 5) fun p37 =>
 nn a0 fun b38 o39 =>
 ldI w34 .i64 b38 (o39 + 12) fun n40 =>
 cl Pg 155 [.pointer p37, .int .i64 (if 0 > (if 9 < n7 then 9 else n7) then 0 else (if 9 < n7 then 9 else n7)), .int .i64 n40] [kI, kI] w34 fun (r41 : Int × Int × Unit) w42 =>
 al w42 3 [.int .i64 r41.1] fun b43 w44 =>
 cl Pg 143 [.pointer a0, .int .i64 0, vS ⟨some ⟨b43, 0, none⟩, 1, 1⟩] [] w44 fun (r45 : Unit) w46 =>
 cl Pg 56 [.pointer a0] [] w46 fun (r47 : Unit) w48 =>
 cl Pg 77 [.int .i64 r41.2.1, .slice none 0 0] [.a [(.i .i64), (.i .i64)]] w48 fun (r49 : (Int × Int × Unit) × Unit) w50 =>
 st1 w50 b3 0 (.int .i64 r49.1.1) fun w51 =>
 st1 w51 b3 (0 + 1) (.int .i64 r49.1.2.1) fun w52 =>
 ldI w52 .i64 b3 0 fun n53 =>
 ldI w52 .i64 b3 (0 + 1) fun n54 =>
 R [.agg #[.int .i64 n53, .int .i64 n54]] w52) (
 nn a0 fun b55 o56 =>
 ldP w26 b55 (o56 + 5) fun p57 =>
 jn [kF] w26 (fun (t59 : Fv × Unit) w60 =>
 nn a0 fun b62 o63 =>
 ldI w60 .i64 b62 (o63 + 12) fun n64 =>
 ob (enterable Pg t59.1.fid = true) (
 cl Pg t59.1.fid (t59.1.pre ++ ([.int .i64 (if 0 > (if 9 < n7 then 9 else n7) then 0 else (if 9 < n7 then 9 else n7)), .int .i64 n64] ++ t59.1.post)) [kB, kI] w60 fun (r65 : Bool × Int × Unit) w66 =>
 jn [kB] w66 (fun (t68 : Bool × Unit) w69 =>
 cs t68.1 (
 cl Pg 56 [.pointer a0] [] w69 fun (r71 : Unit) w72 =>
 cl Pg 77 [.int .i64 r65.2.1, .slice none 0 0] [.a [(.i .i64), (.i .i64)]] w72 fun (r73 : (Int × Int × Unit) × Unit) w74 =>
 st1 w74 b3 0 (.int .i64 r73.1.1) fun w75 =>
 st1 w75 b3 (0 + 1) (.int .i64 r73.1.2.1) fun w76 =>
 ldI w76 .i64 b3 0 fun n77 =>
 ldI w76 .i64 b3 (0 + 1) fun n78 =>
 R [.agg #[.int .i64 n77, .int .i64 n78]] w76) (
 cs ((r13.1 : Int) == (0 : Int)) (
 cl Pg 77 [.int .i64 (-50), .slice none 0 0] [.a [(.i .i64), (.i .i64)]] w69 fun (r79 : (Int × Int × Unit) × Unit) w80 =>
 st1 w80 b3 0 (.int .i64 r79.1.1) fun w81 =>
 st1 w81 b3 (0 + 1) (.int .i64 r79.1.2.1) fun w82 =>
 ldI w82 .i64 b3 0 fun n83 =>
 ldI w82 .i64 b3 (0 + 1) fun n84 =>
 R [.agg #[.int .i64 n83, .int .i64 n84]] w82) (
 cl Pg 138 [.pointer a0, .int .i64 7, .int .i64 (if 0 > (if 9 < n7 then 9 else n7) then 0 else (if 9 < n7 then 9 else n7)), .int .i64 r13.1] [.a [(.i .i64), (.i .i64)]] w69 fun (r85 : (Int × Int × Unit) × Unit) w86 =>
 st1 w86 b3 0 (.int .i64 r85.1.1) fun w87 =>
 st1 w87 b3 (0 + 1) (.int .i64 r85.1.2.1) fun w88 =>
 ldI w88 .i64 b3 0 fun n89 =>
 ldI w88 .i64 b3 (0 + 1) fun n90 =>
 R [.agg #[.int .i64 n89, .int .i64 n90]] w88))) fun J67 w70 =>
 cs r65.1 (
 J67 (true, ()) w70) (
 J67 ((r65.2.1 : Int) != (0 : Int), ()) w70))) fun J58 w61 =>
 cs ((r13.1 : Int) == (0 : Int)) (
 nn a0 fun b91 o92 =>
 ldP w61 b91 (o92 + 5) fun p93 =>
 J58 (⟨65, [.pointer p93], []⟩, ()) w61) (
 J58 (⟨32, [.pointer p57], []⟩, ()) w61))))) fun J15 w18 =>
 cs (decide (((if 0 > (if 9 < n7 then 9 else n7) then 0 else (if 9 < n7 then 9 else n7)) : Int) < (1 : Int))) (
 J15 (true, ()) w18) (
 nn a0 fun b94 o95 =>
 ldI w18 .i64 b94 (o95 + 4) fun n96 =>
 J15 (decide (((if 0 > (if 9 < n7 then 9 else n7) then 0 else (if 9 < n7 then 9 else n7)) : Int) > (n96 : Int)), ()) w18)
theorem tie83 (a0 : Option Addr) (a1 : (Int × Int × Int × Int × Int × Unit)) (R : List Value → World → Prop) (w : World) : compF Pg Tryz.f83 ⟨[(4, ⟨[(9, kF)], [71, 72, 73, 74, 75, 76]⟩)], [], [(8, .l [(0, []), (1, []), (2, []), (3, []), (4, []), (5, []), (6, []), (7, []), (8, []), (9, []), (10, [4, 5, 9, 3, 8, 2, 7, 1, 6, 0]), (11, []), (12, []), (13, []), (14, []), (15, [])])], [(3, [(3, 8, ⟨[(30, kB)], [23, 24, 25, 26, 27, 28, 29]⟩)]), (16, [(2, 3, ⟨[(92, kB)], [90, 91]⟩)])]⟩ [.pointer a0, .agg #[.int .i64 a1.1, .int .i64 a1.2.1, .int .i64 a1.2.2.1, .int .i64 a1.2.2.2.1, .int .i64 a1.2.2.2.2.1]] R w = sh83 a0 a1 R w := by kernel_rfl
theorem call83 {a0 : Option Addr} {a1 : (Int × Int × Int × Int × Int × Unit)} {w : World} {K : TK [.a [(.i .i64), (.i .i64)]] → World → Prop} (h : sh83 a0 a1 (fun vs w' => ∃ t, encK [.a [(.i .i64), (.i .i64)]] t = vs ∧ K t w') w) : cl Pg 83 [.pointer a0, .agg #[.int .i64 a1.1, .int .i64 a1.2.1, .int .i64 a1.2.2.1, .int .i64 a1.2.2.2.1, .int .i64 a1.2.2.2.2.1]] [.a [(.i .i64), (.i .i64)]] w K := cl_of Tryz.func83 (tie83 ..) h
def sh72 (a0 : Sl) (a1 : Int) (R : List Value → World → Prop) (w : World) : Prop :=
 jn [kB] w (fun (t2 : Bool × Unit) w3 =>
 cs t2.1 (
 R [.pointer none, .bool false] w3) (
 ix a0 (w64 (a1 - 1)) 1 fun b5 o6 =>
 ldP w3 b5 o6 fun p7 =>
 R [.pointer p7, .bool true] w3)) fun J1 w4 =>
 cs (decide ((a1 : Int) < (1 : Int))) (
 J1 (true, ()) w4) (
 J1 (decide ((a1 : Int) > ((a0.len : Int) : Int)), ()) w4)
theorem tie72 (a0 : Sl) (a1 : Int) (R : List Value → World → Prop) (w : World) : compF Pg Tryz.f72 ⟨[], [], [], [(2, [(3, 5, ⟨[(14, kB)], [10, 11, 12, 13]⟩)])]⟩ [vS a0, .int .i64 a1] R w = sh72 a0 a1 R w := by kernel_rfl
theorem call72 {a0 : Sl} {a1 : Int} {w : World} {K : TK [kP, kB] → World → Prop} (h : sh72 a0 a1 (fun vs w' => ∃ t, encK [kP, kB] t = vs ∧ K t w') w) : cl Pg 72 [vS a0, .int .i64 a1] [kP, kB] w K := cl_of Tryz.func72 (tie72 ..) h
def sh234 (a0 : Int) (R : List Value → World → Prop) (w : World) : Prop :=
 R [.bool ((a0 : Int) != (a0 : Int))] w
theorem tie234 (a0 : Int) (R : List Value → World → Prop) (w : World) : compF Pg Tryz.f234 ⟨[], [], [], []⟩ [.int .i64 a0] R w = sh234 a0 R w := by kernel_rfl
theorem call234 {a0 : Int} {w : World} {K : TK [kB] → World → Prop} (h : sh234 a0 (fun vs w' => ∃ t, encK [kB] t = vs ∧ K t w') w) : cl Pg 234 [.int .i64 a0] [kB] w K := cl_of Tryz.func234 (tie234 ..) h
def sh245 (a0 : Int) (a1 : Int) (R : List Value → World → Prop) (w : World) : Prop :=
 cl Pg 234 [.int .i64 a0] [kB] w fun (r1 : Bool × Unit) w2 =>
 jn [kB] w2 (fun (t4 : Bool × Unit) w5 =>
 jn [kB] w5 (fun (t8 : Bool × Unit) w9 =>
 R [.bool t8.1] w9) fun J7 w10 =>
 cs t4.1 (
 J7 (true, ()) w10) (
 J7 (decide ((a0 : Int) < (a1 : Int)), ()) w10)) fun J3 w6 =>
 cs r1.1 (
 cl Pg 234 [.int .i64 a1] [kB] w6 fun (r11 : Bool × Unit) w12 =>
 J3 (!r11.1, ()) w12) (
 J3 (false, ()) w6)
theorem tie245 (a0 : Int) (a1 : Int) (R : List Value → World → Prop) (w : World) : compF Pg Tryz.f245 ⟨[], [], [], [(1, [(3, 4, ⟨[(11, kB)], [8, 9, 10]⟩), (8, 4, ⟨[(16, kB)], [13, 14, 15]⟩)])]⟩ [.int .i64 a0, .int .i64 a1] R w = sh245 a0 a1 R w := by kernel_rfl
theorem call245 {a0 : Int} {a1 : Int} {w : World} {K : TK [kB] → World → Prop} (h : sh245 a0 a1 (fun vs w' => ∃ t, encK [kB] t = vs ∧ K t w') w) : cl Pg 245 [.int .i64 a0, .int .i64 a1] [kB] w K := cl_of Tryz.func245 (tie245 ..) h
def sh246 (a0 : Int) (R : List Value → World → Prop) (w : World) : Prop :=
 R [.bool ((a0 : Int) != (a0 : Int))] w
theorem tie246 (a0 : Int) (R : List Value → World → Prop) (w : World) : compF Pg Tryz.f246 ⟨[], [], [], []⟩ [.int .i64 a0] R w = sh246 a0 R w := by kernel_rfl
theorem call246 {a0 : Int} {w : World} {K : TK [kB] → World → Prop} (h : sh246 a0 (fun vs w' => ∃ t, encK [kB] t = vs ∧ K t w') w) : cl Pg 246 [.int .i64 a0] [kB] w K := cl_of Tryz.func246 (tie246 ..) h
def sh220 (a0 : Sl) (a1 : Int) (R : List Value → World → Prop) (w : World) : Prop :=
 lp [kI, kI] w ((0 : Int), (a0.len : Int), ()) fun (t1 : Int × Int × Unit) J2 w3 =>
 cs (decide ((t1.1 : Int) < (t1.2.1 : Int))) (
 ix a0 (w64 (Int.fdiv (IntKind.u64.wrap (w64 (t1.1 + t1.2.1))) (2 ^ 1))) 1 fun b4 o5 =>
 ldI w3 .i64 b4 o5 fun n6 =>
 cl Pg 245 [.int .i64 n6, .int .i64 a1] [kB] w3 fun (r7 : Bool × Unit) w8 =>
 cs r7.1 (
 J2 (w64 ((w64 (Int.fdiv (IntKind.u64.wrap (w64 (t1.1 + t1.2.1))) (2 ^ 1))) + 1), t1.2.1, ()) w8) (
 J2 (t1.1, w64 (Int.fdiv (IntKind.u64.wrap (w64 (t1.1 + t1.2.1))) (2 ^ 1)), ()) w8)) (
 jn [kB] w3 (fun (t10 : Bool × Unit) w11 =>
 R [.int .i64 t1.1, .bool t10.1] w11) fun J9 w12 =>
 cs (decide ((t1.1 : Int) < ((a0.len : Int) : Int))) (
 ix a0 t1.1 1 fun b13 o14 =>
 ldI w12 .i64 b13 o14 fun n15 =>
 jn [kB] w12 (fun (t17 : Bool × Unit) w18 =>
 J9 (t17.1, ()) w18) fun J16 w19 =>
 cs ((n15 : Int) == (a1 : Int)) (
 J16 (true, ()) w19) (
 ix a0 t1.1 1 fun b20 o21 =>
 ldI w19 .i64 b20 o21 fun n22 =>
 cl Pg 246 [.int .i64 n22] [kB] w19 fun (r23 : Bool × Unit) w24 =>
 jn [kB] w24 (fun (t26 : Bool × Unit) w27 =>
 J16 (t26.1, ()) w27) fun J25 w28 =>
 cs r23.1 (
 cl Pg 246 [.int .i64 a1] [kB] w28 fun (r29 : Bool × Unit) w30 =>
 J25 (r29.1, ()) w30) (
 J25 (false, ()) w28))) (
 J9 (false, ()) w12))
theorem tie220 (a0 : Sl) (a1 : Int) (R : List Value → World → Prop) (w : World) : compF Pg Tryz.f220 ⟨[(1, ⟨[(7, kI), (8, kI)], [9, 13, 14, 15, 16, 17, 18, 19, 20, 21, 22, 23, 24, 25, 26, 27, 28, 29, 30]⟩)], [], [], [(8, [(5, 18, ⟨[(53, kB)], [36, 37, 38, 39, 40, 41, 42, 43, 44, 45, 46, 47, 48, 49, 50, 51, 52]⟩), (12, 10, ⟨[(52, kB)], [43, 44, 45, 46, 47, 48, 49, 50, 51]⟩), (18, 3, ⟨[(51, kB)], [49, 50]⟩)])]⟩ [vS a0, .int .i64 a1] R w = sh220 a0 a1 R w := by kernel_rfl
theorem call220 {a0 : Sl} {a1 : Int} {w : World} {K : TK [kI, kB] → World → Prop} (h : sh220 a0 a1 (fun vs w' => ∃ t, encK [kI, kB] t = vs ∧ K t w') w) : cl Pg 220 [vS a0, .int .i64 a1] [kI, kB] w K := cl_of Tryz.func220 (tie220 ..) h
def sh156 (a0 : Option Addr) (a1 : Int) (R : List Value → World → Prop) (w : World) : Prop :=
 nn a0 fun b1 o2 =>
 ldS w b1 (o2 + 6) fun s3 =>
 cl Pg 220 [vS s3, .int .i64 a1] [kI, kB] w fun (r4 : Int × Bool × Unit) w5 =>
 cs (!r4.2.1) (
 R [.int .i64 0, .int .i64 (-17)] w5) (
 nn a0 fun b6 o7 =>
 ldP w5 b6 o7 fun p8 =>
 cl Pg 214 [.pointer p8] [.a [(.i .i64), (.i .i64)], kB] w5 fun (r9 : (Int × Int × Unit) × Bool × Unit) w10 =>
 al w10 117 [.int .i64 0, .int .i64 0] fun b11 w12 =>
 st1 w12 b11 0 (.int .i64 r9.1.1) fun w13 =>
 st1 w13 b11 (0 + 1) (.int .i64 r9.1.2.1) fun w14 =>
 cs r9.2.1 (
 ldI w14 .i64 b11 0 fun n15 =>
 R [.int .i64 n15, .int .i64 0] w14) (
 nn a0 fun b16 o17 =>
 ldS w14 b16 (o17 + 6) fun s18 =>
 cl Pg 219 [vS s18, .int .i64 r4.1, .int .i64 (w64 (r4.1 + 1))] [kS] w14 fun (r19 : Sl × Unit) w20 =>
 nn a0 fun b21 o22 =>
 st1 w20 b21 (o22 + 6) (vS r19.1) fun w23 =>
 nn a0 fun b24 o25 =>
 ldS w23 b24 (o25 + 5) fun s26 =>
 al w23 3 [.int .i64 a1] fun b27 w28 =>
 ef Pg (Builtin.append_ #[72, 72] 72 #[vS s26, vS ⟨some ⟨b27, 0, none⟩, 1, 1⟩]) [kS] w28 fun (r29 : Sl × Unit) w30 =>
 nn a0 fun b31 o32 =>
 st1 w30 b31 (o32 + 5) (vS r29.1) fun w33 =>
 R [.int .i64 0, .int .i64 0] w33))
theorem tie156 (a0 : Option Addr) (a1 : Int) (R : List Value → World → Prop) (w : World) : compF Pg Tryz.f156 ⟨[], [], [], []⟩ [.pointer a0, .int .i64 a1] R w = sh156 a0 a1 R w := by kernel_rfl
theorem call156 {a0 : Option Addr} {a1 : Int} {w : World} {K : TK [kI, kI] → World → Prop} (h : sh156 a0 a1 (fun vs w' => ∃ t, encK [kI, kI] t = vs ∧ K t w') w) : cl Pg 156 [.pointer a0, .int .i64 a1] [kI, kI] w K := cl_of Tryz.func156 (tie156 ..) h
def sh157 (a0 : Option Addr) (R : List Value → World → Prop) (w : World) : Prop :=
 nn a0 fun b1 o2 =>
 ldS w b1 (o2 + 5) fun s3 =>
 jn [kI] w (fun (t5 : Int × Unit) w6 =>
 nn a0 fun b8 o9 =>
 ldS w6 b8 (o9 + 6) fun s10 =>
 cl Pg 220 [vS s10, .int .i64 t5.1] [kI, kB] w6 fun (r11 : Int × Bool × Unit) w12 =>
 nn a0 fun b13 o14 =>
 ldS w12 b13 (o14 + 6) fun s15 =>
 al w12 3 [.int .i64 t5.1] fun b16 w17 =>
 cl Pg 126 [vS s15, .int .i64 r11.1, vS ⟨some ⟨b16, 0, none⟩, 1, 1⟩] [kS] w17 fun (r18 : Sl × Unit) w19 =>
 nn a0 fun b20 o21 =>
 st1 w19 b20 (o21 + 6) (vS r18.1) fun w22 =>
 R [.int .i64 t5.1, .bool true] w22) fun J4 w7 =>
 cs (decide (((s3.len : Int) : Int) > (0 : Int))) (
 nn a0 fun b23 o24 =>
 ldS w7 b23 (o24 + 5) fun s25 =>
 ix s25 (w64 ((s3.len : Int) - 1)) 1 fun b26 o27 =>
 ldI w7 .i64 b26 o27 fun n28 =>
 nn a0 fun b29 o30 =>
 ldS w7 b29 (o30 + 5) fun s31 =>
 sb s31 0 (w64 ((s3.len : Int) - 1)) s31.cap 1 fun s32 =>
 nn a0 fun b33 o34 =>
 st1 w7 b33 (o34 + 5) (vS s32) fun w35 =>
 J4 (n28, ()) w35) (
 dr w7 fun w36 =>
 nn a0 fun b37 o38 =>
 ldI w36 .i64 b37 (o38 + 4) fun n39 =>
 nn a0 fun b40 o41 =>
 ldI w36 .i64 b40 (o41 + 2) fun n42 =>
 cs (decide ((n39 : Int) < (n42 : Int))) (
 dr w36 fun w43 =>
 nn a0 fun b44 o45 =>
 ldI w43 .i64 b44 (o45 + 1) fun n46 =>
 nn a0 fun b47 o48 =>
 ldI w43 .i64 b47 (o48 + 4) fun n49 =>
 nn a0 fun b50 o51 =>
 ldI w43 .i64 b50 (o51 + 3) fun n52 =>
 cl Pg 127 [.int .i64 n52, .int .i64 4] [kI] w43 fun (r53 : Int × Unit) w54 =>
(w54.cell? ⟨b47, o48 + 4, none⟩ = some (.int .i64 n49)) ∧ (
(w54.cell? ⟨b44, o45 + 1, none⟩ = some (.int .i64 n46)) ∧ (
 nn a0 fun b55 o56 =>
 ldI w54 .i64 b55 (o56 + 4) fun n57 =>
 nn a0 fun b58 o59 =>
 st1 w54 b58 (o59 + 4) (.int .i64 (w64 (n57 + 1))) fun w60 =>
 J4 (w64 (n46 + (w64 (n49 * r53.1))), ()) w60))) (
 R [.int .i64 0, .bool false] w36))
theorem tie157 (a0 : Option Addr) (R : List Value → World → Prop) (w : World) : compF Pg Tryz.f157 ⟨[(1, ⟨[(4, kI)], [2, 3, 16, 17, 18, 19, 20, 21, 22, 23, 24, 25, 26, 27, 28, 29, 30, 31, 32, 33, 34, 35, 36, 37, 38, 39, 40, 41, 42, 43, 44, 45, 46, 47, 48, 49, 50, 51, 52, 53, 54, 55, 56, 57, 58, 59, 60, 61, 62, 63, 64, 65]⟩)], [], [(7, .l [(0, []), (1, []), (2, []), (3, []), (4, []), (5, []), (6, []), (7, []), (8, []), (9, [])]), (8, .l [(0, []), (1, []), (2, []), (3, []), (4, []), (5, []), (6, []), (7, []), (8, []), (9, []), (10, []), (11, []), (12, [11, 10, 9, 8]), (13, []), (14, []), (15, [])])], []⟩ [.pointer a0] R w = sh157 a0 R w := by kernel_rfl
theorem call157 {a0 : Option Addr} {w : World} {K : TK [kI, kB] → World → Prop} (h : sh157 a0 (fun vs w' => ∃ t, encK [kI, kB] t = vs ∧ K t w') w) : cl Pg 157 [.pointer a0] [kI, kB] w K := cl_of Tryz.func157 (tie157 ..) h
def sh84 (a0 : Option Addr) (a1 : (Int × Int × Int × Int × Int × Unit)) (R : List Value → World → Prop) (w : World) : Prop :=
 al w 97 [.int .i64 a1.1, .int .i64 a1.2.1, .int .i64 a1.2.2.1, .int .i64 a1.2.2.2.1, .int .i64 a1.2.2.2.2.1] fun b1 w2 =>
 al w2 57 [.int .i64 0, .int .i64 0] fun b3 w4 =>
 ixA b1 (0 + 1) 4 0 1 fun b5 o6 =>
 ldI w4 .i64 b5 o6 fun n7 =>
 nn a0 fun b8 o9 =>
 ldS w4 b8 (o9 + 3) fun s10 =>
 cl Pg 72 [vS s10, .int .i64 (if 0 > (if 9 < n7 then 9 else n7) then 0 else (if 9 < n7 then 9 else n7))] [kP, kB] w4 fun (r11 : Option Addr × Bool × Unit) w12 =>
 ldI w12 .i64 b1 0 fun n13 =>
 ldI w12 .i64 b1 (0 + 1) fun n14 =>
 ldI w12 .i64 b1 (0 + 2) fun n15 =>
 ldI w12 .i64 b1 (0 + 3) fun n16 =>
 ldI w12 .i64 b1 (0 + 4) fun n17 =>
 cl Pg 141 [.agg #[.int .i64 n13, .int .i64 n14, .int .i64 n15, .int .i64 n16, .int .i64 n17], .int .i64 48, .int .i64 49] [kI] w12 fun (r18 : Int × Unit) w19 =>
 cs (!r11.2.1) (
 cl Pg 77 [.int .i64 (-18), .slice none 0 0] [.a [(.i .i64), (.i .i64)]] w19 fun (r20 : (Int × Int × Unit) × Unit) w21 =>
 st1 w21 b3 0 (.int .i64 r20.1.1) fun w22 =>
 st1 w22 b3 (0 + 1) (.int .i64 r20.1.2.1) fun w23 =>
 ldI w23 .i64 b3 0 fun n24 =>
 ldI w23 .i64 b3 (0 + 1) fun n25 =>
 R [.agg #[.int .i64 n24, .int .i64 n25]] w23) (
 cl Pg 136 [.int .i64 r18.1] [kB] w19 fun (r26 : Bool × Unit) w27 =>
 cs (!r26.1) (
 cl Pg 77 [.int .i64 (-17), .slice none 0 0] [.a [(.i .i64), (.i .i64)]] w27 fun (r28 : (Int × Int × Unit) × Unit) w29 =>
 st1 w29 b3 0 (.int .i64 r28.1.1) fun w30 =>
 st1 w30 b3 (0 + 1) (.int .i64 r28.1.2.1) fun w31 =>
 ldI w31 .i64 b3 0 fun n32 =>
 ldI w31 .i64 b3 (0 + 1) fun n33 =>
 R [.agg #[.int .i64 n32, .int .i64 n33]] w31) (
 ldI w27 .i64 b1 0 fun n34 =>
 cs ((n34 : Int) == (50 : Int)) (
 ixA b1 (0 + 1) 4 1 1 fun b35 o36 =>
 ldI w27 .i64 b35 o36 fun n37 =>
 cl Pg 156 [.pointer r11.1, .int .i64 n37] [kI, kI] w27 fun (r38 : Int × Int × Unit) w39 =>
 ixA b1 (0 + 1) 4 1 1 fun b40 o41 =>
 ldI w39 .i64 b40 o41 fun n42 =>
 al w39 3 [.int .i64 r38.1] fun b43 w44 =>
 cl Pg 143 [.pointer a0, .int .i64 n42, vS ⟨some ⟨b43, 0, none⟩, 1, 1⟩] [] w44 fun (r45 : Unit) w46 =>
 cl Pg 77 [.int .i64 r38.2.1, .slice none 0 0] [.a [(.i .i64), (.i .i64)]] w46 fun (r47 : (Int × Int × Unit) × Unit) w48 =>
 st1 w48 b3 0 (.int .i64 r47.1.1) fun w49 =>
 st1 w49 b3 (0 + 1) (.int .i64 r47.1.2.1) fun w50 =>
 ldI w50 .i64 b3 0 fun n51 =>
 ldI w50 .i64 b3 (0 + 1) fun n52 =>
 R [.agg #[.int .i64 n51, .int .i64 n52]] w50) (
 cl Pg 157 [.pointer r11.1] [kI, kB] w27 fun (r53 : Int × Bool × Unit) w54 =>
 cs r53.2.1 (
 al w54 2 [.int .i64 r53.1] fun b55 w56 =>
 cl Pg 77 [.int .i64 0, vS ⟨some ⟨b55, 0, none⟩, 1, 1⟩] [.a [(.i .i64), (.i .i64)]] w56 fun (r57 : (Int × Int × Unit) × Unit) w58 =>
 st1 w58 b3 0 (.int .i64 r57.1.1) fun w59 =>
 st1 w59 b3 (0 + 1) (.int .i64 r57.1.2.1) fun w60 =>
 ldI w60 .i64 b3 0 fun n61 =>
 ldI w60 .i64 b3 (0 + 1) fun n62 =>
 R [.agg #[.int .i64 n61, .int .i64 n62]] w60) (
 cs ((r18.1 : Int) == (0 : Int)) (
 cl Pg 77 [.int .i64 (-50), .slice none 0 0] [.a [(.i .i64), (.i .i64)]] w54 fun (r63 : (Int × Int × Unit) × Unit) w65 =>
 st1 w65 b3 0 (.int .i64 r63.1.1) fun w66 =>
 st1 w66 b3 (0 + 1) (.int .i64 r63.1.2.1) fun w67 =>
 ldI w67 .i64 b3 0 fun n68 =>
 ldI w67 .i64 b3 (0 + 1) fun n69 =>
 R [.agg #[.int .i64 n68, .int .i64 n69]] w67) (
 dr w54 fun w70 =>
 nn a0 fun b71 o72 =>
 ldI w70 .i64 b71 (o72 + 12) fun n73 =>
 nn a0 fun b74 o75 =>
 ldP w70 b74 (o75 + 5) fun p76 =>
 nn a0 fun b77 o78 =>
 ldI w70 .i64 b77 (o78 + 12) fun n79 =>
 cl Pg 35 [.pointer p76, .int .i64 n79] [kI] w70 fun (r80 : Int × Unit) w81 =>
(w81.cell? ⟨b71, o72 + 12, none⟩ = some (.int .i64 n73)) ∧ (
 cl Pg 158 [.pointer r11.1, .int .i64 n73, .int .i64 r80.1] [kI, kB, kI] w81 fun (r82 : Int × Bool × Int × Unit) w83 =>
 cl Pg 138 [.pointer a0, .int .i64 8, .int .i64 (if 0 > (if 9 < n7 then 9 else n7) then 0 else (if 9 < n7 then 9 else n7)), .int .i64 r18.1] [.a [(.i .i64), (.i .i64)]] w83 fun (r84 : (Int × Int × Unit) × Unit) w85 =>
 st1 w85 b3 0 (.int .i64 r84.1.1) fun w86 =>
 st1 w86 b3 (0 + 1) (.int .i64 r84.1.2.1) fun w87 =>
 ldI w87 .i64 b3 0 fun n88 =>
 ldI w87 .i64 b3 (0 + 1) fun n89 =>
 R [.agg #[.int .i64 n88, .int .i64 n89]] w87))))))
theorem tie84 (a0 : Option Addr) (a1 : (Int × Int × Int × Int × Int × Unit)) (R : List Value → World → Prop) (w : World) : compF Pg Tryz.f84 ⟨[], [], [(17, .l [(0, []), (1, []), (2, []), (3, []), (4, []), (5, []), (6, []), (7, []), (8, []), (9, []), (10, []), (11, []), (12, []), (13, []), (14, [9, 13, 8, 12, 7, 11, 6, 10, 5]), (15, [0, 4, 14, 3, 9, 13, 2, 8, 12, 1, 7, 11, 6, 10, 5])])], []⟩ [.pointer a0, .agg #[.int .i64 a1.1, .int .i64 a1.2.1, .int .i64 a1.2.2.1, .int .i64 a1.2.2.2.1, .int .i64 a1.2.2.2.2.1]] R w = sh84 a0 a1 R w := by kernel_rfl
theorem call84 {a0 : Option Addr} {a1 : (Int × Int × Int × Int × Int × Unit)} {w : World} {K : TK [.a [(.i .i64), (.i .i64)]] → World → Prop} (h : sh84 a0 a1 (fun vs w' => ∃ t, encK [.a [(.i .i64), (.i .i64)]] t = vs ∧ K t w') w) : cl Pg 84 [.pointer a0, .agg #[.int .i64 a1.1, .int .i64 a1.2.1, .int .i64 a1.2.2.1, .int .i64 a1.2.2.2.1, .int .i64 a1.2.2.2.2.1]] [.a [(.i .i64), (.i .i64)]] w K := cl_of Tryz.func84 (tie84 ..) h
def sh85 (a0 : Option Addr) (a1 : (Int × Int × Int × Int × Int × Unit)) (R : List Value → World → Prop) (w : World) : Prop :=
 al w 97 [.int .i64 a1.1, .int .i64 a1.2.1, .int .i64 a1.2.2.1, .int .i64 a1.2.2.2.1, .int .i64 a1.2.2.2.2.1] fun b1 w2 =>
 al w2 57 [.int .i64 0, .int .i64 0] fun b3 w4 =>
 ixA b1 (0 + 1) 4 0 1 fun b5 o6 =>
 ldI w4 .i64 b5 o6 fun n7 =>
 ldI w4 .i64 b1 0 fun n8 =>
 cs ((n8 : Int) == (51 : Int)) (
 ixA b1 (0 + 1) 4 0 1 fun b9 o10 =>
 ldI w4 .i64 b9 o10 fun n11 =>
 jn [kB] w4 (fun (t13 : Bool × Unit) w14 =>
 cs t13.1 (
 cl Pg 77 [.int .i64 (-17), .slice none 0 0] [.a [(.i .i64), (.i .i64)]] w14 fun (r16 : (Int × Int × Unit) × Unit) w17 =>
 st1 w17 b3 0 (.int .i64 r16.1.1) fun w18 =>
 st1 w18 b3 (0 + 1) (.int .i64 r16.1.2.1) fun w19 =>
 ldI w19 .i64 b3 0 fun n20 =>
 ldI w19 .i64 b3 (0 + 1) fun n21 =>
 R [.agg #[.int .i64 n20, .int .i64 n21]] w19) (
 dr w14 fun w22 =>
 nn a0 fun b23 o24 =>
 ldP w22 b23 (o24 + 7) fun p25 =>
 nn p25 fun b26 o27 =>
 ldP w22 b26 o27 fun p28 =>
 ixA b1 (0 + 1) 4 0 1 fun b29 o30 =>
 ldI w22 .i64 b29 o30 fun n31 =>
 cl Pg 159 [.pointer p28, .int .u64 (IntKind.u64.wrap (n31))] [] w22 fun (r32 : Unit) w33 =>
 cl Pg 77 [.int .i64 0, .slice none 0 0] [.a [(.i .i64), (.i .i64)]] w33 fun (r34 : (Int × Int × Unit) × Unit) w35 =>
 st1 w35 b3 0 (.int .i64 r34.1.1) fun w36 =>
 st1 w36 b3 (0 + 1) (.int .i64 r34.1.2.1) fun w37 =>
 ldI w37 .i64 b3 0 fun n38 =>
 ldI w37 .i64 b3 (0 + 1) fun n39 =>
 R [.agg #[.int .i64 n38, .int .i64 n39]] w37)) fun J12 w15 =>
 cs (decide ((n11 : Int) < (0 : Int))) (
 J12 (true, ()) w15) (
 ixA b1 (0 + 1) 4 0 1 fun b40 o41 =>
 ldI w15 .i64 b40 o41 fun n42 =>
 J12 (decide ((n42 : Int) ≥ (281474976710656 : Int)), ()) w15)) (
 cs ((n8 : Int) == (52 : Int)) (
 nn a0 fun b43 o44 =>
 ldP w4 b43 (o44 + 7) fun p45 =>
 nn p45 fun b46 o47 =>
 ldP w4 b46 o47 fun p48 =>
 cl Pg 58 [.pointer p48] [.l (.i .u64)] w4 fun (r49 : Int × Unit) w50 =>
 al w50 2 [.int .i64 (w64 (r49.1))] fun b51 w52 =>
 cl Pg 77 [.int .i64 0, vS ⟨some ⟨b51, 0, none⟩, 1, 1⟩] [.a [(.i .i64), (.i .i64)]] w52 fun (r53 : (Int × Int × Unit) × Unit) w54 =>
 st1 w54 b3 0 (.int .i64 r53.1.1) fun w55 =>
 st1 w55 b3 (0 + 1) (.int .i64 r53.1.2.1) fun w56 =>
 ldI w56 .i64 b3 0 fun n57 =>
 ldI w56 .i64 b3 (0 + 1) fun n58 =>
 R [.agg #[.int .i64 n57, .int .i64 n58]] w56) (
 cs ((n8 : Int) == (53 : Int)) (
 nn a0 fun b59 o60 =>
 ldP w4 b59 (o60 + 7) fun p61 =>
 cl Pg 160 [.pointer p61, .int .i64 (if 0 > (if 9 < n7 then 9 else n7) then 0 else (if 9 < n7 then 9 else n7))] [kI] w4 fun (r62 : Int × Unit) w63 =>
 cl Pg 77 [.int .i64 r62.1, .slice none 0 0] [.a [(.i .i64), (.i .i64)]] w63 fun (r64 : (Int × Int × Unit) × Unit) w65 =>
 st1 w65 b3 0 (.int .i64 r64.1.1) fun w66 =>
 st1 w66 b3 (0 + 1) (.int .i64 r64.1.2.1) fun w67 =>
 ldI w67 .i64 b3 0 fun n68 =>
 ldI w67 .i64 b3 (0 + 1) fun n69 =>
 R [.agg #[.int .i64 n68, .int .i64 n69]] w67) (
 cs ((n8 : Int) == (54 : Int)) (
 nn a0 fun b70 o71 =>
 ldP w4 b70 (o71 + 7) fun p72 =>
 cl Pg 161 [.pointer p72, .int .i64 (if 0 > (if 9 < n7 then 9 else n7) then 0 else (if 9 < n7 then 9 else n7))] [kI] w4 fun (r73 : Int × Unit) w74 =>
 cl Pg 77 [.int .i64 r73.1, .slice none 0 0] [.a [(.i .i64), (.i .i64)]] w74 fun (r75 : (Int × Int × Unit) × Unit) w76 =>
 st1 w76 b3 0 (.int .i64 r75.1.1) fun w77 =>
 st1 w77 b3 (0 + 1) (.int .i64 r75.1.2.1) fun w78 =>
 ldI w78 .i64 b3 0 fun n79 =>
 ldI w78 .i64 b3 (0 + 1) fun n80 =>
 R [.agg #[.int .i64 n79, .int .i64 n80]] w78) (
 cs ((n8 : Int) == (55 : Int)) (
 dr w4 fun w81 =>
 nn a0 fun b82 o83 =>
 ldP w81 b82 (o83 + 7) fun p84 =>
 ixA b1 (0 + 1) 4 1 1 fun b85 o86 =>
 ldI w81 .i64 b85 o86 fun n87 =>
 cl Pg 162 [.pointer p84, .int .i64 (if 0 > (if 9 < n7 then 9 else n7) then 0 else (if 9 < n7 then 9 else n7)), .int .i64 n87] [kI] w81 fun (r88 : Int × Unit) w89 =>
 cl Pg 77 [.int .i64 r88.1, .slice none 0 0] [.a [(.i .i64), (.i .i64)]] w89 fun (r90 : (Int × Int × Unit) × Unit) w91 =>
 st1 w91 b3 0 (.int .i64 r90.1.1) fun w92 =>
 st1 w92 b3 (0 + 1) (.int .i64 r90.1.2.1) fun w93 =>
 ldI w93 .i64 b3 0 fun n94 =>
 ldI w93 .i64 b3 (0 + 1) fun n95 =>
 R [.agg #[.int .i64 n94, .int .i64 n95]] w93) (
 cs ((n8 : Int) == (56 : Int)) (
 nn a0 fun b96 o97 =>
 ldP w4 b96 (o97 + 7) fun p98 =>
 cl Pg 163 [.pointer p98, .int .i64 (if 0 > (if 9 < n7 then 9 else n7) then 0 else (if 9 < n7 then 9 else n7))] [kI] w4 fun (r99 : Int × Unit) w100 =>
 cl Pg 77 [.int .i64 r99.1, .slice none 0 0] [.a [(.i .i64), (.i .i64)]] w100 fun (r101 : (Int × Int × Unit) × Unit) w102 =>
 st1 w102 b3 0 (.int .i64 r101.1.1) fun w103 =>
 st1 w103 b3 (0 + 1) (.int .i64 r101.1.2.1) fun w104 =>
 ldI w104 .i64 b3 0 fun n105 =>
 ldI w104 .i64 b3 (0 + 1) fun n106 =>
 R [.agg #[.int .i64 n105, .int .i64 n106]] w104) (
 cl Pg 77 [.int .i64 0, .slice none 0 0] [.a [(.i .i64), (.i .i64)]] w4 fun (r107 : (Int × Int × Unit) × Unit) w108 =>
 st1 w108 b3 0 (.int .i64 r107.1.1) fun w109 =>
 st1 w109 b3 (0 + 1) (.int .i64 r107.1.2.1) fun w110 =>
 ldI w110 .i64 b3 0 fun n111 =>
 ldI w110 .i64 b3 (0 + 1) fun n112 =>
 R [.agg #[.int .i64 n111, .int .i64 n112]] w110))))))
theorem tie85 (a0 : Option Addr) (a1 : (Int × Int × Int × Int × Int × Unit)) (R : List Value → World → Prop) (w : World) : compF Pg Tryz.f85 ⟨[], [], [(6, .l [(0, []), (1, []), (2, []), (3, []), (4, []), (5, []), (6, []), (7, []), (8, []), (9, []), (10, []), (11, [6, 10, 5, 9, 4, 8, 3, 7, 2, 1, 0])]), (14, .l [(0, []), (1, []), (2, []), (3, []), (4, []), (5, []), (6, []), (7, []), (8, [3, 4, 7, 2, 6, 1, 5, 0]), (9, [8, 3, 4, 7, 2, 6, 1, 5, 0]), (10, [9, 0, 1, 2, 3, 4, 5, 6, 7, 8])])], [(4, [(5, 5, ⟨[(24, kB)], [20, 21, 22, 23]⟩)])]⟩ [.pointer a0, .agg #[.int .i64 a1.1, .int .i64 a1.2.1, .int .i64 a1.2.2.1, .int .i64 a1.2.2.2.1, .int .i64 a1.2.2.2.2.1]] R w = sh85 a0 a1 R w := by kernel_rfl
theorem call85 {a0 : Option Addr} {a1 : (Int × Int × Int × Int × Int × Unit)} {w : World} {K : TK [.a [(.i .i64), (.i .i64)]] → World → Prop} (h : sh85 a0 a1 (fun vs w' => ∃ t, encK [.a [(.i .i64), (.i .i64)]] t = vs ∧ K t w') w) : cl Pg 85 [.pointer a0, .agg #[.int .i64 a1.1, .int .i64 a1.2.1, .int .i64 a1.2.2.1, .int .i64 a1.2.2.2.1, .int .i64 a1.2.2.2.2.1]] [.a [(.i .i64), (.i .i64)]] w K := cl_of Tryz.func85 (tie85 ..) h
def sh86 (a0 : Option Addr) (a1 : (Int × Int × Int × Int × Int × Unit)) (R : List Value → World → Prop) (w : World) : Prop :=
 al w 97 [.int .i64 a1.1, .int .i64 a1.2.1, .int .i64 a1.2.2.1, .int .i64 a1.2.2.2.1, .int .i64 a1.2.2.2.2.1] fun b1 w2 =>
 al w2 57 [.int .i64 0, .int .i64 0] fun b3 w4 =>
 ldI w4 .i64 b1 0 fun n5 =>
 jn [kB] w4 (fun (t7 : Bool × Unit) w8 =>
 cs t7.1 (
 dr w8 fun w10 =>
 nn a0 fun b11 o12 =>
 ldP w10 b11 (o12 + 6) fun p13 =>
 ldI w10 .i64 b1 0 fun n14 =>
 cl Pg 131 [.pointer p13, .bool ((n14 : Int) == (57 : Int))] [] w10 fun (r15 : Unit) w16 =>
 cl Pg 77 [.int .i64 0, .slice none 0 0] [.a [(.i .i64), (.i .i64)]] w16 fun (r17 : (Int × Int × Unit) × Unit) w18 =>
 st1 w18 b3 0 (.int .i64 r17.1.1) fun w19 =>
 st1 w19 b3 (0 + 1) (.int .i64 r17.1.2.1) fun w20 =>
 ldI w20 .i64 b3 0 fun n21 =>
 ldI w20 .i64 b3 (0 + 1) fun n22 =>
 R [.agg #[.int .i64 n21, .int .i64 n22]] w20) (
 jn [kB] w8 (fun (t24 : Bool × Unit) w25 =>
 cs t24.1 (
 dr w25 fun w27 =>
 nn a0 fun b28 o29 =>
 ldP w27 b28 (o29 + 6) fun p30 =>
 ldI w27 .i64 b1 0 fun n31 =>
 cl Pg 132 [.pointer p30, .bool ((n31 : Int) == (59 : Int))] [] w27 fun (r32 : Unit) w33 =>
 cl Pg 77 [.int .i64 0, .slice none 0 0] [.a [(.i .i64), (.i .i64)]] w33 fun (r34 : (Int × Int × Unit) × Unit) w35 =>
 st1 w35 b3 0 (.int .i64 r34.1.1) fun w36 =>
 st1 w36 b3 (0 + 1) (.int .i64 r34.1.2.1) fun w37 =>
 ldI w37 .i64 b3 0 fun n38 =>
 ldI w37 .i64 b3 (0 + 1) fun n39 =>
 R [.agg #[.int .i64 n38, .int .i64 n39]] w37) (
 cs ((n5 : Int) == (61 : Int)) (
 nn a0 fun b40 o41 =>
 ldP w25 b40 (o41 + 6) fun p42 =>
 nn p42 fun b43 o44 =>
 cl Pg 128 [.pointer (some ⟨b43, o44, none⟩)] [kB] w25 fun (r45 : Bool × Unit) w46 =>
 cl Pg 164 [.bool r45.1] [.a [(.i .i64), (.i .i64)]] w46 fun (r47 : (Int × Int × Unit) × Unit) w48 =>
 st1 w48 b3 0 (.int .i64 r47.1.1) fun w49 =>
 st1 w49 b3 (0 + 1) (.int .i64 r47.1.2.1) fun w50 =>
 ldI w50 .i64 b3 0 fun n51 =>
 ldI w50 .i64 b3 (0 + 1) fun n52 =>
 R [.agg #[.int .i64 n51, .int .i64 n52]] w50) (
 cs ((n5 : Int) == (62 : Int)) (
 nn a0 fun b53 o54 =>
 ldP w25 b53 (o54 + 6) fun p55 =>
 nn p55 fun b56 o57 =>
 cl Pg 165 [.pointer (some ⟨b56, o57, none⟩)] [kB] w25 fun (r58 : Bool × Unit) w59 =>
 cl Pg 164 [.bool r58.1] [.a [(.i .i64), (.i .i64)]] w59 fun (r60 : (Int × Int × Unit) × Unit) w61 =>
 st1 w61 b3 0 (.int .i64 r60.1.1) fun w62 =>
 st1 w62 b3 (0 + 1) (.int .i64 r60.1.2.1) fun w63 =>
 ldI w63 .i64 b3 0 fun n64 =>
 ldI w63 .i64 b3 (0 + 1) fun n65 =>
 R [.agg #[.int .i64 n64, .int .i64 n65]] w63) (
 cs ((n5 : Int) == (63 : Int)) (
 nn a0 fun b66 o67 =>
 ldP w25 b66 (o67 + 6) fun p68 =>
 nn p68 fun b69 o70 =>
 cl Pg 166 [.pointer (some ⟨b69, o70, none⟩)] [kB] w25 fun (r71 : Bool × Unit) w72 =>
 cl Pg 164 [.bool r71.1] [.a [(.i .i64), (.i .i64)]] w72 fun (r73 : (Int × Int × Unit) × Unit) w74 =>
 st1 w74 b3 0 (.int .i64 r73.1.1) fun w75 =>
 st1 w75 b3 (0 + 1) (.int .i64 r73.1.2.1) fun w76 =>
 ldI w76 .i64 b3 0 fun n77 =>
 ldI w76 .i64 b3 (0 + 1) fun n78 =>
 R [.agg #[.int .i64 n77, .int .i64 n78]] w76) (
 cs ((n5 : Int) == (64 : Int)) (
 nn a0 fun b79 o80 =>
 ldP w25 b79 (o80 + 6) fun p81 =>
 nn p81 fun b82 o83 =>
 cl Pg 120 [.pointer (some ⟨b82, o83, none⟩)] [kB] w25 fun (r84 : Bool × Unit) w85 =>
 cl Pg 164 [.bool (!r84.1)] [.a [(.i .i64), (.i .i64)]] w85 fun (r86 : (Int × Int × Unit) × Unit) w87 =>
 st1 w87 b3 0 (.int .i64 r86.1.1) fun w88 =>
 st1 w88 b3 (0 + 1) (.int .i64 r86.1.2.1) fun w89 =>
 ldI w89 .i64 b3 0 fun n90 =>
 ldI w89 .i64 b3 (0 + 1) fun n91 =>
 R [.agg #[.int .i64 n90, .int .i64 n91]] w89) (
 cl Pg 77 [.int .i64 0, .slice none 0 0] [.a [(.i .i64), (.i .i64)]] w25 fun (r92 : (Int × Int × Unit) × Unit) w93 =>
 st1 w93 b3 0 (.int .i64 r92.1.1) fun w94 =>
 st1 w94 b3 (0 + 1) (.int .i64 r92.1.2.1) fun w95 =>
 ldI w95 .i64 b3 0 fun n96 =>
 ldI w95 .i64 b3 (0 + 1) fun n97 =>
 R [.agg #[.int .i64 n96, .int .i64 n97]] w95)))))) fun J23 w26 =>
 cs ((n5 : Int) == (59 : Int)) (
 J23 (true, ()) w26) (
 J23 ((n5 : Int) == (60 : Int), ()) w26))) fun J6 w9 =>
 cs ((n5 : Int) == (57 : Int)) (
 J6 (true, ()) w9) (
 J6 ((n5 : Int) == (58 : Int), ()) w9)
theorem tie86 (a0 : Option Addr) (a1 : (Int × Int × Int × Int × Int × Unit)) (R : List Value → World → Prop) (w : World) : compF Pg Tryz.f86 ⟨[(1, ⟨[(7, kB)], [9]⟩), (3, ⟨[(18, kB)], [20]⟩)], [], [(4, .l [(0, []), (1, []), (2, []), (3, []), (4, []), (5, []), (6, []), (7, [3, 6, 2, 5, 1, 4, 0])]), (7, .l [(0, []), (1, []), (2, []), (3, []), (4, []), (5, []), (6, []), (7, [3, 6, 2, 5, 1, 4, 0])])], []⟩ [.pointer a0, .agg #[.int .i64 a1.1, .int .i64 a1.2.1, .int .i64 a1.2.2.1, .int .i64 a1.2.2.2.1, .int .i64 a1.2.2.2.2.1]] R w = sh86 a0 a1 R w := by kernel_rfl
theorem call86 {a0 : Option Addr} {a1 : (Int × Int × Int × Int × Int × Unit)} {w : World} {K : TK [.a [(.i .i64), (.i .i64)]] → World → Prop} (h : sh86 a0 a1 (fun vs w' => ∃ t, encK [.a [(.i .i64), (.i .i64)]] t = vs ∧ K t w') w) : cl Pg 86 [.pointer a0, .agg #[.int .i64 a1.1, .int .i64 a1.2.1, .int .i64 a1.2.2.1, .int .i64 a1.2.2.2.1, .int .i64 a1.2.2.2.2.1]] [.a [(.i .i64), (.i .i64)]] w K := cl_of Tryz.func86 (tie86 ..) h
def sh41 (a0 : Option Addr) (a1 : (Int × Int × Int × Int × Int × Unit)) (R : List Value → World → Prop) (w : World) : Prop :=
 al w 97 [.int .i64 a1.1, .int .i64 a1.2.1, .int .i64 a1.2.2.1, .int .i64 a1.2.2.2.1, .int .i64 a1.2.2.2.2.1] fun b1 w2 =>
 al w2 57 [.int .i64 0, .int .i64 0] fun b3 w4 =>
 ldI w4 .i64 b1 0 fun n5 =>
 cl Pg 76 [.int .i64 n5] [kB] w4 fun (r6 : Bool × Unit) w7 =>
 cs (!r6.1) (
 cl Pg 77 [.int .i64 (-10), .slice none 0 0] [.a [(.i .i64), (.i .i64)]] w7 fun (r8 : (Int × Int × Unit) × Unit) w9 =>
 st1 w9 b3 0 (.int .i64 r8.1.1) fun w10 =>
 st1 w10 b3 (0 + 1) (.int .i64 r8.1.2.1) fun w11 =>
 ldI w11 .i64 b3 0 fun n12 =>
 ldI w11 .i64 b3 (0 + 1) fun n13 =>
 R [.agg #[.int .i64 n12, .int .i64 n13]] w11) (
 dr w7 fun w14 =>
 nn a0 fun b15 o16 =>
 ldP w14 b15 (o16 + 6) fun p17 =>
 ldI w14 .i64 b1 0 fun n18 =>
 ldI w14 .i64 b1 (0 + 1) fun n19 =>
 ldI w14 .i64 b1 (0 + 2) fun n20 =>
 ldI w14 .i64 b1 (0 + 3) fun n21 =>
 ldI w14 .i64 b1 (0 + 4) fun n22 =>
 nn a0 fun b23 o24 =>
 ldI w14 .i64 b23 (o24 + 12) fun n25 =>
 cl Pg 42 [.agg #[.int .i64 n18, .int .i64 n19, .int .i64 n20, .int .i64 n21, .int .i64 n22]] [kI] w14 fun (r26 : Int × Unit) w27 =>
(w27.cell? ⟨b23, o24 + 12, none⟩ = some (.int .i64 n25)) ∧ (
(w27.cell? ⟨b15, o16 + 6, none⟩ = some (.pointer p17)) ∧ (
 cl Pg 78 [.pointer p17, .int .i64 r26.1, .bool ((n25 : Int) == (0 : Int))] [kI] w27 fun (r28 : Int × Unit) w29 =>
 cs ((r28.1 : Int) != (0 : Int)) (
 cl Pg 77 [.int .i64 r28.1, .slice none 0 0] [.a [(.i .i64), (.i .i64)]] w29 fun (r30 : (Int × Int × Unit) × Unit) w31 =>
 st1 w31 b3 0 (.int .i64 r30.1.1) fun w32 =>
 st1 w32 b3 (0 + 1) (.int .i64 r30.1.2.1) fun w33 =>
 ldI w33 .i64 b3 0 fun n34 =>
 ldI w33 .i64 b3 (0 + 1) fun n35 =>
 R [.agg #[.int .i64 n34, .int .i64 n35]] w33) (
 al w29 57 [.int .i64 0, .int .i64 0] fun b36 w37 =>
 ldI w37 .i64 b1 0 fun n38 =>
 jn [] w37 (fun (t40 : Unit) w41 =>
 cl Pg 57 [.pointer a0] [] w41 fun (r43 : Unit) w44 =>
 ldI w44 .i64 b36 0 fun n45 =>
 ldI w44 .i64 b36 (0 + 1) fun n46 =>
 st1 w44 b3 0 (.int .i64 n45) fun w47 =>
 st1 w47 b3 (0 + 1) (.int .i64 n46) fun w48 =>
 ldI w48 .i64 b3 0 fun n49 =>
 ldI w48 .i64 b3 (0 + 1) fun n50 =>
 R [.agg #[.int .i64 n49, .int .i64 n50]] w48) fun J39 w42 =>
 cs (decide ((n38 : Int) ≤ (22 : Int))) (
 ldI w42 .i64 b1 0 fun n51 =>
 ldI w42 .i64 b1 (0 + 1) fun n52 =>
 ldI w42 .i64 b1 (0 + 2) fun n53 =>
 ldI w42 .i64 b1 (0 + 3) fun n54 =>
 ldI w42 .i64 b1 (0 + 4) fun n55 =>
 cl Pg 79 [.pointer a0, .agg #[.int .i64 n51, .int .i64 n52, .int .i64 n53, .int .i64 n54, .int .i64 n55]] [.a [(.i .i64), (.i .i64)]] w42 fun (r56 : (Int × Int × Unit) × Unit) w57 =>
 st1 w57 b36 0 (.int .i64 r56.1.1) fun w58 =>
 st1 w58 b36 (0 + 1) (.int .i64 r56.1.2.1) fun w59 =>
 J39 () w59) (
 ldI w42 .i64 b1 0 fun n60 =>
 jn [] w42 (fun (t62 : Unit) w63 =>
 J39 () w63) fun J61 w65 =>
 cs (decide ((n60 : Int) ≤ (27 : Int))) (
 ldI w65 .i64 b1 0 fun n66 =>
 ldI w65 .i64 b1 (0 + 1) fun n67 =>
 ldI w65 .i64 b1 (0 + 2) fun n68 =>
 ldI w65 .i64 b1 (0 + 3) fun n69 =>
 ldI w65 .i64 b1 (0 + 4) fun n70 =>
 cl Pg 80 [.pointer a0, .agg #[.int .i64 n66, .int .i64 n67, .int .i64 n68, .int .i64 n69, .int .i64 n70]] [.a [(.i .i64), (.i .i64)]] w65 fun (r71 : (Int × Int × Unit) × Unit) w72 =>
 st1 w72 b36 0 (.int .i64 r71.1.1) fun w73 =>
 st1 w73 b36 (0 + 1) (.int .i64 r71.1.2.1) fun w74 =>
 J61 () w74) (
 ldI w65 .i64 b1 0 fun n75 =>
 jn [] w65 (fun (t77 : Unit) w78 =>
 J61 () w78) fun J76 w79 =>
 cs (decide ((n75 : Int) ≤ (33 : Int))) (
 ldI w79 .i64 b1 0 fun n80 =>
 ldI w79 .i64 b1 (0 + 1) fun n81 =>
 ldI w79 .i64 b1 (0 + 2) fun n82 =>
 ldI w79 .i64 b1 (0 + 3) fun n83 =>
 ldI w79 .i64 b1 (0 + 4) fun n84 =>
 cl Pg 81 [.pointer a0, .agg #[.int .i64 n80, .int .i64 n81, .int .i64 n82, .int .i64 n83, .int .i64 n84]] [.a [(.i .i64), (.i .i64)]] w79 fun (r85 : (Int × Int × Unit) × Unit) w86 =>
 st1 w86 b36 0 (.int .i64 r85.1.1) fun w87 =>
 st1 w87 b36 (0 + 1) (.int .i64 r85.1.2.1) fun w88 =>
 J76 () w88) (
 ldI w79 .i64 b1 0 fun n89 =>
 jn [] w79 (fun (t91 : Unit) w92 =>
 J76 () w92) fun J90 w93 =>
 cs (decide ((n89 : Int) ≤ (42 : Int))) (
 ldI w93 .i64 b1 0 fun n94 =>
 ldI w93 .i64 b1 (0 + 1) fun n95 =>
 ldI w93 .i64 b1 (0 + 2) fun n96 =>
 ldI w93 .i64 b1 (0 + 3) fun n97 =>
 ldI w93 .i64 b1 (0 + 4) fun n98 =>
 cl Pg 82 [.pointer a0, .agg #[.int .i64 n94, .int .i64 n95, .int .i64 n96, .int .i64 n97, .int .i64 n98]] [.a [(.i .i64), (.i .i64)]] w93 fun (r99 : (Int × Int × Unit) × Unit) w100 =>
 st1 w100 b36 0 (.int .i64 r99.1.1) fun w101 =>
 st1 w101 b36 (0 + 1) (.int .i64 r99.1.2.1) fun w102 =>
 J90 () w102) (
 ldI w93 .i64 b1 0 fun n103 =>
 jn [] w93 (fun (t105 : Unit) w106 =>
 J90 () w106) fun J104 w107 =>
 cs (decide ((n103 : Int) ≤ (46 : Int))) (
 ldI w107 .i64 b1 0 fun n108 =>
 ldI w107 .i64 b1 (0 + 1) fun n109 =>
 ldI w107 .i64 b1 (0 + 2) fun n110 =>
 ldI w107 .i64 b1 (0 + 3) fun n111 =>
 ldI w107 .i64 b1 (0 + 4) fun n112 =>
 cl Pg 83 [.pointer a0, .agg #[.int .i64 n108, .int .i64 n109, .int .i64 n110, .int .i64 n111, .int .i64 n112]] [.a [(.i .i64), (.i .i64)]] w107 fun (r113 : (Int × Int × Unit) × Unit) w114 =>
 st1 w114 b36 0 (.int .i64 r113.1.1) fun w115 =>
 st1 w115 b36 (0 + 1) (.int .i64 r113.1.2.1) fun w116 =>
 J104 () w116) (
 ldI w107 .i64 b1 0 fun n117 =>
 jn [] w107 (fun (t119 : Unit) w120 =>
 J104 () w120) fun J118 w121 =>
 cs (decide ((n117 : Int) ≤ (50 : Int))) (
 ldI w121 .i64 b1 0 fun n122 =>
 ldI w121 .i64 b1 (0 + 1) fun n123 =>
 ldI w121 .i64 b1 (0 + 2) fun n124 =>
 ldI w121 .i64 b1 (0 + 3) fun n125 =>
 ldI w121 .i64 b1 (0 + 4) fun n126 =>
 cl Pg 84 [.pointer a0, .agg #[.int .i64 n122, .int .i64 n123, .int .i64 n124, .int .i64 n125, .int .i64 n126]] [.a [(.i .i64), (.i .i64)]] w121 fun (r127 : (Int × Int × Unit) × Unit) w128 =>
 st1 w128 b36 0 (.int .i64 r127.1.1) fun w129 =>
 st1 w129 b36 (0 + 1) (.int .i64 r127.1.2.1) fun w130 =>
 J118 () w130) (
 ldI w121 .i64 b1 0 fun n131 =>
 jn [] w121 (fun (t133 : Unit) w134 =>
 J118 () w134) fun J132 w135 =>
 cs (decide ((n131 : Int) ≤ (56 : Int))) (
 ldI w135 .i64 b1 0 fun n136 =>
 ldI w135 .i64 b1 (0 + 1) fun n137 =>
 ldI w135 .i64 b1 (0 + 2) fun n138 =>
 ldI w135 .i64 b1 (0 + 3) fun n139 =>
 ldI w135 .i64 b1 (0 + 4) fun n140 =>
 cl Pg 85 [.pointer a0, .agg #[.int .i64 n136, .int .i64 n137, .int .i64 n138, .int .i64 n139, .int .i64 n140]] [.a [(.i .i64), (.i .i64)]] w135 fun (r141 : (Int × Int × Unit) × Unit) w142 =>
 st1 w142 b36 0 (.int .i64 r141.1.1) fun w143 =>
 st1 w143 b36 (0 + 1) (.int .i64 r141.1.2.1) fun w144 =>
 J132 () w144) (
 ldI w135 .i64 b1 0 fun n145 =>
 ldI w135 .i64 b1 (0 + 1) fun n146 =>
 ldI w135 .i64 b1 (0 + 2) fun n147 =>
 ldI w135 .i64 b1 (0 + 3) fun n148 =>
 ldI w135 .i64 b1 (0 + 4) fun n149 =>
 cl Pg 86 [.pointer a0, .agg #[.int .i64 n145, .int .i64 n146, .int .i64 n147, .int .i64 n148, .int .i64 n149]] [.a [(.i .i64), (.i .i64)]] w135 fun (r150 : (Int × Int × Unit) × Unit) w151 =>
 st1 w151 b36 0 (.int .i64 r150.1.1) fun w152 =>
 st1 w152 b36 (0 + 1) (.int .i64 r150.1.2.1) fun w153 =>
 J132 () w153)))))))))))
theorem tie41 (a0 : Option Addr) (a1 : (Int × Int × Int × Int × Int × Unit)) (R : List Value → World → Prop) (w : World) : compF Pg Tryz.f41 ⟨[(3, ⟨[], [28, 29, 30, 35, 36, 37, 38, 39, 40, 41, 42, 43, 44, 45, 46, 47, 48, 49, 50, 51, 52, 53, 54, 55, 56, 57, 58, 59, 60, 61, 62, 63, 64, 65, 66, 67, 68, 69, 70, 71, 72, 73, 74, 75, 76, 77, 78, 79]⟩), (4, ⟨[], [28, 29, 30, 42, 43, 44, 45, 46, 47, 48, 49, 50, 51, 52, 53, 54, 55, 56, 57, 58, 59, 60, 61, 62, 63, 64, 65, 66, 67, 68, 69, 70, 71, 72, 73, 74, 75, 76, 77, 78, 79]⟩), (5, ⟨[], [28, 29, 30, 49, 50, 51, 52, 53, 54, 55, 56, 57, 58, 59, 60, 61, 62, 63, 64, 65, 66, 67, 68, 69, 70, 71, 72, 73, 74, 75, 76, 77, 78, 79]⟩), (6, ⟨[], [28, 29, 30, 56, 57, 58, 59, 60, 61, 62, 63, 64, 65, 66, 67, 68, 69, 70, 71, 72, 73, 74, 75, 76, 77, 78, 79]⟩), (7, ⟨[], [28, 29, 30, 63, 64, 65, 66, 67, 68, 69, 70, 71, 72, 73, 74, 75, 76, 77, 78, 79]⟩), (8, ⟨[], [28, 29, 30, 70, 71, 72, 73, 74, 75, 76, 77, 78, 79]⟩), (9, ⟨[], [28, 29, 30, 77, 78, 79]⟩)], [], [(3, .l [(0, []), (1, []), (2, []), (3, []), (4, []), (6, []), (7, []), (8, []), (9, []), (10, []), (5, [4]), (11, [3, 5, 10, 2, 4, 9, 1, 8, 0, 7, 6]), (12, [])])], []⟩ [.pointer a0, .agg #[.int .i64 a1.1, .int .i64 a1.2.1, .int .i64 a1.2.2.1, .int .i64 a1.2.2.2.1, .int .i64 a1.2.2.2.2.1]] R w = sh41 a0 a1 R w := by kernel_rfl
theorem call41 {a0 : Option Addr} {a1 : (Int × Int × Int × Int × Int × Unit)} {w : World} {K : TK [.a [(.i .i64), (.i .i64)]] → World → Prop} (h : sh41 a0 a1 (fun vs w' => ∃ t, encK [.a [(.i .i64), (.i .i64)]] t = vs ∧ K t w') w) : cl Pg 41 [.pointer a0, .agg #[.int .i64 a1.1, .int .i64 a1.2.1, .int .i64 a1.2.2.1, .int .i64 a1.2.2.2.1, .int .i64 a1.2.2.2.2.1]] [.a [(.i .i64), (.i .i64)]] w K := cl_of Tryz.func41 (tie41 ..) h
def sh52 (a0 : Int) (a1 : Sl) (R : List Value → World → Prop) (w : World) : Prop :=
 al w 97 [.int .i64 0, .int .i64 0, .int .i64 0, .int .i64 0, .int .i64 0] fun b1 w2 =>
 al w2 97 [.int .i64 0, .int .i64 0, .int .i64 0, .int .i64 0, .int .i64 0] fun b3 w4 =>
 st1 w4 b3 0 (.int .i64 a0) fun w5 =>
 st1 w5 b3 (0 + 1) (.int .i64 0) fun w6 =>
 st1 w6 b3 (0 + 2) (.int .i64 0) fun w7 =>
 st1 w7 b3 (0 + 3) (.int .i64 0) fun w8 =>
 st1 w8 b3 (0 + 4) (.int .i64 0) fun w9 =>
 ef Pg (Builtin.copy_ #[39, 39] 3 #[vS ⟨some ⟨b3, 0 + 1, none⟩, 4, 4⟩, vS a1]) [kI] w9 fun (r10 : Int × Unit) w11 =>
 ldI w11 .i64 b3 0 fun n12 =>
 ldI w11 .i64 b3 (0 + 1) fun n13 =>
 ldI w11 .i64 b3 (0 + 2) fun n14 =>
 ldI w11 .i64 b3 (0 + 3) fun n15 =>
 ldI w11 .i64 b3 (0 + 4) fun n16 =>
 st1 w11 b1 0 (.int .i64 n12) fun w17 =>
 st1 w17 b1 (0 + 1) (.int .i64 n13) fun w18 =>
 st1 w18 b1 (0 + 2) (.int .i64 n14) fun w19 =>
 st1 w19 b1 (0 + 3) (.int .i64 n15) fun w20 =>
 st1 w20 b1 (0 + 4) (.int .i64 n16) fun w21 =>
 ldI w21 .i64 b1 0 fun n22 =>
 ldI w21 .i64 b1 (0 + 1) fun n23 =>
 ldI w21 .i64 b1 (0 + 2) fun n24 =>
 ldI w21 .i64 b1 (0 + 3) fun n25 =>
 ldI w21 .i64 b1 (0 + 4) fun n26 =>
 R [.agg #[.int .i64 n22, .int .i64 n23, .int .i64 n24, .int .i64 n25, .int .i64 n26]] w21
theorem tie52 (a0 : Int) (a1 : Sl) (R : List Value → World → Prop) (w : World) : compF Pg Tryz.f52 ⟨[], [], [], []⟩ [.int .i64 a0, vS a1] R w = sh52 a0 a1 R w := by kernel_rfl
theorem call52 {a0 : Int} {a1 : Sl} {w : World} {K : TK [.a [(.i .i64), (.i .i64), (.i .i64), (.i .i64), (.i .i64)]] → World → Prop} (h : sh52 a0 a1 (fun vs w' => ∃ t, encK [.a [(.i .i64), (.i .i64), (.i .i64), (.i .i64), (.i .i64)]] t = vs ∧ K t w') w) : cl Pg 52 [.int .i64 a0, vS a1] [.a [(.i .i64), (.i .i64), (.i .i64), (.i .i64), (.i .i64)]] w K := cl_of Tryz.func52 (tie52 ..) h
def sh20 (a0 : Option Addr) (a1 : Int) (a2 : Sl) (R : List Value → World → Prop) (w : World) : Prop :=
 cl Pg 52 [.int .i64 a1, vS a2] [.a [(.i .i64), (.i .i64), (.i .i64), (.i .i64), (.i .i64)]] w fun (r1 : (Int × Int × Int × Int × Int × Unit) × Unit) w2 =>
 cl Pg 41 [.pointer a0, .agg #[.int .i64 r1.1.1, .int .i64 r1.1.2.1, .int .i64 r1.1.2.2.1, .int .i64 r1.1.2.2.2.1, .int .i64 r1.1.2.2.2.2.1]] [.a [(.i .i64), (.i .i64)]] w2 fun (r3 : (Int × Int × Unit) × Unit) w4 =>
 al w4 57 [.int .i64 0, .int .i64 0] fun b5 w6 =>
 st1 w6 b5 0 (.int .i64 r3.1.1) fun w7 =>
 st1 w7 b5 (0 + 1) (.int .i64 r3.1.2.1) fun w8 =>
 dr w8 fun w9 =>
 ldI w9 .i64 b5 0 fun n10 =>
 ldI w9 .i64 b5 (0 + 1) fun n11 =>
 R [.int .i64 n10, .int .i64 n11] w9
theorem tie20 (a0 : Option Addr) (a1 : Int) (a2 : Sl) (R : List Value → World → Prop) (w : World) : compF Pg Tryz.f20 ⟨[], [], [(2, .l [(0, []), (1, []), (2, []), (3, []), (4, []), (5, [])])], []⟩ [.pointer a0, .int .i64 a1, vS a2] R w = sh20 a0 a1 a2 R w := by kernel_rfl
theorem call20 {a0 : Option Addr} {a1 : Int} {a2 : Sl} {w : World} {K : TK [kI, kI] → World → Prop} (h : sh20 a0 a1 a2 (fun vs w' => ∃ t, encK [kI, kI] t = vs ∧ K t w') w) : cl Pg 20 [.pointer a0, .int .i64 a1, vS a2] [kI, kI] w K := cl_of Tryz.func20 (tie20 ..) h
def sh21 (a0 : Option Addr) (R : List Value → World → Prop) (w : World) : Prop :=
 nn a0 fun b1 o2 =>
 ldI w .i64 b1 (o2 + 12) fun n3 =>
 R [.int .i64 n3] w
theorem tie21 (a0 : Option Addr) (R : List Value → World → Prop) (w : World) : compF Pg Tryz.f21 ⟨[], [], [], []⟩ [.pointer a0] R w = sh21 a0 R w := by kernel_rfl
theorem call21 {a0 : Option Addr} {w : World} {K : TK [kI] → World → Prop} (h : sh21 a0 (fun vs w' => ∃ t, encK [kI] t = vs ∧ K t w') w) : cl Pg 21 [.pointer a0] [kI] w K := cl_of Tryz.func21 (tie21 ..) h
def sh189 (a0 : Option Addr) (a1 : Int) (R : List Value → World → Prop) (w : World) : Prop :=
 lp [kS] w (⟨none, 0, 0⟩, ()) fun (t1 : Sl × Unit) J2 w3 =>
 nn a0 fun b4 o5 =>
 ldS w3 b4 o5 fun s6 =>
 jn [kB] w3 (fun (t8 : Bool × Unit) w9 =>
 cs t8.1 (
 nn a0 fun b11 o12 =>
 ldS w9 b11 o12 fun s13 =>
 ix s13 0 3 fun b14 o15 =>
 ldI w9 .i64 b14 (o15 + 2) fun n16 =>
 al w9 3 [.int .i64 n16] fun b17 w18 =>
 ef Pg (Builtin.append_ #[72, 72] 72 #[vS t1.1, vS ⟨some ⟨b17, 0, none⟩, 1, 1⟩]) [kS] w18 fun (r19 : Sl × Unit) w20 =>
 cl Pg 230 [.pointer a0, .int .i64 0] [] w20 fun (r21 : Unit) w22 =>
 J2 (r19.1, ()) w22) (
 R [vS t1.1] w9)) fun J7 w10 =>
 cs (decide (((s6.len : Int) : Int) > (0 : Int))) (
 nn a0 fun b23 o24 =>
 ldS w10 b23 o24 fun s25 =>
 ix s25 0 3 fun b26 o27 =>
 ldI w10 .u64 b26 o27 fun n28 =>
 J7 (decide ((n28 : Int) ≤ (a1 : Int)), ()) w10) (
 J7 (false, ()) w10)
theorem tie189 (a0 : Option Addr) (a1 : Int) (R : List Value → World → Prop) (w : World) : compF Pg Tryz.f189 ⟨[(1, ⟨[(5, kS)], [6, 7, 8, 9, 10, 11, 12, 13, 14, 15, 16, 17, 18, 19, 20, 21, 22, 23, 24, 25, 26, 27, 28, 29, 30, 31, 32, 33, 34]⟩)], [], [], [(2, [(7, 10, ⟨[(22, kB)], [13, 14, 15, 16, 17, 18, 19, 20, 21]⟩)])]⟩ [.pointer a0, .int .u64 a1] R w = sh189 a0 a1 R w := by kernel_rfl
theorem call189 {a0 : Option Addr} {a1 : Int} {w : World} {K : TK [kS] → World → Prop} (h : sh189 a0 a1 (fun vs w' => ∃ t, encK [kS] t = vs ∧ K t w') w) : cl Pg 189 [.pointer a0, .int .u64 a1] [kS] w K := cl_of Tryz.func189 (tie189 ..) h
def sh106 (a0 : Option Addr) (R : List Value → World → Prop) (w : World) : Prop :=
 dr w fun w1 =>
 nn a0 fun b2 o3 =>
 ldI w1 .u64 b2 (o3 + 2) fun n4 =>
 nn a0 fun b5 o6 =>
 ldI w1 .u64 b5 (o6 + 1) fun n7 =>
 nn a0 fun b8 o9 =>
 st1 w1 b8 (o9 + 2) (.int .u64 (IntKind.u64.wrap (n4 + n7))) fun w10 =>
 dr w10 fun w11 =>
 nn a0 fun b12 o13 =>
 ldP w11 b12 o13 fun p14 =>
 nn a0 fun b15 o16 =>
 ldI w11 .u64 b15 (o16 + 2) fun n17 =>
 cl Pg 189 [.pointer p14, .int .u64 n17] [kS] w11 fun (r18 : Sl × Unit) w19 =>
 R [vS r18.1] w19
theorem tie106 (a0 : Option Addr) (R : List Value → World → Prop) (w : World) : compF Pg Tryz.f106 ⟨[], [], [(1, .l [(0, []), (1, []), (2, []), (3, []), (4, []), (5, []), (6, []), (7, []), (8, []), (9, []), (10, []), (11, [10, 8, 0, 1, 2, 3, 4, 5, 6, 7, 9])]), (2, .l [(0, []), (1, []), (2, []), (3, []), (4, []), (5, []), (6, []), (7, []), (8, [3, 7, 2, 6, 1, 5, 0, 4]), (9, [])])], []⟩ [.pointer a0] R w = sh106 a0 R w := by kernel_rfl
theorem call106 {a0 : Option Addr} {w : World} {K : TK [kS] → World → Prop} (h : sh106 a0 (fun vs w' => ∃ t, encK [kS] t = vs ∧ K t w') w) : cl Pg 106 [.pointer a0] [kS] w K := cl_of Tryz.func106 (tie106 ..) h
def sh231 (a0 : Sl) (a1 : Int) (a2 : Int) (a3 : Fv) (R : List Value → World → Prop) (w : World) : Prop :=
 lp [kI] w (w64 (a1 + 1), ()) fun (t1 : Int × Unit) J2 w3 =>
 cs (decide ((t1.1 : Int) < (a2 : Int))) (
 lp [kI] w3 (t1.1, ()) fun (t4 : Int × Unit) J5 w6 =>
 dr w6 fun w7 =>
 jn [kB] w7 (fun (t9 : Bool × Unit) w10 =>
 cs t9.1 (
 dr w10 fun w12 =>
 ix a0 (w64 (t4.1 - 1)) 3 fun b13 o14 =>
 ldB w12 b13 o14 fun b15 =>
 ldI w12 .i64 b13 (o14 + 1) fun n16 =>
 ldI w12 .u64 b13 (o14 + 2) fun n17 =>
 ix a0 t4.1 3 fun b18 o19 =>
 ldB w12 b18 o19 fun b20 =>
 ldI w12 .i64 b18 (o19 + 1) fun n21 =>
 ldI w12 .u64 b18 (o19 + 2) fun n22 =>
 ix a0 t4.1 3 fun b23 o24 =>
 st1 w12 b23 o24 (.bool b15) fun w25 =>
 st1 w25 b23 (o24 + 1) (.int .i64 n16) fun w26 =>
 st1 w26 b23 (o24 + 2) (.int .u64 n17) fun w27 =>
 ix a0 (w64 (t4.1 - 1)) 3 fun b28 o29 =>
 st1 w27 b28 o29 (.bool b20) fun w30 =>
 st1 w30 b28 (o29 + 1) (.int .i64 n21) fun w31 =>
 st1 w31 b28 (o29 + 2) (.int .u64 n22) fun w32 =>
 J5 (w64 (t4.1 - 1), ()) w32) (
 J2 (w64 (t1.1 + 1), ()) w10)) fun J8 w11 =>
 cs (decide ((t4.1 : Int) > (a1 : Int))) (
 ix a0 t4.1 3 fun b33 o34 =>
 ldB w11 b33 o34 fun b35 =>
 ldI w11 .i64 b33 (o34 + 1) fun n36 =>
 ldI w11 .u64 b33 (o34 + 2) fun n37 =>
 ix a0 (w64 (t4.1 - 1)) 3 fun b38 o39 =>
 ldB w11 b38 o39 fun b40 =>
 ldI w11 .i64 b38 (o39 + 1) fun n41 =>
 ldI w11 .u64 b38 (o39 + 2) fun n42 =>
 ob (enterable Pg a3.fid = true) (
 cl Pg a3.fid (a3.pre ++ ([.agg #[.bool b35, .int .i64 n36, .int .u64 n37], .agg #[.bool b40, .int .i64 n41, .int .u64 n42]] ++ a3.post)) [kI] w11 fun (r43 : Int × Unit) w44 =>
 J8 (decide ((r43.1 : Int) < (0 : Int)), ()) w44)) (
 J8 (false, ()) w11)) (
 R [] w3)
theorem tie231 (a0 : Sl) (a1 : Int) (a2 : Int) (a3 : Fv) (R : List Value → World → Prop) (w : World) : compF Pg Tryz.f231 ⟨[(1, ⟨[(8, kI)], [9, 12, 13, 14, 15, 16, 17, 18, 19, 20, 21, 22, 23, 24, 25, 26, 27, 28, 29, 30, 31, 32, 33, 34, 35, 36, 37, 38, 39, 40, 41, 42, 43, 44, 45, 46, 47, 48, 49, 50, 51, 52]⟩), (5, ⟨[(9, kI)], [18, 19, 20, 21, 22, 23, 24, 25, 26, 27, 28, 29, 30, 31, 32, 33, 34, 35, 36, 37, 38, 39, 40, 41, 42, 43, 44, 45, 46, 47, 48, 49, 50, 51, 52]⟩)], [(4, ⟨[(34, kB)], [18, 19, 20, 21, 22, 23, 24, 25, 26, 27, 28, 29, 30, 31, 32, 33]⟩)], [(4, .l [(0, []), (1, []), (2, []), (3, []), (4, []), (5, []), (6, []), (7, []), (8, []), (9, []), (10, []), (11, []), (12, []), (13, []), (14, [4, 8, 13, 3, 7, 12, 2, 5, 6, 9, 11, 0, 1, 10]), (15, []), (16, [])]), (6, .l [(0, []), (1, []), (2, []), (3, []), (4, []), (5, []), (6, []), (7, []), (8, []), (9, []), (10, []), (11, []), (12, []), (13, []), (14, []), (15, [14, 9, 0, 1, 5, 6, 7, 8, 13, 12, 10, 11]), (16, []), (17, [16, 13, 15, 0, 1, 2, 3, 4, 5, 6, 7, 8, 9, 10, 11, 12, 14])])], []⟩ [vS a0, .int .i64 a1, .int .i64 a2, vF a3] R w = sh231 a0 a1 a2 a3 R w := by kernel_rfl
theorem call231 {a0 : Sl} {a1 : Int} {a2 : Int} {a3 : Fv} {w : World} {K : TK [] → World → Prop} (h : sh231 a0 a1 a2 a3 (fun vs w' => ∃ t, encK [] t = vs ∧ K t w') w) : cl Pg 231 [vS a0, .int .i64 a1, .int .i64 a2, vF a3] [] w K := cl_of Tryz.func231 (tie231 ..) h
def sh190 (a0 : Sl) (a1 : Int) (a2 : Fv) (R : List Value → World → Prop) (w : World) : Prop :=
 lp [kI, kI] w ((0 : Int), (20 : Int), ()) fun (t1 : Int × Int × Unit) J2 w3 =>
 cs (decide ((t1.2.1 : Int) ≤ (a1 : Int))) (
 cl Pg 231 [vS a0, .int .i64 t1.1, .int .i64 t1.2.1, vF a2] [] w3 fun (r4 : Unit) w5 =>
 J2 (t1.2.1, w64 (t1.2.1 + 20), ()) w5) (
 cl Pg 231 [vS a0, .int .i64 t1.1, .int .i64 a1, vF a2] [] w3 fun (r6 : Unit) w7 =>
 lp [kI] w7 ((20 : Int), ()) fun (t8 : Int × Unit) J9 w10 =>
 cs (decide ((t8.1 : Int) < (a1 : Int))) (
 lp [kI, kI] w10 ((0 : Int), w64 (2 * t8.1), ()) fun (t11 : Int × Int × Unit) J12 w13 =>
 cs (decide ((t11.2.1 : Int) ≤ (a1 : Int))) (
 cl Pg 232 [vS a0, .int .i64 t11.1, .int .i64 (w64 (t11.1 + t8.1)), .int .i64 t11.2.1, vF a2] [] w13 fun (r14 : Unit) w15 =>
 J12 (t11.2.1, w64 (t11.2.1 + (w64 (2 * t8.1))), ()) w15) (
 cs (decide ((w64 (t11.1 + t8.1) : Int) < (a1 : Int))) (
 cl Pg 232 [vS a0, .int .i64 t11.1, .int .i64 (w64 (t11.1 + t8.1)), .int .i64 a1, vF a2] [] w13 fun (r16 : Unit) w17 =>
 J9 (w64 (t8.1 * 2), ()) w17) (
 J9 (w64 (t8.1 * 2), ()) w13))) (
 R [] w10))
theorem tie190 (a0 : Sl) (a1 : Int) (a2 : Fv) (R : List Value → World → Prop) (w : World) : compF Pg Tryz.f190 ⟨[(1, ⟨[(7, kI), (8, kI)], [11, 12, 13, 14, 15, 16, 17, 18, 19, 20, 21, 22]⟩), (5, ⟨[(6, kI)], [7, 8, 9, 28, 29, 30, 31, 32, 33, 34, 35, 36, 37, 38, 39, 40, 41, 42, 43, 44, 45, 46, 47, 48, 49, 50, 51, 52, 53, 54, 55, 56, 57, 58, 59, 60, 61, 62]⟩), (9, ⟨[(7, kI), (8, kI)], [33, 34, 35, 36, 37, 38, 39, 40, 41, 42, 43, 44, 45, 46, 47, 48]⟩)], [], [], []⟩ [vS a0, .int .i64 a1, vF a2] R w = sh190 a0 a1 a2 R w := by kernel_rfl
theorem call190 {a0 : Sl} {a1 : Int} {a2 : Fv} {w : World} {K : TK [] → World → Prop} (h : sh190 a0 a1 a2 (fun vs w' => ∃ t, encK [] t = vs ∧ K t w') w) : cl Pg 190 [vS a0, .int .i64 a1, vF a2] [] w K := cl_of Tryz.func190 (tie190 ..) h
def sh108 (a0 : Sl) (a1 : Fv) (R : List Value → World → Prop) (w : World) : Prop :=
 cl Pg 190 [vS a0, .int .i64 (a0.len : Int), vF a1] [] w fun (r1 : Unit) w2 =>
 R [] w2
theorem tie108 (a0 : Sl) (a1 : Fv) (R : List Value → World → Prop) (w : World) : compF Pg Tryz.f108 ⟨[], [], [], []⟩ [vS a0, vF a1] R w = sh108 a0 a1 R w := by kernel_rfl
theorem call108 {a0 : Sl} {a1 : Fv} {w : World} {K : TK [] → World → Prop} (h : sh108 a0 a1 (fun vs w' => ∃ t, encK [] t = vs ∧ K t w') w) : cl Pg 108 [vS a0, vF a1] [] w K := cl_of Tryz.func108 (tie108 ..) h
def sh110 (a0 : Sl) (R : List Value → World → Prop) (w : World) : Prop :=
 sb a0 0 (a0.len : Int) (a0.len : Int) 3 fun s1 =>
 R [vS s1] w
theorem tie110 (a0 : Sl) (R : List Value → World → Prop) (w : World) : compF Pg Tryz.f110 ⟨[], [], [], []⟩ [vS a0] R w = sh110 a0 R w := by kernel_rfl
theorem call110 {a0 : Sl} {w : World} {K : TK [kS] → World → Prop} (h : sh110 a0 (fun vs w' => ∃ t, encK [kS] t = vs ∧ K t w') w) : cl Pg 110 [vS a0] [kS] w K := cl_of Tryz.func110 (tie110 ..) h
def sh53 (a0 : Option Addr) (R : List Value → World → Prop) (w : World) : Prop :=
 nn a0 fun b1 o2 =>
 ldP w b1 o2 fun p3 =>
 cl Pg 106 [.pointer p3] [kS] w fun (r4 : Sl × Unit) w5 =>
 nn a0 fun b6 o7 =>
 ldP w5 b6 o7 fun p8 =>
 cl Pg 107 [.pointer p8] [.l (.i .u64)] w5 fun (r9 : Int × Unit) w10 =>
 nn a0 fun b11 o12 =>
 ldS w10 b11 (o12 + 2) fun s13 =>
 lp [kS, kI] w10 (⟨none, 0, 0⟩, (0 : Int), ()) fun (t14 : Sl × Int × Unit) J15 w16 =>
 cs (decide ((t14.2.1 : Int) < ((s13.len : Int) : Int))) (
 nn a0 fun b17 o18 =>
 ldS w16 b17 (o18 + 2) fun s19 =>
 ix s19 t14.2.1 5 fun b20 o21 =>
 lp [kS] w16 (t14.1, ()) fun (t22 : Sl × Unit) J23 w24 =>
 nn (some ⟨b20, o21, none⟩) fun b25 o26 =>
 ldB w24 b25 (o26 + 3) fun b27 =>
 jn [kB] w24 (fun (t29 : Bool × Unit) w30 =>
 cs t29.1 (
 nn (some ⟨b20, o21, none⟩) fun b32 o33 =>
 ldI w30 .u64 b32 (o33 + 1) fun n34 =>
 al w30 201 [.bool true, .int .i64 (w64 (t14.2.1 + 1)), .int .u64 n34] fun b35 w36 =>
 ef Pg (Builtin.append_ #[51, 51] 51 #[vS t22.1, vS ⟨some ⟨b35, 0, none⟩, 1, 1⟩]) [kS] w36 fun (r37 : Sl × Unit) w38 =>
 dr w38 fun w39 =>
 nn (some ⟨b20, o21, none⟩) fun b40 o41 =>
 ldI w39 .u64 b40 (o41 + 1) fun n42 =>
 nn (some ⟨b20, o21, none⟩) fun b43 o44 =>
 ldI w39 .u64 b43 (o44 + 2) fun n45 =>
 nn (some ⟨b20, o21, none⟩) fun b46 o47 =>
 st1 w39 b46 (o47 + 1) (.int .u64 (IntKind.u64.wrap (n42 + n45))) fun w48 =>
 J23 (r37.1, ()) w48) (
 J15 (t22.1, w64 (t14.2.1 + 1), ()) w30)) fun J28 w31 =>
 cs b27 (
 nn (some ⟨b20, o21, none⟩) fun b49 o50 =>
 ldI w31 .u64 b49 (o50 + 1) fun n51 =>
 J28 (decide ((n51 : Int) ≤ (r9.1 : Int)), ()) w31) (
 J28 (false, ()) w31)) (
 nn a0 fun b52 o53 =>
 ldS w16 b52 (o53 + 3) fun s54 =>
 lp [kS, kI] w16 (t14.1, (0 : Int), ()) fun (t55 : Sl × Int × Unit) J56 w57 =>
 cs (decide ((t55.2.1 : Int) < ((s54.len : Int) : Int))) (
 nn a0 fun b58 o59 =>
 ldS w57 b58 (o59 + 3) fun s60 =>
 ix s60 t55.2.1 2 fun b61 o62 =>
 nn (some ⟨b61, o62, none⟩) fun b63 o64 =>
 ldB w57 b63 o64 fun b65 =>
 jn [kB] w57 (fun (t67 : Bool × Unit) w68 =>
 cs t67.1 (
 nn (some ⟨b61, o62, none⟩) fun b70 o71 =>
 ldI w68 .u64 b70 (o71 + 1) fun n72 =>
 al w68 201 [.bool false, .int .i64 (w64 (t55.2.1 + 1)), .int .u64 n72] fun b73 w74 =>
 ef Pg (Builtin.append_ #[51, 51] 51 #[vS t55.1, vS ⟨some ⟨b73, 0, none⟩, 1, 1⟩]) [kS] w74 fun (r75 : Sl × Unit) w76 =>
 nn (some ⟨b61, o62, none⟩) fun b77 o78 =>
 st1 w76 b77 o78 (.bool false) fun w79 =>
 st1 w79 b77 (o78 + 1) (.int .u64 0) fun w80 =>
 J56 (r75.1, w64 (t55.2.1 + 1), ()) w80) (
 J56 (t55.1, w64 (t55.2.1 + 1), ()) w68)) fun J66 w69 =>
 cs b65 (
 nn (some ⟨b61, o62, none⟩) fun b81 o82 =>
 ldI w69 .u64 b81 (o82 + 1) fun n83 =>
 J66 (decide ((n83 : Int) ≤ (r9.1 : Int)), ()) w69) (
 J66 (false, ()) w69)) (
 cl Pg 108 [vS t55.1, .func (.func 109) #[] #[]] [] w57 fun (r84 : Unit) w85 =>
 cl Pg 110 [vS t55.1] [kS] w85 fun (r86 : Sl × Unit) w87 =>
 R [vS r86.1, vS r4.1] w87))
theorem tie53 (a0 : Option Addr) (R : List Value → World → Prop) (w : World) : compF Pg Tryz.f53 ⟨[(1, ⟨[(6, kS), (26, kI)], [7, 8, 27, 28, 29, 30, 31, 32, 33, 34, 35, 36, 37, 38, 39, 40, 41, 42, 43, 44, 45, 46, 47, 48, 49, 50, 51, 52, 53, 54, 55, 56, 57, 58, 59, 60, 61, 62, 63, 64, 65, 66, 67, 68]⟩), (5, ⟨[(6, kS)], [35, 36, 37, 38, 39, 40, 41, 42, 43, 44, 45, 46, 47, 48, 49, 50, 51, 52, 53, 54, 55, 56, 57, 58, 59, 60, 61, 62, 63, 64, 65, 66, 67]⟩), (9, ⟨[(6, kS), (74, kI)], [9, 10, 75, 76, 77, 78, 79, 80, 81, 82, 83, 84, 85, 86, 87, 88, 89, 90, 91, 92, 93, 94, 95, 96, 97, 98, 99, 100, 101, 102, 103, 104, 105, 106, 107, 108]⟩)], [], [(9, .l [(0, []), (1, []), (2, []), (3, []), (4, []), (5, []), (6, []), (7, []), (8, []), (9, []), (10, []), (11, [10, 8, 0, 1, 2, 3, 4, 5, 6, 7, 9])])], [(8, [(5, 7, ⟨[(46, kB)], [40, 41, 42, 43, 44, 45]⟩)]), (16, [(5, 7, ⟨[(94, kB)], [88, 89, 90, 91, 92, 93]⟩)])]⟩ [.pointer a0] R w = sh53 a0 R w := by kernel_rfl
theorem call53 {a0 : Option Addr} {w : World} {K : TK [kS, kS] → World → Prop} (h : sh53 a0 (fun vs w' => ∃ t, encK [kS, kS] t = vs ∧ K t w') w) : cl Pg 53 [.pointer a0] [kS, kS] w K := cl_of Tryz.func53 (tie53 ..) h
def sh22 (a0 : Option Addr) (R : List Value → World → Prop) (w : World) : Prop :=
 nn a0 fun b1 o2 =>
 ldP w b1 (o2 + 7) fun p3 =>
 cl Pg 53 [.pointer p3] [kS, kS] w fun (r4 : Sl × Sl × Unit) w5 =>
 lp [kI] w5 ((0 : Int), ()) fun (t6 : Int × Unit) J7 w8 =>
 cs (decide ((t6.1 : Int) < ((r4.2.1.len : Int) : Int))) (
 ix r4.2.1 t6.1 1 fun b9 o10 =>
 ldI w8 .i64 b9 o10 fun n11 =>
 nn a0 fun b12 o13 =>
 ldS w8 b12 (o13 + 9) fun s14 =>
 ix s14 n11 1 fun b15 o16 =>
 ldP w8 b15 o16 fun p17 =>
 nn p17 fun b18 o19 =>
 ldI w8 .i64 b18 (o19 + 3) fun n20 =>
 jn [kI] w8 (fun (t22 : Int × Unit) w23 =>
 cl Pg 54 [.pointer a0, .int .i64 n11] [] w23 fun (r25 : Unit) w26 =>
 cl Pg 55 [.pointer a0, .int .i64 n11, .agg #[.int .i64 t22.1, .int .i64 0]] [] w26 fun (r27 : Unit) w28 =>
 cl Pg 56 [.pointer a0] [] w28 fun (r29 : Unit) w30 =>
 J7 (w64 (t6.1 + 1), ()) w30) fun J21 w24 =>
 cs ((n20 : Int) == (2 : Int)) (
 J21 ((0 : Int), ()) w24) (
 J21 (((-50) : Int), ()) w24)) (
 cl Pg 57 [.pointer a0] [] w8 fun (r31 : Unit) w32 =>
 R [vS r4.1] w32)
theorem tie22 (a0 : Option Addr) (R : List Value → World → Prop) (w : World) : compF Pg Tryz.f22 ⟨[(1, ⟨[(18, kI)], [6, 7, 19, 20, 21, 22, 23, 24, 25, 26, 27, 28, 29, 30, 31, 32, 33, 34, 35, 36, 37, 38, 39, 40, 41, 42, 43]⟩), (4, ⟨[(7, kI)], []⟩)], [], [], []⟩ [.pointer a0] R w = sh22 a0 R w := by kernel_rfl
theorem call22 {a0 : Option Addr} {w : World} {K : TK [kS] → World → Prop} (h : sh22 a0 (fun vs w' => ∃ t, encK [kS] t = vs ∧ K t w') w) : cl Pg 22 [.pointer a0] [kS] w K := cl_of Tryz.func22 (tie22 ..) h
def sh36 (a0 : Option Addr) (a1 : Int) (R : List Value → World → Prop) (w : World) : Prop :=
 cl Pg 62 [.int .i64 a1] [kB] w fun (r1 : Bool × Unit) w2 =>
 cs (!r1.1) (
 R [.int .i64 0] w2) (
 nn a0 fun b3 o4 =>
 ixA b3 (o4 + 1) 17 a1 3 fun b5 o6 =>
 ldI w2 .i64 b5 o6 fun n7 =>
 R [.int .i64 n7] w2)
theorem tie36 (a0 : Option Addr) (a1 : Int) (R : List Value → World → Prop) (w : World) : compF Pg Tryz.f36 ⟨[], [], [], []⟩ [.pointer a0, .int .i64 a1] R w = sh36 a0 a1 R w := by kernel_rfl
theorem call36 {a0 : Option Addr} {a1 : Int} {w : World} {K : TK [kI] → World → Prop} (h : sh36 a0 a1 (fun vs w' => ∃ t, encK [kI] t = vs ∧ K t w') w) : cl Pg 36 [.pointer a0, .int .i64 a1] [kI] w K := cl_of Tryz.func36 (tie36 ..) h
def sh24 (a0 : Option Addr) (a1 : Int) (R : List Value → World → Prop) (w : World) : Prop :=
 al w 59 [.int .i64 0, .int .i64 0, .int .i64 0, .int .i64 0, .int .i64 0, .int .i64 0, .int .i64 0, .int .i64 0] fun b1 w2 =>
 al w2 61 [.int .i64 0, .int .i64 0, .int .i64 0] fun b3 w4 =>
 jn [kB] w4 (fun (t6 : Bool × Unit) w7 =>
 cs t6.1 (
 st1 w7 b1 0 (.int .i64 0) fun w9 =>
 st1 w9 b1 (0 + 1) (.int .i64 0) fun w10 =>
 st1 w10 b1 (0 + 2) (.int .i64 0) fun w11 =>
 st1 w11 b1 (0 + 3) (.int .i64 0) fun w12 =>
 st1 w12 b1 (0 + 4) (.int .i64 0) fun w13 =>
 st1 w13 b1 (0 + 5) (.int .i64 0) fun w14 =>
 st1 w14 b1 (0 + 6) (.int .i64 0) fun w15 =>
 st1 w15 b1 (0 + 7) (.int .i64 0) fun w16 =>
 st1 w16 b3 0 (.int .i64 0) fun w17 =>
 st1 w17 b3 (0 + 1) (.int .i64 0) fun w18 =>
 st1 w18 b3 (0 + 2) (.int .i64 0) fun w19 =>
 ldI w19 .i64 b1 0 fun n20 =>
 ldI w19 .i64 b1 (0 + 1) fun n21 =>
 ldI w19 .i64 b1 (0 + 2) fun n22 =>
 ldI w19 .i64 b1 (0 + 3) fun n23 =>
 ldI w19 .i64 b1 (0 + 4) fun n24 =>
 ldI w19 .i64 b1 (0 + 5) fun n25 =>
 ldI w19 .i64 b1 (0 + 6) fun n26 =>
 ldI w19 .i64 b1 (0 + 7) fun n27 =>
 ldI w19 .i64 b3 0 fun n28 =>
 ldI w19 .i64 b3 (0 + 1) fun n29 =>
 ldI w19 .i64 b3 (0 + 2) fun n30 =>
 R [.agg #[.int .i64 n20, .int .i64 n21, .int .i64 n22, .int .i64 n23, .int .i64 n24, .int .i64 n25, .int .i64 n26, .int .i64 n27], .agg #[.int .i64 n28, .int .i64 n29, .int .i64 n30], .int .i64 (-18)] w19) (
 nn a0 fun b31 o32 =>
 ldS w7 b31 (o32 + 9) fun s33 =>
 ix s33 a1 1 fun b34 o35 =>
 ldP w7 b34 o35 fun p36 =>
 dr w7 fun w37 =>
 nn p36 fun b38 o39 =>
 ldP w37 b38 o39 fun p40 =>
 nn p40 fun b41 o42 =>
 ldI w37 .i64 b41 (o42 + 3) fun n43 =>
 nn a0 fun b44 o45 =>
 ldP w37 b44 (o45 + 5) fun p46 =>
 nn a0 fun b47 o48 =>
 ldP w37 b47 (o48 + 5) fun p49 =>
 nn p36 fun b50 o51 =>
 ldI w37 .i64 b50 (o51 + 3) fun n52 =>
 nn p36 fun b53 o54 =>
 ldI w37 .i64 b53 (o54 + 4) fun n55 =>
 nn p36 fun b56 o57 =>
 ldI w37 .i64 b56 (o57 + 6) fun n58 =>
 ldI w37 .i64 b56 (o57 + 6 + 1) fun n59 =>
(
 cl Pg 35 [.pointer p46, .int .i64 a1] [kI] w37 fun (r60 : Int × Unit) w61 =>
(w61.cell? ⟨b56, o57 + 6, none⟩ = some (.int .i64 n58) ∧ w61.cell? ⟨b56, o57 + 6 + 1, none⟩ = some (.int .i64 n59)) ∧ (
(w61.cell? ⟨b53, o54 + 4, none⟩ = some (.int .i64 n55)) ∧ (
(w61.cell? ⟨b50, o51 + 3, none⟩ = some (.int .i64 n52)) ∧ (
(w61.cell? ⟨b47, o48 + 5, none⟩ = some (.pointer p49)) ∧ (
(w61.cell? ⟨b41, o42 + 3, none⟩ = some (.int .i64 n43)) ∧ (
(w61.cell? ⟨b38, o39, none⟩ = some (.pointer p40)) ∧ (
(
 cl Pg 36 [.pointer p49, .int .i64 a1] [kI] w61 fun (r62 : Int × Unit) w63 =>
(w63.cell? ⟨b56, o57 + 6, none⟩ = some (.int .i64 n58) ∧ w63.cell? ⟨b56, o57 + 6 + 1, none⟩ = some (.int .i64 n59)) ∧ (
(w63.cell? ⟨b53, o54 + 4, none⟩ = some (.int .i64 n55)) ∧ (
(w63.cell? ⟨b50, o51 + 3, none⟩ = some (.int .i64 n52)) ∧ (
(w63.cell? ⟨b41, o42 + 3, none⟩ = some (.int .i64 n43)) ∧ (
(w63.cell? ⟨b38, o39, none⟩ = some (.pointer p40)) ∧ (
 al w63 59 [.int .i64 0, .int .i64 0, .int .i64 0, .int .i64 0, .int .i64 0, .int .i64 0, .int .i64 0, .int .i64 0] fun b64 w65 =>
(w65.cell? ⟨b56, o57 + 6, none⟩ = some (.int .i64 n58) ∧ w65.cell? ⟨b56, o57 + 6 + 1, none⟩ = some (.int .i64 n59)) ∧ (
(w65.cell? ⟨b53, o54 + 4, none⟩ = some (.int .i64 n55)) ∧ (
(w65.cell? ⟨b50, o51 + 3, none⟩ = some (.int .i64 n52)) ∧ (
(w65.cell? ⟨b47, o48 + 5, none⟩ = some (.pointer p49)) ∧ (
(w65.cell? ⟨b44, o45 + 5, none⟩ = some (.pointer p46)) ∧ (
(w65.cell? ⟨b41, o42 + 3, none⟩ = some (.int .i64 n43)) ∧ (
(w65.cell? ⟨b38, o39, none⟩ = some (.pointer p40)) ∧ (
 st1 w65 b64 0 (.int .i64 n43) fun w66 =>
 st1 w66 b64 (0 + 1) (.int .i64 r60.1) fun w67 =>
 st1 w67 b64 (0 + 2) (.int .i64 r62.1) fun w68 =>
 st1 w68 b64 (0 + 3) (.int .i64 0) fun w69 =>
 st1 w69 b64 (0 + 4) (.int .i64 n52) fun w70 =>
 st1 w70 b64 (0 + 5) (.int .i64 n55) fun w71 =>
 st1 w71 b64 (0 + 6) (.int .i64 n58) fun w72 =>
 st1 w72 b64 (0 + 7) (.int .i64 n59) fun w73 =>
 nn a0 fun b74 o75 =>
 ldI w73 .i64 b74 (o75 + 12) fun n76 =>
 jn [] w73 (fun (t78 : Unit) w79 =>
 dr w79 fun w81 =>
 ldI w81 .i64 b64 0 fun n82 =>
 ldI w81 .i64 b64 (0 + 1) fun n83 =>
 ldI w81 .i64 b64 (0 + 2) fun n84 =>
 ldI w81 .i64 b64 (0 + 3) fun n85 =>
 ldI w81 .i64 b64 (0 + 4) fun n86 =>
 ldI w81 .i64 b64 (0 + 5) fun n87 =>
 ldI w81 .i64 b64 (0 + 6) fun n88 =>
 ldI w81 .i64 b64 (0 + 7) fun n89 =>
 nn p36 fun b90 o91 =>
 ldP w81 b90 o91 fun p92 =>
 nn p92 fun b93 o94 =>
 ldI w81 .i64 b93 o94 fun n95 =>
 ldI w81 .i64 b93 (o94 + 1) fun n96 =>
 ldI w81 .i64 b93 (o94 + 2) fun n97 =>
 st1 w81 b1 0 (.int .i64 n82) fun w98 =>
 st1 w98 b1 (0 + 1) (.int .i64 n83) fun w99 =>
 st1 w99 b1 (0 + 2) (.int .i64 n84) fun w100 =>
 st1 w100 b1 (0 + 3) (.int .i64 n85) fun w101 =>
 st1 w101 b1 (0 + 4) (.int .i64 n86) fun w102 =>
 st1 w102 b1 (0 + 5) (.int .i64 n87) fun w103 =>
 st1 w103 b1 (0 + 6) (.int .i64 n88) fun w104 =>
 st1 w104 b1 (0 + 7) (.int .i64 n89) fun w105 =>
(w105.cell? ⟨b93, o94, none⟩ = some (.int .i64 n95) ∧ w105.cell? ⟨b93, o94 + 1, none⟩ = some (.int .i64 n96) ∧ w105.cell? ⟨b93, o94 + 2, none⟩ = some (.int .i64 n97)) ∧ (
(w105.cell? ⟨b90, o91, none⟩ = some (.pointer p92)) ∧ (
 st1 w105 b3 0 (.int .i64 n95) fun w106 =>
 st1 w106 b3 (0 + 1) (.int .i64 n96) fun w107 =>
 st1 w107 b3 (0 + 2) (.int .i64 n97) fun w108 =>
 ldI w108 .i64 b1 0 fun n109 =>
 ldI w108 .i64 b1 (0 + 1) fun n110 =>
 ldI w108 .i64 b1 (0 + 2) fun n111 =>
 ldI w108 .i64 b1 (0 + 3) fun n112 =>
 ldI w108 .i64 b1 (0 + 4) fun n113 =>
 ldI w108 .i64 b1 (0 + 5) fun n114 =>
 ldI w108 .i64 b1 (0 + 6) fun n115 =>
 ldI w108 .i64 b1 (0 + 7) fun n116 =>
 ldI w108 .i64 b3 0 fun n117 =>
 ldI w108 .i64 b3 (0 + 1) fun n118 =>
 ldI w108 .i64 b3 (0 + 2) fun n119 =>
 R [.agg #[.int .i64 n109, .int .i64 n110, .int .i64 n111, .int .i64 n112, .int .i64 n113, .int .i64 n114, .int .i64 n115, .int .i64 n116], .agg #[.int .i64 n117, .int .i64 n118, .int .i64 n119], .int .i64 0] w108))) fun J77 w80 =>
 cs ((a1 : Int) == (n76 : Int)) (
 st1 w80 b64 0 (.int .i64 1) fun w120 =>
 J77 () w120) (
 J77 () w80)))))))))))))) ∧ (
 al w61 59 [.int .i64 0, .int .i64 0, .int .i64 0, .int .i64 0, .int .i64 0, .int .i64 0, .int .i64 0, .int .i64 0] fun b121 w122 =>
(w122.cell? ⟨b56, o57 + 6, none⟩ = some (.int .i64 n58) ∧ w122.cell? ⟨b56, o57 + 6 + 1, none⟩ = some (.int .i64 n59)) ∧ (
(w122.cell? ⟨b53, o54 + 4, none⟩ = some (.int .i64 n55)) ∧ (
(w122.cell? ⟨b50, o51 + 3, none⟩ = some (.int .i64 n52)) ∧ (
(w122.cell? ⟨b47, o48 + 5, none⟩ = some (.pointer p49)) ∧ (
(w122.cell? ⟨b44, o45 + 5, none⟩ = some (.pointer p46)) ∧ (
(w122.cell? ⟨b41, o42 + 3, none⟩ = some (.int .i64 n43)) ∧ (
(w122.cell? ⟨b38, o39, none⟩ = some (.pointer p40)) ∧ (
 cl Pg 36 [.pointer p49, .int .i64 a1] [kI] w122 fun (r123 : Int × Unit) w124 =>
(w124.cell? ⟨b56, o57 + 6, none⟩ = some (.int .i64 n58) ∧ w124.cell? ⟨b56, o57 + 6 + 1, none⟩ = some (.int .i64 n59)) ∧ (
(w124.cell? ⟨b53, o54 + 4, none⟩ = some (.int .i64 n55)) ∧ (
(w124.cell? ⟨b50, o51 + 3, none⟩ = some (.int .i64 n52)) ∧ (
(w124.cell? ⟨b41, o42 + 3, none⟩ = some (.int .i64 n43)) ∧ (
(w124.cell? ⟨b38, o39, none⟩ = some (.pointer p40)) ∧ (
 st1 w124 b121 0 (.int .i64 n43) fun w125 =>
 st1 w125 b121 (0 + 1) (.int .i64 r60.1) fun w126 =>
 st1 w126 b121 (0 + 2) (.int .i64 r123.1) fun w127 =>
 st1 w127 b121 (0 + 3) (.int .i64 0) fun w128 =>
 st1 w128 b121 (0 + 4) (.int .i64 n52) fun w129 =>
 st1 w129 b121 (0 + 5) (.int .i64 n55) fun w130 =>
 st1 w130 b121 (0 + 6) (.int .i64 n58) fun w131 =>
 st1 w131 b121 (0 + 7) (.int .i64 n59) fun w132 =>
 nn a0 fun b133 o134 =>
 ldI w132 .i64 b133 (o134 + 12) fun n135 =>
 jn [] w132 (fun (t137 : Unit) w138 =>
 dr w138 fun w140 =>
 ldI w140 .i64 b121 0 fun n141 =>
 ldI w140 .i64 b121 (0 + 1) fun n142 =>
 ldI w140 .i64 b121 (0 + 2) fun n143 =>
 ldI w140 .i64 b121 (0 + 3) fun n144 =>
 ldI w140 .i64 b121 (0 + 4) fun n145 =>
 ldI w140 .i64 b121 (0 + 5) fun n146 =>
 ldI w140 .i64 b121 (0 + 6) fun n147 =>
 ldI w140 .i64 b121 (0 + 7) fun n148 =>
 nn p36 fun b149 o150 =>
 ldP w140 b149 o150 fun p151 =>
 nn p151 fun b152 o153 =>
 ldI w140 .i64 b152 o153 fun n154 =>
 ldI w140 .i64 b152 (o153 + 1) fun n155 =>
 ldI w140 .i64 b152 (o153 + 2) fun n156 =>
 st1 w140 b1 0 (.int .i64 n141) fun w157 =>
 st1 w157 b1 (0 + 1) (.int .i64 n142) fun w158 =>
 st1 w158 b1 (0 + 2) (.int .i64 n143) fun w159 =>
 st1 w159 b1 (0 + 3) (.int .i64 n144) fun w160 =>
 st1 w160 b1 (0 + 4) (.int .i64 n145) fun w161 =>
 st1 w161 b1 (0 + 5) (.int .i64 n146) fun w162 =>
 st1 w162 b1 (0 + 6) (.int .i64 n147) fun w163 =>
 st1 w163 b1 (0 + 7) (.int .i64 n148) fun w164 =>
(w164.cell? ⟨b152, o153, none⟩ = some (.int .i64 n154) ∧ w164.cell? ⟨b152, o153 + 1, none⟩ = some (.int .i64 n155) ∧ w164.cell? ⟨b152, o153 + 2, none⟩ = some (.int .i64 n156)) ∧ (
(w164.cell? ⟨b149, o150, none⟩ = some (.pointer p151)) ∧ (
 st1 w164 b3 0 (.int .i64 n154) fun w165 =>
 st1 w165 b3 (0 + 1) (.int .i64 n155) fun w166 =>
 st1 w166 b3 (0 + 2) (.int .i64 n156) fun w167 =>
 ldI w167 .i64 b1 0 fun n168 =>
 ldI w167 .i64 b1 (0 + 1) fun n169 =>
 ldI w167 .i64 b1 (0 + 2) fun n170 =>
 ldI w167 .i64 b1 (0 + 3) fun n171 =>
 ldI w167 .i64 b1 (0 + 4) fun n172 =>
 ldI w167 .i64 b1 (0 + 5) fun n173 =>
 ldI w167 .i64 b1 (0 + 6) fun n174 =>
 ldI w167 .i64 b1 (0 + 7) fun n175 =>
 ldI w167 .i64 b3 0 fun n176 =>
 ldI w167 .i64 b3 (0 + 1) fun n177 =>
 ldI w167 .i64 b3 (0 + 2) fun n178 =>
 R [.agg #[.int .i64 n168, .int .i64 n169, .int .i64 n170, .int .i64 n171, .int .i64 n172, .int .i64 n173, .int .i64 n174, .int .i64 n175], .agg #[.int .i64 n176, .int .i64 n177, .int .i64 n178], .int .i64 0] w167))) fun J136 w139 =>
 cs ((a1 : Int) == (n135 : Int)) (
 st1 w139 b121 0 (.int .i64 1) fun w179 =>
 J136 () w179) (
 J136 () w139))))))))))))))))))))) ∧ (
 al w37 59 [.int .i64 0, .int .i64 0, .int .i64 0, .int .i64 0, .int .i64 0, .int .i64 0, .int .i64 0, .int .i64 0] fun b180 w181 =>
(w181.cell? ⟨b56, o57 + 6, none⟩ = some (.int .i64 n58) ∧ w181.cell? ⟨b56, o57 + 6 + 1, none⟩ = some (.int .i64 n59)) ∧ (
(w181.cell? ⟨b53, o54 + 4, none⟩ = some (.int .i64 n55)) ∧ (
(w181.cell? ⟨b50, o51 + 3, none⟩ = some (.int .i64 n52)) ∧ (
(w181.cell? ⟨b47, o48 + 5, none⟩ = some (.pointer p49)) ∧ (
(w181.cell? ⟨b44, o45 + 5, none⟩ = some (.pointer p46)) ∧ (
(w181.cell? ⟨b41, o42 + 3, none⟩ = some (.int .i64 n43)) ∧ (
(w181.cell? ⟨b38, o39, none⟩ = some (.pointer p40)) ∧ (
 cl Pg 35 [.pointer p46, .int .i64 a1] [kI] w181 fun (r182 : Int × Unit) w183 =>
(w183.cell? ⟨b56, o57 + 6, none⟩ = some (.int .i64 n58) ∧ w183.cell? ⟨b56, o57 + 6 + 1, none⟩ = some (.int .i64 n59)) ∧ (
(w183.cell? ⟨b53, o54 + 4, none⟩ = some (.int .i64 n55)) ∧ (
(w183.cell? ⟨b50, o51 + 3, none⟩ = some (.int .i64 n52)) ∧ (
(w183.cell? ⟨b47, o48 + 5, none⟩ = some (.pointer p49)) ∧ (
(w183.cell? ⟨b41, o42 + 3, none⟩ = some (.int .i64 n43)) ∧ (
(w183.cell? ⟨b38, o39, none⟩ = some (.pointer p40)) ∧ (
 cl Pg 36 [.pointer p49, .int .i64 a1] [kI] w183 fun (r184 : Int × Unit) w185 =>
(w185.cell? ⟨b56, o57 + 6, none⟩ = some (.int .i64 n58) ∧ w185.cell? ⟨b56, o57 + 6 + 1, none⟩ = some (.int .i64 n59)) ∧ (
(w185.cell? ⟨b53, o54 + 4, none⟩ = some (.int .i64 n55)) ∧ (
(w185.cell? ⟨b50, o51 + 3, none⟩ = some (.int .i64 n52)) ∧ (
(w185.cell? ⟨b41, o42 + 3, none⟩ = some (.int .i64 n43)) ∧ (
(w185.cell? ⟨b38, o39, none⟩ = some (.pointer p40)) ∧ (
 st1 w185 b180 0 (.int .i64 n43) fun w186 =>
 st1 w186 b180 (0 + 1) (.int .i64 r182.1) fun w187 =>
 st1 w187 b180 (0 + 2) (.int .i64 r184.1) fun w188 =>
 st1 w188 b180 (0 + 3) (.int .i64 0) fun w189 =>
 st1 w189 b180 (0 + 4) (.int .i64 n52) fun w190 =>
 st1 w190 b180 (0 + 5) (.int .i64 n55) fun w191 =>
 st1 w191 b180 (0 + 6) (.int .i64 n58) fun w192 =>
 st1 w192 b180 (0 + 7) (.int .i64 n59) fun w193 =>
 nn a0 fun b194 o195 =>
 ldI w193 .i64 b194 (o195 + 12) fun n196 =>
 jn [] w193 (fun (t198 : Unit) w199 =>
 dr w199 fun w201 =>
 ldI w201 .i64 b180 0 fun n202 =>
 ldI w201 .i64 b180 (0 + 1) fun n203 =>
 ldI w201 .i64 b180 (0 + 2) fun n204 =>
 ldI w201 .i64 b180 (0 + 3) fun n205 =>
 ldI w201 .i64 b180 (0 + 4) fun n206 =>
 ldI w201 .i64 b180 (0 + 5) fun n207 =>
 ldI w201 .i64 b180 (0 + 6) fun n208 =>
 ldI w201 .i64 b180 (0 + 7) fun n209 =>
 nn p36 fun b210 o211 =>
 ldP w201 b210 o211 fun p212 =>
 nn p212 fun b213 o214 =>
 ldI w201 .i64 b213 o214 fun n215 =>
 ldI w201 .i64 b213 (o214 + 1) fun n216 =>
 ldI w201 .i64 b213 (o214 + 2) fun n217 =>
 st1 w201 b1 0 (.int .i64 n202) fun w218 =>
 st1 w218 b1 (0 + 1) (.int .i64 n203) fun w219 =>
 st1 w219 b1 (0 + 2) (.int .i64 n204) fun w220 =>
 st1 w220 b1 (0 + 3) (.int .i64 n205) fun w221 =>
 st1 w221 b1 (0 + 4) (.int .i64 n206) fun w222 =>
 st1 w222 b1 (0 + 5) (.int .i64 n207) fun w223 =>
 st1 w223 b1 (0 + 6) (.int .i64 n208) fun w224 =>
 st1 w224 b1 (0 + 7) (.int .i64 n209) fun w225 =>
(w225.cell? ⟨b213, o214, none⟩ = some (.int .i64 n215) ∧ w225.cell? ⟨b213, o214 + 1, none⟩ = some (.int .i64 n216) ∧ w225.cell? ⟨b213, o214 + 2, none⟩ = some (.int .i64 n217)) ∧ (
(w225.cell? ⟨b210, o211, none⟩ = some (.pointer p212)) ∧ (
 st1 w225 b3 0 (.int .i64 n215) fun w226 =>
 st1 w226 b3 (0 + 1) (.int .i64 n216) fun w227 =>
 st1 w227 b3 (0 + 2) (.int .i64 n217) fun w228 =>
 ldI w228 .i64 b1 0 fun n229 =>
 ldI w228 .i64 b1 (0 + 1) fun n230 =>
 ldI w228 .i64 b1 (0 + 2) fun n231 =>
 ldI w228 .i64 b1 (0 + 3) fun n232 =>
 ldI w228 .i64 b1 (0 + 4) fun n233 =>
 ldI w228 .i64 b1 (0 + 5) fun n234 =>
 ldI w228 .i64 b1 (0 + 6) fun n235 =>
 ldI w228 .i64 b1 (0 + 7) fun n236 =>
 ldI w228 .i64 b3 0 fun n237 =>
 ldI w228 .i64 b3 (0 + 1) fun n238 =>
 ldI w228 .i64 b3 (0 + 2) fun n239 =>
 R [.agg #[.int .i64 n229, .int .i64 n230, .int .i64 n231, .int .i64 n232, .int .i64 n233, .int .i64 n234, .int .i64 n235, .int .i64 n236], .agg #[.int .i64 n237, .int .i64 n238, .int .i64 n239], .int .i64 0] w228))) fun J197 w200 =>
 cs ((a1 : Int) == (n196 : Int)) (
 st1 w200 b180 0 (.int .i64 1) fun w240 =>
 J197 () w240) (
 J197 () w200)))))))))))))))))))))) fun J5 w8 =>
 cs (decide ((a1 : Int) < (1 : Int))) (
 J5 (true, ()) w8) (
 nn a0 fun b241 o242 =>
 ldS w8 b241 (o242 + 9) fun s243 =>
 J5 (decide ((a1 : Int) ≥ ((s243.len : Int) : Int)), ()) w8)
theorem tie24 (a0 : Option Addr) (a1 : Int) (R : List Value → World → Prop) (w : World) : compF Pg Tryz.f24 ⟨[(1, ⟨[], [69]⟩)], [], [(4, .t [(0, []), (1, []), (2, []), (3, []), (4, []), (5, []), (6, []), (7, []), (8, []), (9, []), (10, []), (11, []), (12, []), (14, []), (15, []), (16, []), (17, []), (18, []), (19, []), (21, []), (22, []), (23, []), (24, []), (25, []), (26, []), (27, []), (28, []), (29, []), (30, []), (31, []), (32, [])] 13 [11, 12, 10, 9, 8, 7] (.t [] 20 [18, 19, 13, 17, 11, 12, 16, 10, 15, 9, 14, 8, 7] (.l [(33, []), (34, []), (35, [34, 33, 20, 0, 1, 2, 3, 4, 5, 6, 7, 8, 9, 10, 11, 12, 13, 14, 15, 16, 17, 18, 19, 21, 22, 23, 24, 25, 26, 27, 28, 29, 30, 31, 32])]) 34 [] (.l [(20, [18, 19, 13, 17, 11, 12, 16, 10, 15, 9, 14, 8, 7]), (33, []), (35, [34, 33, 20, 0, 1, 2, 3, 4, 5, 6, 7, 8, 9, 10, 11, 12, 13, 14, 15, 16, 17, 18, 19, 21, 22, 23, 24, 25, 26, 27, 28, 29, 30, 31, 32])])) 34 [] (.l [(13, [11, 12, 10, 9, 8, 7]), (20, [18, 19, 13, 17, 11, 12, 16, 10, 15, 9, 14, 8, 7]), (33, []), (35, [34, 33, 20, 0, 1, 2, 3, 4, 5, 6, 7, 8, 9, 10, 11, 12, 13, 14, 15, 16, 17, 18, 19, 21, 22, 23, 24, 25, 26, 27, 28, 29, 30, 31, 32])])), (7, .l [(0, []), (1, []), (2, []), (3, []), (4, []), (5, []), (6, []), (7, []), (8, [0]), (9, [7, 8, 0, 1, 2, 3, 4, 5, 6]), (10, [])])], [(1, [(3, 8, ⟨[(19, kB)], [12, 13, 14, 15, 16, 17, 18]⟩)])]⟩ [.pointer a0, .int .i64 a1] R w = sh24 a0 a1 R w := by kernel_rfl
theorem call24 {a0 : Option Addr} {a1 : Int} {w : World} {K : TK [.a [(.i .i64), (.i .i64), (.i .i64), (.i .i64), (.i .i64), (.i .i64), (.i .i64), (.i .i64)], .a [(.i .i64), (.i .i64), (.i .i64)], kI] → World → Prop} (h : sh24 a0 a1 (fun vs w' => ∃ t, encK [.a [(.i .i64), (.i .i64), (.i .i64), (.i .i64), (.i .i64), (.i .i64), (.i .i64), (.i .i64)], .a [(.i .i64), (.i .i64), (.i .i64)], kI] t = vs ∧ K t w') w) : cl Pg 24 [.pointer a0, .int .i64 a1] [.a [(.i .i64), (.i .i64), (.i .i64), (.i .i64), (.i .i64), (.i .i64), (.i .i64), (.i .i64)], .a [(.i .i64), (.i .i64), (.i .i64)], kI] w K := cl_of Tryz.func24 (tie24 ..) h
def sh27 (a0 : Option Addr) (a1 : Int) (R : List Value → World → Prop) (w : World) : Prop :=
 cl Pg 24 [.pointer a0, .int .i64 a1] [.a [(.i .i64), (.i .i64), (.i .i64), (.i .i64), (.i .i64), (.i .i64), (.i .i64), (.i .i64)], .a [(.i .i64), (.i .i64), (.i .i64)], kI] w fun (r1 : (Int × Int × Int × Int × Int × Int × Int × Int × Unit) × (Int × Int × Int × Unit) × Int × Unit) w2 =>
 al w2 59 [.int .i64 0, .int .i64 0, .int .i64 0, .int .i64 0, .int .i64 0, .int .i64 0, .int .i64 0, .int .i64 0] fun b3 w4 =>
 al w4 61 [.int .i64 0, .int .i64 0, .int .i64 0] fun b5 w6 =>
 st1 w6 b3 0 (.int .i64 r1.1.1) fun w7 =>
 st1 w7 b3 (0 + 1) (.int .i64 r1.1.2.1) fun w8 =>
 st1 w8 b3 (0 + 2) (.int .i64 r1.1.2.2.1) fun w9 =>
 st1 w9 b3 (0 + 3) (.int .i64 r1.1.2.2.2.1) fun w10 =>
 st1 w10 b3 (0 + 4) (.int .i64 r1.1.2.2.2.2.1) fun w11 =>
 st1 w11 b3 (0 + 5) (.int .i64 r1.1.2.2.2.2.2.1) fun w12 =>
 st1 w12 b3 (0 + 6) (.int .i64 r1.1.2.2.2.2.2.2.1) fun w13 =>
 st1 w13 b3 (0 + 7) (.int .i64 r1.1.2.2.2.2.2.2.2.1) fun w14 =>
 st1 w14 b5 0 (.int .i64 r1.2.1.1) fun w15 =>
 st1 w15 b5 (0 + 1) (.int .i64 r1.2.1.2.1) fun w16 =>
 st1 w16 b5 (0 + 2) (.int .i64 r1.2.1.2.2.1) fun w17 =>
 ldI w17 .i64 b3 0 fun n18 =>
 R [.int .i64 n18] w17
theorem tie27 (a0 : Option Addr) (a1 : Int) (R : List Value → World → Prop) (w : World) : compF Pg Tryz.f27 ⟨[], [], [], []⟩ [.pointer a0, .int .i64 a1] R w = sh27 a0 a1 R w := by kernel_rfl
theorem call27 {a0 : Option Addr} {a1 : Int} {w : World} {K : TK [kI] → World → Prop} (h : sh27 a0 a1 (fun vs w' => ∃ t, encK [kI] t = vs ∧ K t w') w) : cl Pg 27 [.pointer a0, .int .i64 a1] [kI] w K := cl_of Tryz.func27 (tie27 ..) h
def sh17  (R : List Value → World → Prop) (w : World) : Prop :=
 al w 3 [.int .i64 5, .int .i64 3] fun b1 w2 =>
 cl Pg 18 [vS ⟨some ⟨b1, 0, none⟩, 2, 2⟩] [.a [(.i .i64), .s, .s, .s, .s, .s, .s, .s, (.i .i64)]] w2 fun (r3 : (Int × Sl × Sl × Sl × Sl × Sl × Sl × Sl × Int × Unit) × Unit) w4 =>
 cl Pg 19 [.agg #[.int .i64 r3.1.1, vS r3.1.2.1, vS r3.1.2.2.1, vS r3.1.2.2.2.1, vS r3.1.2.2.2.2.1, vS r3.1.2.2.2.2.2.1, vS r3.1.2.2.2.2.2.2.1, vS r3.1.2.2.2.2.2.2.2.1, .int .i64 r3.1.2.2.2.2.2.2.2.2.1]] [kP] w4 fun (r5 : Option Addr × Unit) w6 =>
 jn [kB] w6 (fun (t8 : Bool × Unit) w9 =>
 cs t8.1 (
 R [.bool false] w9) (
 al w9 2 [.int .i64 0] fun b11 w12 =>
 cl Pg 20 [.pointer r5.1, .int .i64 22, vS ⟨some ⟨b11, 0, none⟩, 1, 1⟩] [kI, kI] w12 fun (r13 : Int × Int × Unit) w14 =>
 cl Pg 21 [.pointer r5.1] [kI] w14 fun (r15 : Int × Unit) w16 =>
 cl Pg 22 [.pointer r5.1] [kS] w16 fun (r17 : Sl × Unit) w18 =>
 jn [kB] w18 (fun (t20 : Bool × Unit) w21 =>
 jn [kB] w21 (fun (t24 : Bool × Unit) w25 =>
 jn [kB] w25 (fun (t28 : Bool × Unit) w29 =>
 jn [kB] w29 (fun (t32 : Bool × Unit) w33 =>
 R [.bool t32.1] w33) fun J31 w34 =>
 cs t28.1 (
 cl Pg 27 [.pointer r5.1, .int .i64 2] [kI] w34 fun (r35 : Int × Unit) w36 =>
 J31 ((r35.1 : Int) == (1 : Int), ()) w36) (
 J31 (false, ()) w34)) fun J27 w30 =>
 cs t24.1 (
 cl Pg 27 [.pointer r5.1, .int .i64 1] [kI] w30 fun (r37 : Int × Unit) w38 =>
 J27 ((r37.1 : Int) == (2 : Int), ()) w38) (
 J27 (false, ()) w30)) fun J23 w26 =>
 cs t20.1 (
 cl Pg 21 [.pointer r5.1] [kI] w26 fun (r39 : Int × Unit) w40 =>
 J23 ((r39.1 : Int) == (2 : Int), ()) w40) (
 J23 (false, ()) w26)) fun J19 w22 =>
 cs ((r13.1 : Int) == (1 : Int)) (
 J19 ((r15.1 : Int) == (1 : Int), ()) w22) (
 J19 (false, ()) w22))) fun J7 w10 =>
 cs r5.1.isNone (
 J7 (true, ()) w10) (
 cl Pg 21 [.pointer r5.1] [kI] w10 fun (r41 : Int × Unit) w42 =>
 J7 ((r41.1 : Int) != (2 : Int), ()) w42)
theorem tie17  (R : List Value → World → Prop) (w : World) : compF Pg Tryz.f17 ⟨[], [], [], [(2, [(3, 4, ⟨[(14, kB)], [11, 12, 13]⟩)]), (7, [(3, 3, ⟨[(30, kB)], [28, 29]⟩), (7, 4, ⟨[(35, kB)], [32, 33, 34]⟩), (12, 4, ⟨[(40, kB)], [37, 38, 39]⟩), (17, 4, ⟨[(45, kB)], [42, 43, 44]⟩)])]⟩ [] R w = sh17  R w := by kernel_rfl
theorem call17  {w : World} {K : TK [kB] → World → Prop} (h : sh17  (fun vs w' => ∃ t, encK [kB] t = vs ∧ K t w') w) : cl Pg 17 [] [kB] w K := cl_of Tryz.func17 (tie17 ..) h
def sh3 (a0 : Int) (a1 : Sl) (a2 : Sl) (R : List Value → World → Prop) (w : World) : Prop :=
 cl Pg 17 [] [kB] w fun (r1 : Bool × Unit) w2 =>
 cs (!r1.1) (
 R [.bool false] w2) (
 jn [kB] w2 (fun (t4 : Bool × Unit) w5 =>
 cs t4.1 (
 R [.bool true] w5) (
 al w5 3 [.int .i64 1, .int .i64 2] fun b7 w8 =>
 cl Pg 18 [vS ⟨some ⟨b7, 0, none⟩, 2, 2⟩] [.a [(.i .i64), .s, .s, .s, .s, .s, .s, .s, (.i .i64)]] w8 fun (r9 : (Int × Sl × Sl × Sl × Sl × Sl × Sl × Sl × Int × Unit) × Unit) w10 =>
 al w10 33 [.int .i64 0, .slice none 0 0, .slice none 0 0, .slice none 0 0, .slice none 0 0, .slice none 0 0, .slice none 0 0, .slice none 0 0, .int .i64 0] fun b11 w12 =>
 st1 w12 b11 0 (.int .i64 r9.1.1) fun w13 =>
 st1 w13 b11 (0 + 1) (vS r9.1.2.1) fun w14 =>
 st1 w14 b11 (0 + 2) (vS r9.1.2.2.1) fun w15 =>
 st1 w15 b11 (0 + 3) (vS r9.1.2.2.2.1) fun w16 =>
 st1 w16 b11 (0 + 4) (vS r9.1.2.2.2.2.1) fun w17 =>
 st1 w17 b11 (0 + 5) (vS r9.1.2.2.2.2.2.1) fun w18 =>
 st1 w18 b11 (0 + 6) (vS r9.1.2.2.2.2.2.2.1) fun w19 =>
 st1 w19 b11 (0 + 7) (vS r9.1.2.2.2.2.2.2.2.1) fun w20 =>
 st1 w20 b11 (0 + 8) (.int .i64 r9.1.2.2.2.2.2.2.2.2.1) fun w21 =>
 al w21 36 [.bool false, .int .i64 (w64 (Int.tmod a0 9))] fun b22 w23 =>
 st1 w23 b11 (0 + 4) (vS ⟨some ⟨b22, 0, none⟩, 1, 1⟩) fun w24 =>
 ldI w24 .i64 b11 0 fun n25 =>
 ldS w24 b11 (0 + 1) fun s26 =>
 ldS w24 b11 (0 + 2) fun s27 =>
 ldS w24 b11 (0 + 3) fun s28 =>
 ldS w24 b11 (0 + 4) fun s29 =>
 ldS w24 b11 (0 + 5) fun s30 =>
 ldS w24 b11 (0 + 6) fun s31 =>
 ldS w24 b11 (0 + 7) fun s32 =>
 ldI w24 .i64 b11 (0 + 8) fun n33 =>
 cl Pg 19 [.agg #[.int .i64 n25, vS s26, vS s27, vS s28, vS s29, vS s30, vS s31, vS s32, .int .i64 n33]] [kP] w24 fun (r34 : Option Addr × Unit) w35 =>
 cs r34.1.isNone (
 R [.bool false] w35) (
 lp [kI, kS, kI] w35 ((0 : Int), ⟨none, 0, 0⟩, (0 : Int), ()) fun (t36 : Int × Sl × Int × Unit) J37 w38 =>
 cs (decide ((t36.2.2.1 : Int) < ((a2.len : Int) : Int))) (
 ix a2 t36.2.2.1 1 fun b39 o40 =>
 ldB w38 b39 o40 fun b41 =>
 jn [kB] w38 (fun (t43 : Bool × Unit) w44 =>
 cs t43.1 (
 ix a1 t36.1 1 fun b46 o47 =>
 ldI w44 .i8 b46 o47 fun n48 =>
 al w44 2 [.int .i64 1, .int .i64 (w64 (n48))] fun b49 w50 =>
 cl Pg 20 [.pointer r34.1, .int .i64 35, vS ⟨some ⟨b49, 0, none⟩, 2, 2⟩] [kI, kI] w50 fun (r51 : Int × Int × Unit) w52 =>
 jn [kI] w52 (fun (t54 : Int × Unit) w55 =>
 J37 (t54.1, t36.2.1, w64 (t36.2.2.1 + 1), ()) w55) fun J53 w56 =>
 cs ((r51.1 : Int) == (0 : Int)) (
 J53 (w64 (t36.1 + 1), ()) w56) (
 J53 (t36.1, ()) w56)) (
 al w44 2 [.int .i64 1] fun b57 w58 =>
 cl Pg 20 [.pointer r34.1, .int .i64 41, vS ⟨some ⟨b57, 0, none⟩, 1, 1⟩] [kI, kI] w58 fun (r59 : Int × Int × Unit) w60 =>
 cs ((r59.1 : Int) == (0 : Int)) (
 al w60 2 [.int .i64 r59.2.1] fun b61 w62 =>
 ef Pg (Builtin.append_ #[39, 39] 39 #[vS t36.2.1, vS ⟨some ⟨b61, 0, none⟩, 1, 1⟩]) [kS] w62 fun (r63 : Sl × Unit) w65 =>
 J37 (t36.1, r63.1, w64 (t36.2.2.1 + 1), ()) w65) (
 J37 (t36.1, t36.2.1, w64 (t36.2.2.1 + 1), ()) w60))) fun J42 w45 =>
 cs b41 (
 J42 (decide ((t36.1 : Int) < ((a1.len : Int) : Int)), ()) w45) (
 J42 (false, ()) w45)) (
 lp [kS, kI] w38 (t36.2.1, (0 : Int), ()) fun (t66 : Sl × Int × Unit) J67 w68 =>
 cs (decide ((t66.2.1 : Int) < (20 : Int))) (
 al w68 2 [.int .i64 1] fun b69 w70 =>
 cl Pg 20 [.pointer r34.1, .int .i64 41, vS ⟨some ⟨b69, 0, none⟩, 1, 1⟩] [kI, kI] w70 fun (r71 : Int × Int × Unit) w72 =>
 cs ((r71.1 : Int) == (0 : Int)) (
 al w72 2 [.int .i64 r71.2.1] fun b73 w74 =>
 ef Pg (Builtin.append_ #[39, 39] 39 #[vS t66.1, vS ⟨some ⟨b73, 0, none⟩, 1, 1⟩]) [kS] w74 fun (r75 : Sl × Unit) w76 =>
 J67 (r75.1, w64 (t66.2.1 + 1), ()) w76) (
 J67 (t66.1, w64 (t66.2.1 + 1), ()) w72)) (
 cs (((t66.1.len : Int) : Int) != (t36.1 : Int)) (
 R [.bool false] w68) (
 lp [kI] w68 ((0 : Int), ()) fun (t77 : Int × Unit) J78 w79 =>
 cs (decide ((t77.1 : Int) < ((t66.1.len : Int) : Int))) (
 dr w79 fun w80 =>
 ix t66.1 t77.1 1 fun b81 o82 =>
 ldI w80 .i64 b81 o82 fun n83 =>
 ix a1 t77.1 1 fun b84 o85 =>
 ldI w80 .i8 b84 o85 fun n86 =>
 cs ((n83 : Int) != (w64 (n86) : Int)) (
 R [.bool false] w80) (
 J78 (w64 (t77.1 + 1), ()) w80)) (
 R [.bool true] w79))))))) fun J3 w6 =>
 cs (decide (((a1.len : Int) : Int) > (40 : Int))) (
 J3 (true, ()) w6) (
 J3 (decide (((a2.len : Int) : Int) > (100 : Int)), ()) w6))
theorem tie3 (a0 : Int) (a1 : Sl) (a2 : Sl) (R : List Value → World → Prop) (w : World) : compF Pg Tryz.f3 ⟨[(4, ⟨[(9, kI), (10, kS), (11, kI)], [12, 13, 14, 15, 42, 43, 44, 45, 46, 47, 48, 49, 50, 51, 52, 53, 54, 55, 56, 57, 58, 59, 60, 61, 62, 63, 64, 65, 66, 67, 68, 69, 70, 71, 72, 73, 74, 75, 76, 77, 78, 79, 80, 81, 82, 83, 84]⟩), (8, ⟨[(9, kI)], [71, 72]⟩), (11, ⟨[(10, kS), (16, kI)], [17, 18, 85, 86, 87, 88, 89, 90, 91, 92, 93, 94, 95, 96, 97, 98, 99, 100]⟩), (17, ⟨[(19, kI)], [6, 105, 106, 107, 108, 109, 110, 111, 112, 113, 114, 115, 116, 117, 118, 119, 120]⟩)], [], [(33, .l [(0, []), (1, []), (2, []), (3, []), (4, []), (5, []), (6, []), (7, []), (8, []), (9, [])])], [(3, [(4, 4, ⟨[(29, kB)], [26, 27, 28]⟩)]), (15, [(5, 5, ⟨[(57, kB)], [53, 54, 55, 56]⟩)])]⟩ [.int .u8 a0, vS a1, vS a2] R w = sh3 a0 a1 a2 R w := by kernel_rfl
def sh23 (a0 : Option Addr) (a1 : Int) (R : List Value → World → Prop) (w : World) : Prop :=
 cl Pg 24 [.pointer a0, .int .i64 a1] [.a [(.i .i64), (.i .i64), (.i .i64), (.i .i64), (.i .i64), (.i .i64), (.i .i64), (.i .i64)], .a [(.i .i64), (.i .i64), (.i .i64)], kI] w fun (r1 : (Int × Int × Int × Int × Int × Int × Int × Int × Unit) × (Int × Int × Int × Unit) × Int × Unit) w2 =>
 al w2 59 [.int .i64 0, .int .i64 0, .int .i64 0, .int .i64 0, .int .i64 0, .int .i64 0, .int .i64 0, .int .i64 0] fun b3 w4 =>
 al w4 61 [.int .i64 0, .int .i64 0, .int .i64 0] fun b5 w6 =>
 st1 w6 b3 0 (.int .i64 r1.1.1) fun w7 =>
 st1 w7 b3 (0 + 1) (.int .i64 r1.1.2.1) fun w8 =>
 st1 w8 b3 (0 + 2) (.int .i64 r1.1.2.2.1) fun w9 =>
 st1 w9 b3 (0 + 3) (.int .i64 r1.1.2.2.2.1) fun w10 =>
 st1 w10 b3 (0 + 4) (.int .i64 r1.1.2.2.2.2.1) fun w11 =>
 st1 w11 b3 (0 + 5) (.int .i64 r1.1.2.2.2.2.2.1) fun w12 =>
 st1 w12 b3 (0 + 6) (.int .i64 r1.1.2.2.2.2.2.2.1) fun w13 =>
 st1 w13 b3 (0 + 7) (.int .i64 r1.1.2.2.2.2.2.2.2.1) fun w14 =>
 st1 w14 b5 0 (.int .i64 r1.2.1.1) fun w15 =>
 st1 w15 b5 (0 + 1) (.int .i64 r1.2.1.2.1) fun w16 =>
 st1 w16 b5 (0 + 2) (.int .i64 r1.2.1.2.2.1) fun w17 =>
 dr w17 fun w18 =>
 ldI w18 .i64 b3 (0 + 6) fun n19 =>
 ldI w18 .i64 b3 (0 + 6 + 1) fun n20 =>
 R [.int .i64 n19, .int .i64 n20] w18
theorem tie23 (a0 : Option Addr) (a1 : Int) (R : List Value → World → Prop) (w : World) : compF Pg Tryz.f23 ⟨[], [], [(2, .l [(0, []), (1, []), (2, []), (3, []), (4, []), (5, []), (6, []), (7, [])])], []⟩ [.pointer a0, .int .i64 a1] R w = sh23 a0 a1 R w := by kernel_rfl
theorem call23 {a0 : Option Addr} {a1 : Int} {w : World} {K : TK [kI, kI] → World → Prop} (h : sh23 a0 a1 (fun vs w' => ∃ t, encK [kI, kI] t = vs ∧ K t w') w) : cl Pg 23 [.pointer a0, .int .i64 a1] [kI, kI] w K := cl_of Tryz.func23 (tie23 ..) h
def sh60 (a0 : Option Addr) (R : List Value → World → Prop) (w : World) : Prop :=
 nn a0 fun b1 o2 =>
 cl Pg 50 [.pointer (some ⟨b1, o2, none⟩)] [kS] w fun (r3 : Sl × Unit) w4 =>
 lp [kS, kI] w4 (⟨none, 0, 0⟩, (0 : Int), ()) fun (t5 : Sl × Int × Unit) J6 w7 =>
 cs (decide ((t5.2.1 : Int) < ((r3.1.len : Int) : Int))) (
 ix r3.1 t5.2.1 2 fun b8 o9 =>
 ldI w7 .i64 b8 o9 fun n10 =>
 ldI w7 .i64 b8 (o9 + 1) fun n11 =>
 al w7 117 [.int .i64 0, .int .i64 0] fun b12 w13 =>
 st1 w13 b12 0 (.int .i64 n10) fun w14 =>
 st1 w14 b12 (0 + 1) (.int .i64 n11) fun w15 =>
 ldI w15 .i64 b12 0 fun n16 =>
 al w15 3 [.int .i64 n16] fun b17 w18 =>
 ef Pg (Builtin.append_ #[72, 72] 72 #[vS t5.1, vS ⟨some ⟨b17, 0, none⟩, 1, 1⟩]) [kS] w18 fun (r19 : Sl × Unit) w20 =>
 J6 (r19.1, w64 (t5.2.1 + 1), ()) w20) (
 cl Pg 69 [vS t5.1] [kS] w7 fun (r21 : Sl × Unit) w22 =>
 R [vS r21.1] w22)
theorem tie60 (a0 : Option Addr) (R : List Value → World → Prop) (w : World) : compF Pg Tryz.f60 ⟨[(1, ⟨[(3, kS), (11, kI)], [5, 12, 13, 14, 15, 16, 17, 18, 19, 20]⟩)], [], [], []⟩ [.pointer a0] R w = sh60 a0 R w := by kernel_rfl
theorem call60 {a0 : Option Addr} {w : World} {K : TK [kS] → World → Prop} (h : sh60 a0 (fun vs w' => ∃ t, encK [kS] t = vs ∧ K t w') w) : cl Pg 60 [.pointer a0] [kS] w K := cl_of Tryz.func60 (tie60 ..) h
def sh28 (a0 : Option Addr) (a1 : Int) (R : List Value → World → Prop) (w : World) : Prop :=
 nn a0 fun b1 o2 =>
 ldS w b1 o2 fun s3 =>
 cl Pg 59 [vS s3, .int .i64 a1] [kP, kB] w fun (r4 : Option Addr × Bool × Unit) w5 =>
 cs (!r4.2.1) (
 R [.int .i64 0, .slice none 0 0, .int .i64 (-18)] w5) (
 dr w5 fun w6 =>
 nn r4.1 fun b7 o8 =>
 ldI w6 .i64 b7 (o8 + 1) fun n9 =>
 nn r4.1 fun b10 o11 =>
 ldP w6 b10 o11 fun p12 =>
 cl Pg 60 [.pointer p12] [kS] w6 fun (r13 : Sl × Unit) w14 =>
(w14.cell? ⟨b7, o8 + 1, none⟩ = some (.int .i64 n9)) ∧ (
 R [.int .i64 n9, vS r13.1, .int .i64 0] w14))
theorem tie28 (a0 : Option Addr) (a1 : Int) (R : List Value → World → Prop) (w : World) : compF Pg Tryz.f28 ⟨[], [], [(4, .l [(0, []), (1, []), (2, []), (3, []), (4, []), (5, []), (6, []), (7, []), (8, [7, 6, 5, 4]), (9, []), (10, []), (11, [])])], []⟩ [.pointer a0, .int .i64 a1] R w = sh28 a0 a1 R w := by kernel_rfl
theorem call28 {a0 : Option Addr} {a1 : Int} {w : World} {K : TK [kI, kS, kI] → World → Prop} (h : sh28 a0 a1 (fun vs w' => ∃ t, encK [kI, kS, kI] t = vs ∧ K t w') w) : cl Pg 28 [.pointer a0, .int .i64 a1] [kI, kS, kI] w K := cl_of Tryz.func28 (tie28 ..) h
def sh8 (a0 : Sl) (R : List Value → World → Prop) (w : World) : Prop :=
 cl Pg 17 [] [kB] w fun (r1 : Bool × Unit) w2 =>
 cs (!r1.1) (
 R [.bool false] w2) (
 jn [kB] w2 (fun (t4 : Bool × Unit) w5 =>
 cs t4.1 (
 R [.bool true] w5) (
 al w5 71 [.bool false, .int .i64 0, .int .i64 1] fun b7 w8 =>
 al w8 33 [.int .i64 0, .slice none 0 0, .slice none 0 0, .slice none 0 0, .slice none 0 0, .slice none 0 0, .slice none 0 0, .slice none 0 0, .int .i64 0] fun b9 w10 =>
 st1 w10 b9 0 (.int .i64 1) fun w11 =>
 st1 w11 b9 (0 + 1) (.slice none 0 0) fun w12 =>
 st1 w12 b9 (0 + 2) (vS ⟨some ⟨b7, 0, none⟩, 1, 1⟩) fun w13 =>
 st1 w13 b9 (0 + 3) (.slice none 0 0) fun w14 =>
 st1 w14 b9 (0 + 4) (.slice none 0 0) fun w15 =>
 st1 w15 b9 (0 + 5) (.slice none 0 0) fun w16 =>
 st1 w16 b9 (0 + 6) (.slice none 0 0) fun w17 =>
 st1 w17 b9 (0 + 7) (.slice none 0 0) fun w18 =>
 st1 w18 b9 (0 + 8) (.int .i64 0) fun w19 =>
 lp [kI] w19 ((0 : Int), ()) fun (t20 : Int × Unit) J21 w22 =>
 cs (decide ((t20.1 : Int) < ((a0.len : Int) : Int))) (
 ldS w22 b9 (0 + 1) fun s23 =>
 al w22 45 [.int .i64 (w64 (1 + t20.1)), .bool true] fun b24 w25 =>
 ef Pg (Builtin.append_ #[25, 25] 25 #[vS s23, vS ⟨some ⟨b24, 0, none⟩, 1, 1⟩]) [kS] w25 fun (r26 : Sl × Unit) w27 =>
 st1 w27 b9 (0 + 1) (vS r26.1) fun w28 =>
 J21 (w64 (t20.1 + 1), ()) w28) (
 ldI w22 .i64 b9 0 fun n29 =>
 ldS w22 b9 (0 + 1) fun s30 =>
 ldS w22 b9 (0 + 2) fun s31 =>
 ldS w22 b9 (0 + 3) fun s32 =>
 ldS w22 b9 (0 + 4) fun s33 =>
 ldS w22 b9 (0 + 5) fun s34 =>
 ldS w22 b9 (0 + 6) fun s35 =>
 ldS w22 b9 (0 + 7) fun s36 =>
 ldI w22 .i64 b9 (0 + 8) fun n37 =>
 cl Pg 19 [.agg #[.int .i64 n29, vS s30, vS s31, vS s32, vS s33, vS s34, vS s35, vS s36, .int .i64 n37]] [kP] w22 fun (r38 : Option Addr × Unit) w39 =>
 cs r38.1.isNone (
 R [.bool false] w39) (
 lp [kI] w39 ((0 : Int), ()) fun (t40 : Int × Unit) J41 w42 =>
 cs (decide ((t40.1 : Int) < ((a0.len : Int) : Int))) (
 ix a0 t40.1 1 fun b43 o44 =>
 ldI w42 .u8 b43 o44 fun n45 =>
 al w42 2 [.int .i64 1, .int .i64 (w64 (1 + (w64 (n45))))] fun b46 w47 =>
 cl Pg 20 [.pointer r38.1, .int .i64 27, vS ⟨some ⟨b46, 0, none⟩, 2, 2⟩] [kI, kI] w47 fun (r48 : Int × Int × Unit) w49 =>
 cs ((r48.1 : Int) != (1 : Int)) (
 R [.bool false] w49) (
 J41 (w64 (t40.1 + 1), ()) w49)) (
 cl Pg 21 [.pointer r38.1] [kI] w42 fun (r50 : Int × Unit) w51 =>
 cs ((r50.1 : Int) != (0 : Int)) (
 R [.bool false] w51) (
 lp [kI] w51 ((1 : Int), ()) fun (t52 : Int × Unit) J53 w54 =>
 cs (decide ((t52.1 : Int) ≤ (260 : Int))) (
 cl Pg 22 [.pointer r38.1] [kS] w54 fun (r55 : Sl × Unit) w56 =>
 lp [kI] w56 ((0 : Int), ()) fun (t57 : Int × Unit) J58 w59 =>
 cs (decide ((t57.1 : Int) < ((a0.len : Int) : Int))) (
 ix a0 t57.1 1 fun b60 o61 =>
 ldI w59 .u8 b60 o61 fun n62 =>
 cl Pg 27 [.pointer r38.1, .int .i64 (w64 (t57.1 + 1))] [kI] w59 fun (r63 : Int × Unit) w65 =>
 cs (!(((r63.1 : Int) != (4 : Int)) == (decide ((t52.1 : Int) ≥ (w64 (2 + (w64 (n62))) : Int))))) (
 R [.bool false] w65) (
 cl Pg 23 [.pointer r38.1, .int .i64 (w64 (t57.1 + 1))] [kI, kI] w65 fun (r66 : Int × Int × Unit) w67 =>
 jn [kB] w67 (fun (t69 : Bool × Unit) w70 =>
 cs t69.1 (
 R [.bool false] w70) (
 J58 (w64 (t57.1 + 1), ()) w70)) fun J68 w71 =>
 cs (decide ((t52.1 : Int) ≥ (w64 (2 + (w64 (n62))) : Int))) (
 J68 ((r66.1 : Int) != ((-50) : Int), ()) w71) (
 J68 (false, ()) w71))) (
 J53 (w64 (t52.1 + 1), ()) w59)) (
 cl Pg 28 [.pointer r38.1, .int .i64 1] [kI, kS, kI] w54 fun (r72 : Int × Sl × Int × Unit) w73 =>
 R [.bool (((r72.2.1.len : Int) : Int) == (0 : Int))] w73))))))) fun J3 w6 =>
 cs (((a0.len : Int) : Int) == (0 : Int)) (
 J3 (true, ()) w6) (
 J3 (decide (((a0.len : Int) : Int) > (16 : Int)), ()) w6))
theorem tie8 (a0 : Sl) (R : List Value → World → Prop) (w : World) : compF Pg Tryz.f8 ⟨[(3, ⟨[(4, kI)], [31, 32, 33, 34, 35, 36, 37, 38, 39, 40, 41, 42, 43, 44]⟩), (8, ⟨[(6, kI)], [2, 7, 8, 49, 50, 51, 52, 53, 54, 55, 56, 57, 58, 59, 60, 61, 62, 63, 64, 65, 66, 67, 68]⟩), (14, ⟨[(9, kI)], [2, 10, 11, 12, 13, 14, 72, 73, 74, 75, 76, 77, 78, 79, 80, 81, 82, 83, 84, 85, 86, 87, 88, 89, 90, 91, 92, 93, 94, 95, 96, 97, 98, 99, 100, 101, 102, 103, 104, 105, 106, 107, 108, 109, 110, 111]⟩), (18, ⟨[(10, kI)], [2, 11, 12, 13, 14, 78, 79, 80, 81, 82, 83, 84, 85, 86, 87, 88, 89, 90, 91, 92, 93, 94, 95, 96, 97, 98, 99, 100, 101, 102, 103, 104, 105, 106, 107, 108, 109, 110, 111]⟩)], [], [], [(3, [(4, 4, ⟨[(27, kB)], [24, 25, 26]⟩)]), (33, [(2, 3, ⟨[(111, kB)], [109, 110]⟩)])]⟩ [vS a0] R w = sh8 a0 R w := by kernel_rfl
end Go.Proofs.YtenonfkfoedfmaaGreatDoor.B


/- Printed by sh.py: each Go function as a typed shallow program, and its tie to the code. -/
namespace Go.Proofs.YtenonfkfoedfmaaGreatDoor.B
open Go Go.Proofs
set_option linter.unusedVariables false
set_option maxRecDepth 100000
def sh37 (a0 : (Int × Sl × Sl × Sl × Sl × Sl × Sl × Sl × Int × Unit)) (R : List Value → World → Prop) (w : World) : Prop :=
 al w 33 [.int .i64 a0.1, vS a0.2.1, vS a0.2.2.1, vS a0.2.2.2.1, vS a0.2.2.2.2.1, vS a0.2.2.2.2.2.1, vS a0.2.2.2.2.2.2.1, vS a0.2.2.2.2.2.2.2.1, .int .i64 a0.2.2.2.2.2.2.2.2.1] fun b1 w2 =>
 ldS w2 b1 (0 + 6) fun s3 =>
 lp [kI, kI] w2 ((0 : Int), (0 : Int), ()) fun (t4 : Int × Int × Unit) J5 w6 =>
 cs (decide ((t4.2.1 : Int) < ((s3.len : Int) : Int))) (
 ix s3 t4.2.1 3 fun b7 o8 =>
 ldB w6 b7 o8 fun b9 =>
 ldI w6 .i64 b7 (o8 + 1) fun n10 =>
 ldI w6 .i64 b7 (o8 + 2) fun n11 =>
 al w6 88 [.bool false, .int .i64 0, .int .i64 0] fun b12 w13 =>
 st1 w13 b12 0 (.bool b9) fun w14 =>
 st1 w14 b12 (0 + 1) (.int .i64 n10) fun w15 =>
 st1 w15 b12 (0 + 2) (.int .i64 n11) fun w16 =>
 ldB w16 b12 0 fun b17 =>
 ldI w16 .i64 b12 (0 + 1) fun n18 =>
 ldI w16 .i64 b12 (0 + 2) fun n19 =>
 cl Pg 71 [.int .i64 t4.1, .agg #[.bool b17, .int .i64 n18, .int .i64 n19]] [kI, kI] w16 fun (r20 : Int × Int × Unit) w21 =>
 J5 (r20.2.1, w64 (t4.2.1 + 1), ()) w21) (
 R [.int .i64 t4.1] w6)
theorem tie37 (a0 : (Int × Sl × Sl × Sl × Sl × Sl × Sl × Sl × Int × Unit)) (R : List Value → World → Prop) (w : World) : compF Pg Tryz.f37 ⟨[(1, ⟨[(3, kI), (9, kI)], [5, 10, 11, 12, 13, 14, 15, 16, 17, 18, 19]⟩)], [], [], []⟩ [.agg #[.int .i64 a0.1, vS a0.2.1, vS a0.2.2.1, vS a0.2.2.2.1, vS a0.2.2.2.2.1, vS a0.2.2.2.2.2.1, vS a0.2.2.2.2.2.2.1, vS a0.2.2.2.2.2.2.2.1, .int .i64 a0.2.2.2.2.2.2.2.2.1]] R w = sh37 a0 R w := by kernel_rfl
theorem call37 {a0 : (Int × Sl × Sl × Sl × Sl × Sl × Sl × Sl × Int × Unit)} {w : World} {K : TK [kI] → World → Prop} (h : sh37 a0 (fun vs w' => ∃ t, encK [kI] t = vs ∧ K t w') w) : cl Pg 37 [.agg #[.int .i64 a0.1, vS a0.2.1, vS a0.2.2.1, vS a0.2.2.2.1, vS a0.2.2.2.2.1, vS a0.2.2.2.2.2.1, vS a0.2.2.2.2.2.2.1, vS a0.2.2.2.2.2.2.2.1, .int .i64 a0.2.2.2.2.2.2.2.2.1]] [kI] w K := cl_of Tryz.func37 (tie37 ..) h
def sh73 (a0 : Option Addr) (R : List Value → World → Prop) (w : World) : Prop :=
 dr w fun w1 =>
 nn a0 fun b2 o3 =>
 ldI w1 .i64 b2 (o3 + 2) fun n4 =>
 nn a0 fun b5 o6 =>
 ldS w1 b5 (o6 + 6) fun s7 =>
 R [.int .i64 (w64 (n4 - (s7.len : Int)))] w1
theorem tie73 (a0 : Option Addr) (R : List Value → World → Prop) (w : World) : compF Pg Tryz.f73 ⟨[], [], [(1, .l [(0, []), (1, []), (2, []), (3, []), (4, []), (5, []), (6, []), (7, []), (8, []), (9, []), (10, [])])], []⟩ [.pointer a0] R w = sh73 a0 R w := by kernel_rfl
theorem call73 {a0 : Option Addr} {w : World} {K : TK [kI] → World → Prop} (h : sh73 a0 (fun vs w' => ∃ t, encK [kI] t = vs ∧ K t w') w) : cl Pg 73 [.pointer a0] [kI] w K := cl_of Tryz.func73 (tie73 ..) h
def sh38 (a0 : Option Addr) (a1 : Int) (R : List Value → World → Prop) (w : World) : Prop :=
 nn a0 fun b1 o2 =>
 ldS w b1 (o2 + 3) fun s3 =>
 cl Pg 72 [vS s3, .int .i64 a1] [kP, kB] w fun (r4 : Option Addr × Bool × Unit) w5 =>
 cs (!r4.2.1) (
 R [.int .i64 0, .slice none 0 0, .int .i64 (-18)] w5) (
 dr w5 fun w6 =>
 nn r4.1 fun b7 o8 =>
 ldP w6 b7 o8 fun p9 =>
 cl Pg 73 [.pointer r4.1] [kI] w6 fun (r10 : Int × Unit) w11 =>
(w11.cell? ⟨b7, o8, none⟩ = some (.pointer p9)) ∧ (
 cl Pg 60 [.pointer p9] [kS] w11 fun (r12 : Sl × Unit) w13 =>
 R [.int .i64 r10.1, vS r12.1, .int .i64 0] w13))
theorem tie38 (a0 : Option Addr) (a1 : Int) (R : List Value → World → Prop) (w : World) : compF Pg Tryz.f38 ⟨[], [], [(4, .l [(0, []), (2, []), (3, []), (4, []), (5, []), (1, [0]), (6, [5, 1, 4, 0, 3, 2]), (7, []), (8, []), (9, [])])], []⟩ [.pointer a0, .int .i64 a1] R w = sh38 a0 a1 R w := by kernel_rfl
theorem call38 {a0 : Option Addr} {a1 : Int} {w : World} {K : TK [kI, kS, kI] → World → Prop} (h : sh38 a0 a1 (fun vs w' => ∃ t, encK [kI, kS, kI] t = vs ∧ K t w') w) : cl Pg 38 [.pointer a0, .int .i64 a1] [kI, kS, kI] w K := cl_of Tryz.func38 (tie38 ..) h
def sh12 (a0 : Sl) (a1 : Sl) (a2 : Int) (R : List Value → World → Prop) (w : World) : Prop :=
 cl Pg 17 [] [kB] w fun (r1 : Bool × Unit) w2 =>
 cs (!r1.1) (
 R [.bool false] w2) (
 jn [kB] w2 (fun (t4 : Bool × Unit) w5 =>
 jn [kB] w5 (fun (t8 : Bool × Unit) w9 =>
 cs t8.1 (
 R [.bool true] w9) (
 al w9 3 [.int .i64 1] fun b11 w12 =>
 cl Pg 18 [vS ⟨some ⟨b11, 0, none⟩, 1, 1⟩] [.a [(.i .i64), .s, .s, .s, .s, .s, .s, .s, (.i .i64)]] w12 fun (r13 : (Int × Sl × Sl × Sl × Sl × Sl × Sl × Sl × Int × Unit) × Unit) w14 =>
 al w14 33 [.int .i64 0, .slice none 0 0, .slice none 0 0, .slice none 0 0, .slice none 0 0, .slice none 0 0, .slice none 0 0, .slice none 0 0, .int .i64 0] fun b15 w16 =>
 st1 w16 b15 0 (.int .i64 r13.1.1) fun w17 =>
 st1 w17 b15 (0 + 1) (vS r13.1.2.1) fun w18 =>
 st1 w18 b15 (0 + 2) (vS r13.1.2.2.1) fun w19 =>
 st1 w19 b15 (0 + 3) (vS r13.1.2.2.2.1) fun w20 =>
 st1 w20 b15 (0 + 4) (vS r13.1.2.2.2.2.1) fun w21 =>
 st1 w21 b15 (0 + 5) (vS r13.1.2.2.2.2.2.1) fun w22 =>
 st1 w22 b15 (0 + 6) (vS r13.1.2.2.2.2.2.2.1) fun w23 =>
 st1 w23 b15 (0 + 7) (vS r13.1.2.2.2.2.2.2.2.1) fun w24 =>
 st1 w24 b15 (0 + 8) (.int .i64 r13.1.2.2.2.2.2.2.2.2.1) fun w25 =>
 lp [kI] w25 ((0 : Int), ()) fun (t26 : Int × Unit) J27 w28 =>
 cs (decide ((t26.1 : Int) < ((a0.len : Int) : Int))) (
 dr w28 fun w29 =>
 ldS w29 b15 (0 + 6) fun s30 =>
 ix a0 t26.1 1 fun b31 o32 =>
 ldI w29 .u8 b31 o32 fun n33 =>
 ix a1 t26.1 1 fun b34 o35 =>
 ldI w29 .u8 b34 o35 fun n36 =>
 al w29 88 [.bool false, .int .i64 (w64 (1 + (w64 (Int.tmod n33 6)))), .int .i64 (w64 (1 + (w64 (Int.tmod n36 40))))] fun b37 w38 =>
(w38.cell? ⟨b15, 0 + 6, none⟩ = some (vS s30)) ∧ (
 ef Pg (Builtin.append_ #[30, 30] 30 #[vS s30, vS ⟨some ⟨b37, 0, none⟩, 1, 1⟩]) [kS] w38 fun (r39 : Sl × Unit) w40 =>
 st1 w40 b15 (0 + 6) (vS r39.1) fun w41 =>
 J27 (w64 (t26.1 + 1), ()) w41)) (
 ldI w28 .i64 b15 0 fun n42 =>
 ldS w28 b15 (0 + 1) fun s43 =>
 ldS w28 b15 (0 + 2) fun s44 =>
 ldS w28 b15 (0 + 3) fun s45 =>
 ldS w28 b15 (0 + 4) fun s46 =>
 ldS w28 b15 (0 + 5) fun s47 =>
 ldS w28 b15 (0 + 6) fun s48 =>
 ldS w28 b15 (0 + 7) fun s49 =>
 ldI w28 .i64 b15 (0 + 8) fun n50 =>
 cl Pg 19 [.agg #[.int .i64 n42, vS s43, vS s44, vS s45, vS s46, vS s47, vS s48, vS s49, .int .i64 n50]] [kP] w28 fun (r51 : Option Addr × Unit) w52 =>
 cs r51.1.isNone (
 R [.bool false] w52) (
 lp [kS, kS, kS, kI] w52 (⟨none, 0, 0⟩, ⟨none, 0, 0⟩, ⟨none, 0, 0⟩, (0 : Int), ()) fun (t53 : Sl × Sl × Sl × Int × Unit) J54 w55 =>
 cs (decide ((t53.2.2.2.1 : Int) < (w64 (a2) : Int))) (
 ob ((a0.len : Int) ≠ 0) (
 al w55 2 [.int .i64 (w64 ((Int.tmod t53.2.2.2.1 (a0.len : Int)) + 1))] fun b56 w57 =>
 cl Pg 20 [.pointer r51.1, .int .i64 48, vS ⟨some ⟨b56, 0, none⟩, 1, 1⟩] [kI, kI] w57 fun (r58 : Int × Int × Unit) w59 =>
 cs ((r58.1 : Int) == ((-50) : Int)) (
 J54 (t53.1, t53.2.1, t53.2.2.1, w64 (t53.2.2.2.1 + 1), ()) w59) (
 ldS w59 b15 (0 + 6) fun s60 =>
 ix s60 (Int.tmod t53.2.2.2.1 (a0.len : Int)) 3 fun b61 o62 =>
 ldI w59 .i64 b61 (o62 + 2) fun n63 =>
 jn [kB] w59 (fun (t65 : Bool × Unit) w66 =>
 jn [kB] w66 (fun (t69 : Bool × Unit) w70 =>
 jn [kB] w70 (fun (t73 : Bool × Unit) w74 =>
 cs t73.1 (
 R [.bool false] w74) (
 lp [kI] w74 ((0 : Int), ()) fun (t76 : Int × Unit) J77 w78 =>
 cs (decide ((t76.1 : Int) < ((t53.1.len : Int) : Int))) (
 dr w78 fun w79 =>
 jn [kB] w79 (fun (t81 : Bool × Unit) w82 =>
 cs t81.1 (
 R [.bool false] w82) (
 J77 (w64 (t76.1 + 1), ()) w82)) fun J80 w83 =>
 ix t53.1 t76.1 1 fun b84 o85 =>
 ldI w83 .i64 b84 o85 fun n86 =>
 ix t53.2.1 t76.1 1 fun b87 o88 =>
 ldI w83 .i64 b87 o88 fun n89 =>
 cs (decide ((r58.2.1 : Int) < (w64 (n86 + n89) : Int))) (
 ix t53.1 t76.1 1 fun b90 o91 =>
 ldI w83 .i64 b90 o91 fun n92 =>
 J80 (decide ((n92 : Int) < (w64 (r58.2.1 + n63) : Int)), ()) w83) (
 J80 (false, ()) w83)) (
 al w78 3 [.int .i64 r58.2.1] fun b93 w94 =>
 ef Pg (Builtin.append_ #[72, 72] 72 #[vS t53.1, vS ⟨some ⟨b93, 0, none⟩, 1, 1⟩]) [kS] w94 fun (r95 : Sl × Unit) w96 =>
 al w96 3 [.int .i64 n63] fun b97 w98 =>
 ef Pg (Builtin.append_ #[72, 72] 72 #[vS t53.2.1, vS ⟨some ⟨b97, 0, none⟩, 1, 1⟩]) [kS] w98 fun (r99 : Sl × Unit) w100 =>
 al w100 3 [.int .i64 (Int.tmod t53.2.2.2.1 (a0.len : Int))] fun b101 w102 =>
 ef Pg (Builtin.append_ #[72, 72] 72 #[vS t53.2.2.1, vS ⟨some ⟨b101, 0, none⟩, 1, 1⟩]) [kS] w102 fun (r103 : Sl × Unit) w104 =>
 J54 (r95.1, r99.1, r103.1, w64 (t53.2.2.2.1 + 1), ()) w104))) fun J72 w75 =>
 cs t69.1 (
 J72 (true, ()) w75) (
 ldI w75 .i64 b15 0 fun n105 =>
 ldS w75 b15 (0 + 1) fun s106 =>
 ldS w75 b15 (0 + 2) fun s107 =>
 ldS w75 b15 (0 + 3) fun s108 =>
 ldS w75 b15 (0 + 4) fun s109 =>
 ldS w75 b15 (0 + 5) fun s110 =>
 ldS w75 b15 (0 + 6) fun s111 =>
 ldS w75 b15 (0 + 7) fun s112 =>
 ldI w75 .i64 b15 (0 + 8) fun n113 =>
 cl Pg 37 [.agg #[.int .i64 n105, vS s106, vS s107, vS s108, vS s109, vS s110, vS s111, vS s112, .int .i64 n113]] [kI] w75 fun (r114 : Int × Unit) w115 =>
 J72 (decide ((w64 (r58.2.1 + n63) : Int) > (r114.1 : Int)), ()) w115)) fun J68 w71 =>
 cs t65.1 (
 J68 (true, ()) w71) (
 J68 ((Int.tmod r58.2.1 4 : Int) != (0 : Int), ()) w71)) fun J64 w67 =>
 cs ((r58.1 : Int) != (0 : Int)) (
 J64 (true, ()) w67) (
 J64 (decide ((r58.2.1 : Int) < (0 : Int)), ()) w67)))) (
 lp [kI] w55 ((0 : Int), ()) fun (t116 : Int × Unit) J117 w118 =>
 cs (decide ((t116.1 : Int) < ((t53.1.len : Int) : Int))) (
 dr w118 fun w119 =>
 ix t53.2.2.1 t116.1 1 fun b120 o121 =>
 ldI w119 .i64 b120 o121 fun n122 =>
 ix t53.1 t116.1 1 fun b123 o124 =>
 ldI w119 .i64 b123 o124 fun n125 =>
 al w119 2 [.int .i64 (w64 (n122 + 1)), .int .i64 n125] fun b126 w127 =>
 cl Pg 20 [.pointer r51.1, .int .i64 50, vS ⟨some ⟨b126, 0, none⟩, 2, 2⟩] [kI, kI] w127 fun (r128 : Int × Int × Unit) w129 =>
 dr w129 fun w130 =>
 ix t53.2.2.1 t116.1 1 fun b131 o132 =>
 ldI w130 .i64 b131 o132 fun n133 =>
 ix t53.1 t116.1 1 fun b134 o135 =>
 ldI w130 .i64 b134 o135 fun n136 =>
 al w130 2 [.int .i64 (w64 (n133 + 1)), .int .i64 n136] fun b137 w138 =>
 cl Pg 20 [.pointer r51.1, .int .i64 50, vS ⟨some ⟨b137, 0, none⟩, 2, 2⟩] [kI, kI] w138 fun (r139 : Int × Int × Unit) w140 =>
 jn [kB] w140 (fun (t142 : Bool × Unit) w143 =>
 cs t142.1 (
 R [.bool false] w143) (
 J117 (w64 (t116.1 + 1), ()) w143)) fun J141 w144 =>
 cs ((r128.1 : Int) != (0 : Int)) (
 J141 (true, ()) w144) (
 J141 ((r139.1 : Int) != ((-17) : Int), ()) w144)) (
 lp [kI] w118 ((0 : Int), ()) fun (t145 : Int × Unit) J146 w147 =>
 cs (decide ((t145.1 : Int) < ((a0.len : Int) : Int))) (
 cl Pg 38 [.pointer r51.1, .int .i64 (w64 (t145.1 + 1))] [kI, kS, kI] w147 fun (r148 : Int × Sl × Int × Unit) w149 =>
 ldS w149 b15 (0 + 6) fun s150 =>
 ix s150 t145.1 3 fun b151 o152 =>
 ldI w149 .i64 b151 (o152 + 1) fun n153 =>
 jn [kB] w149 (fun (t155 : Bool × Unit) w156 =>
 cs t155.1 (
 R [.bool false] w156) (
 J146 (w64 (t145.1 + 1), ()) w156)) fun J154 w157 =>
 cs ((r148.1 : Int) != (n153 : Int)) (
 J154 (true, ()) w157) (
 J154 (((r148.2.1.len : Int) : Int) != (0 : Int), ()) w157)) (
 R [.bool true] w147))))))) fun J7 w10 =>
 cs t4.1 (
 J7 (true, ()) w10) (
 J7 (decide (((a1.len : Int) : Int) < ((a0.len : Int) : Int)), ()) w10)) fun J3 w6 =>
 cs (((a0.len : Int) : Int) == (0 : Int)) (
 J3 (true, ()) w6) (
 J3 (decide (((a0.len : Int) : Int) > (8 : Int)), ()) w6))
theorem tie12 (a0 : Sl) (a1 : Sl) (a2 : Int) (R : List Value → World → Prop) (w : World) : compF Pg Tryz.f12 ⟨[(3, ⟨[(8, kI)], [47, 48, 49, 50, 51, 52, 53, 54, 55, 56, 57, 58, 59, 60, 61, 62, 63, 64, 65, 66, 67, 68, 69, 70, 71, 72]⟩), (8, ⟨[(10, kS), (11, kS), (12, kS), (13, kI)], [6, 14, 15, 16, 17, 18, 77, 78, 79, 80, 81, 82, 83, 84, 85, 86, 87, 88, 89, 90, 91, 92, 93, 94, 95, 96, 97, 98, 99, 100, 101, 102, 103, 104, 105, 106, 107, 108, 109, 110, 111, 112, 113, 114, 115, 116, 117, 118, 119, 120, 121, 122, 123, 124, 125, 126, 127, 128, 129, 130, 131, 132, 133, 134, 135, 136, 137, 138, 139, 140, 141, 142, 143, 144, 145, 146, 147, 148, 149, 150, 151, 152, 153, 154, 155, 156, 157, 158, 159, 160]⟩), (14, ⟨[(18, kI)], [6, 122, 123, 124, 125, 126, 127, 128, 129, 130, 131, 132, 133, 134, 135, 136, 137, 138, 139, 140, 141, 142, 143, 144, 145, 146, 147, 148]⟩), (19, ⟨[(19, kI)], [6, 20, 21, 22, 23, 161, 162, 163, 164, 165, 166, 167, 168, 169, 170, 171, 172, 173, 174, 175, 176, 177, 178, 179, 180, 181, 182, 183, 184, 185, 186, 187, 188, 189, 190, 191, 192, 193, 194, 195, 196, 197, 198, 199, 200, 201, 202]⟩), (24, ⟨[(24, kI)], [6, 25, 26, 27, 203, 204, 205, 206, 207, 208, 209, 210, 211, 212, 213, 214, 215, 216, 217, 218, 219, 220, 221, 222, 223, 224, 225, 226, 227, 228, 229]⟩)], [(26, ⟨[(148, kB)], [128, 129, 130, 131, 132, 133, 134, 135, 136, 137, 138, 139, 140, 141, 142, 143, 144, 145, 146, 147]⟩)], [(9, .l [(0, []), (1, []), (2, []), (3, []), (4, []), (5, []), (6, []), (7, []), (8, []), (9, []), (10, []), (11, []), (12, []), (13, []), (14, []), (15, []), (16, []), (17, [16, 8, 15, 7, 14, 6, 13, 5, 12, 4, 11, 2, 3, 9, 10]), (18, [1, 17, 0, 16, 8, 15, 7, 14, 6, 13, 5, 12, 4, 11, 2, 3, 9, 10]), (19, []), (20, [19, 18, 0, 1, 2, 3, 4, 5, 6, 7, 8, 9, 10, 11, 12, 13, 14, 15, 16, 17])]), (26, .l [(0, []), (1, []), (2, []), (3, []), (4, []), (5, []), (6, []), (7, []), (8, []), (9, []), (10, []), (11, []), (12, []), (13, []), (14, []), (15, []), (16, []), (17, []), (18, []), (19, []), (20, [])]), (34, .l [(0, []), (1, []), (2, []), (3, []), (4, []), (5, []), (6, []), (7, []), (8, []), (9, []), (10, [5, 9, 4, 8, 3, 6, 7, 1, 2]), (11, [0, 10, 5, 9, 4, 8, 3, 6, 7, 1, 2]), (12, []), (13, []), (14, []), (15, []), (16, [])]), (35, .l [(0, []), (1, []), (2, []), (3, []), (4, []), (5, []), (6, []), (7, []), (8, []), (9, []), (10, [5, 9, 4, 8, 3, 6, 7, 1, 2]), (11, [0, 10, 5, 9, 4, 8, 3, 6, 7, 1, 2]), (12, []), (13, []), (14, []), (15, []), (16, [])])], [(3, [(4, 4, ⟨[(37, kB)], [34, 35, 36]⟩), (9, 6, ⟨[(44, kB)], [39, 40, 41, 42, 43]⟩)]), (21, [(3, 3, ⟨[(108, kB)], [106, 107]⟩), (7, 4, ⟨[(113, kB)], [110, 111, 112]⟩), (12, 7, ⟨[(121, kB)], [115, 116, 117, 118, 119, 120]⟩)]), (36, [(3, 3, ⟨[(202, kB)], [200, 201]⟩)]), (42, [(9, 4, ⟨[(229, kB)], [226, 227, 228]⟩)])]⟩ [vS a0, vS a1, .int .u8 a2] R w = sh12 a0 a1 a2 R w := by kernel_rfl
def sh91 (a0 : Option Addr) (R : List Value → World → Prop) (w : World) : Prop :=
 cl Pg 169 [.pointer a0] [kI, kB] w fun (r1 : Int × Bool × Unit) w2 =>
 lp [kS, kI, kB] w2 (⟨none, 0, 0⟩, r1.1, r1.2.1, ()) fun (t3 : Sl × Int × Bool × Unit) J4 w5 =>
 cs t3.2.2.1 (
 al w5 3 [.int .i64 t3.2.1] fun b6 w7 =>
 ef Pg (Builtin.append_ #[72, 72] 72 #[vS t3.1, vS ⟨some ⟨b6, 0, none⟩, 1, 1⟩]) [kS] w7 fun (r8 : Sl × Unit) w9 =>
 cl Pg 170 [.pointer a0, .int .i64 t3.2.1] [kI, kB] w9 fun (r10 : Int × Bool × Unit) w11 =>
 J4 (r8.1, r10.1, r10.2.1, ()) w11) (
 R [vS t3.1] w5)
theorem tie91 (a0 : Option Addr) (R : List Value → World → Prop) (w : World) : compF Pg Tryz.f91 ⟨[(1, ⟨[(3, kS), (4, kI), (5, kB)], [11, 12, 13, 14, 15, 16, 17, 18, 19, 20, 21]⟩)], [], [], []⟩ [.pointer a0] R w = sh91 a0 R w := by kernel_rfl
theorem call91 {a0 : Option Addr} {w : World} {K : TK [kS] → World → Prop} (h : sh91 a0 (fun vs w' => ∃ t, encK [kS] t = vs ∧ K t w') w) : cl Pg 91 [.pointer a0] [kS] w K := cl_of Tryz.func91 (tie91 ..) h
def sh47 (a0 : Option Addr) (R : List Value → World → Prop) (w : World) : Prop :=
 nn a0 fun b1 o2 =>
 cl Pg 91 [.pointer (some ⟨b1, o2, none⟩)] [kS] w fun (r3 : Sl × Unit) w4 =>
 lp [kS, kI] w4 (⟨none, 0, 0⟩, (0 : Int), ()) fun (t5 : Sl × Int × Unit) J6 w7 =>
 cs (decide ((t5.2.1 : Int) < ((r3.1.len : Int) : Int))) (
 ix r3.1 t5.2.1 1 fun b8 o9 =>
 ldI w7 .i64 b8 o9 fun n10 =>
 nn a0 fun b11 o12 =>
 ixA b11 (o12 + 4) 17 n10 1 fun b13 o14 =>
 ldS w7 b13 o14 fun s15 =>
 ef Pg (Builtin.append_ #[72, 72] 72 #[vS t5.1, vS s15]) [kS] w7 fun (r16 : Sl × Unit) w17 =>
 J6 (r16.1, w64 (t5.2.1 + 1), ()) w17) (
 cl Pg 69 [vS t5.1] [kS] w7 fun (r18 : Sl × Unit) w19 =>
 R [vS r18.1] w19)
theorem tie47 (a0 : Option Addr) (R : List Value → World → Prop) (w : World) : compF Pg Tryz.f47 ⟨[(1, ⟨[(3, kS), (11, kI)], [5, 12, 13, 14, 15, 16, 17, 18, 19, 20, 21, 22, 23]⟩)], [], [], []⟩ [.pointer a0] R w = sh47 a0 R w := by kernel_rfl
theorem call47 {a0 : Option Addr} {w : World} {K : TK [kS] → World → Prop} (h : sh47 a0 (fun vs w' => ∃ t, encK [kS] t = vs ∧ K t w') w) : cl Pg 47 [.pointer a0] [kS] w K := cl_of Tryz.func47 (tie47 ..) h
def sh16 (a0 : Bool) (a1 : Sl) (R : List Value → World → Prop) (w : World) : Prop :=
 cl Pg 17 [] [kB] w fun (r1 : Bool × Unit) w2 =>
 cs (!r1.1) (
 R [.bool false] w2) (
 jn [kB] w2 (fun (t4 : Bool × Unit) w5 =>
 cs t4.1 (
 R [.bool true] w5) (
 al w5 71 [.bool a0, .int .i64 0, .int .i64 1] fun b7 w8 =>
 al w8 33 [.int .i64 0, .slice none 0 0, .slice none 0 0, .slice none 0 0, .slice none 0 0, .slice none 0 0, .slice none 0 0, .slice none 0 0, .int .i64 0] fun b9 w10 =>
 st1 w10 b9 0 (.int .i64 1) fun w11 =>
 st1 w11 b9 (0 + 1) (.slice none 0 0) fun w12 =>
 st1 w12 b9 (0 + 2) (vS ⟨some ⟨b7, 0, none⟩, 1, 1⟩) fun w13 =>
 st1 w13 b9 (0 + 3) (.slice none 0 0) fun w14 =>
 st1 w14 b9 (0 + 4) (.slice none 0 0) fun w15 =>
 st1 w15 b9 (0 + 5) (.slice none 0 0) fun w16 =>
 st1 w16 b9 (0 + 6) (.slice none 0 0) fun w17 =>
 st1 w17 b9 (0 + 7) (.slice none 0 0) fun w18 =>
 st1 w18 b9 (0 + 8) (.int .i64 0) fun w19 =>
 cl Pg 43 [.bool a0, .int .i64 0, .int .i64 1] [kP, kI] w19 fun (r20 : Option Addr × Int × Unit) w21 =>
 cl Pg 44 [.bool a0] [kP] w21 fun (r22 : Option Addr × Unit) w23 =>
 cl Pg 45 [] [kP] w23 fun (r24 : Option Addr × Unit) w25 =>
 lp [kI] w25 ((0 : Int), ()) fun (t26 : Int × Unit) J27 w28 =>
 cs (decide ((t26.1 : Int) < ((a1.len : Int) : Int))) (
 ix a1 t26.1 1 fun b29 o30 =>
 ldI w28 .u8 b29 o30 fun n31 =>
 ldS w28 b9 (0 + 1) fun s32 =>
 al w28 45 [.int .i64 (w64 (1 + (w64 (Int.tmod n31 16)))), .bool true] fun b33 w34 =>
 ef Pg (Builtin.append_ #[25, 25] 25 #[vS s32, vS ⟨some ⟨b33, 0, none⟩, 1, 1⟩]) [kS] w34 fun (r35 : Sl × Unit) w36 =>
 st1 w36 b9 (0 + 1) (vS r35.1) fun w37 =>
 cl Pg 46 [.pointer r24.1, .int .i64 (w64 (t26.1 + 1)), .int .i64 (w64 (1 + (w64 (Int.tmod n31 16))))] [kI] w37 fun (r38 : Int × Unit) w39 =>
 J27 (w64 (t26.1 + 1), ()) w39) (
 ldI w28 .i64 b9 0 fun n40 =>
 ldS w28 b9 (0 + 1) fun s41 =>
 ldS w28 b9 (0 + 2) fun s42 =>
 ldS w28 b9 (0 + 3) fun s43 =>
 ldS w28 b9 (0 + 4) fun s44 =>
 ldS w28 b9 (0 + 5) fun s45 =>
 ldS w28 b9 (0 + 6) fun s46 =>
 ldS w28 b9 (0 + 7) fun s47 =>
 ldI w28 .i64 b9 (0 + 8) fun n48 =>
 cl Pg 19 [.agg #[.int .i64 n40, vS s41, vS s42, vS s43, vS s44, vS s45, vS s46, vS s47, .int .i64 n48]] [kP] w28 fun (r49 : Option Addr × Unit) w50 =>
 cs r49.1.isNone (
 R [.bool false] w50) (
 cl Pg 47 [.pointer r24.1] [kS] w50 fun (r51 : Sl × Unit) w52 =>
 lp [kI] w52 ((0 : Int), ()) fun (t53 : Int × Unit) J54 w55 =>
 cs (decide ((t53.1 : Int) < ((r51.1.len : Int) : Int))) (
 ix r51.1 t53.1 1 fun b56 o57 =>
 ldI w55 .i64 b56 o57 fun n58 =>
 ix a1 (w64 (n58 - 1)) 1 fun b59 o60 =>
 ldI w55 .u8 b59 o60 fun n61 =>
 cl Pg 21 [.pointer r49.1] [kI] w55 fun (r62 : Int × Unit) w63 =>
 cs ((r62.1 : Int) != (n58 : Int)) (
 R [.bool false] w63) (
 al w63 2 [.int .i64 1] fun b64 w65 =>
 cl Pg 20 [.pointer r49.1, .int .i64 25, vS ⟨some ⟨b64, 0, none⟩, 1, 1⟩] [kI, kI] w65 fun (r66 : Int × Int × Unit) w67 =>
 cs ((r66.1 : Int) != (1 : Int)) (
 R [.bool false] w67) (
 cl Pg 48 [.pointer r20.1, .int .i64 n58, .int .i64 (w64 (1 + (w64 (Int.tmod n61 16))))] [kB, kI] w67 fun (r68 : Bool × Int × Unit) w69 =>
 cl Pg 49 [.pointer r22.1, .int .i64 n58, .int .i64 (w64 (1 + (w64 (Int.tmod n61 16))))] [kI] w69 fun (r70 : Int × Unit) w71 =>
 J54 (w64 (t53.1 + 1), ()) w71))) (
 cl Pg 28 [.pointer r49.1, .int .i64 1] [kI, kS, kI] w55 fun (r72 : Int × Sl × Int × Unit) w73 =>
 nn r20.1 fun b74 o75 =>
 ldP w73 b74 o75 fun p76 =>
 nn p76 fun b77 o78 =>
 cl Pg 50 [.pointer (some ⟨b77, o78, none⟩)] [kS] w73 fun (r79 : Sl × Unit) w80 =>
 nn r22.1 fun b81 o82 =>
 cl Pg 50 [.pointer (some ⟨b81, o82, none⟩)] [kS] w80 fun (r83 : Sl × Unit) w84 =>
 jn [kB] w84 (fun (t86 : Bool × Unit) w87 =>
 cs t86.1 (
 R [.bool false] w87) (
 lp [kI] w87 ((0 : Int), ()) fun (t89 : Int × Unit) J90 w91 =>
 cs (decide ((t89.1 : Int) < ((r72.2.1.len : Int) : Int))) (
 dr w91 fun w92 =>
 jn [kB] w92 (fun (t94 : Bool × Unit) w95 =>
 cs t94.1 (
 R [.bool false] w95) (
 J90 (w64 (t89.1 + 1), ()) w95)) fun J93 w96 =>
 ix r72.2.1 t89.1 1 fun b97 o98 =>
 ldI w96 .i64 b97 o98 fun n99 =>
 ix r79.1 t89.1 2 fun b100 o101 =>
 ldI w96 .i64 b100 o101 fun n102 =>
 cs ((n99 : Int) != (n102 : Int)) (
 J93 (true, ()) w96) (
 ix r79.1 t89.1 2 fun b103 o104 =>
 ldI w96 .i64 b103 o104 fun n105 =>
 ldI w96 .i64 b103 (o104 + 1) fun n106 =>
 ix r83.1 t89.1 2 fun b107 o108 =>
 ldI w96 .i64 b107 o108 fun n109 =>
 ldI w96 .i64 b107 (o108 + 1) fun n110 =>
 J93 (!((n105 : Int) == (n109 : Int) && (n106 : Int) == (n110 : Int)), ()) w96)) (
 R [.bool true] w91))) fun J85 w88 =>
 cs (((r72.2.1.len : Int) : Int) != ((r79.1.len : Int) : Int)) (
 J85 (true, ()) w88) (
 J85 (((r79.1.len : Int) : Int) != ((r83.1.len : Int) : Int), ()) w88)))))) fun J3 w6 =>
 cs (((a1.len : Int) : Int) == (0 : Int)) (
 J3 (true, ()) w6) (
 J3 (decide (((a1.len : Int) : Int) > (15 : Int)), ()) w6))
theorem tie16 (a0 : Bool) (a1 : Sl) (R : List Value → World → Prop) (w : World) : compF Pg Tryz.f16 ⟨[(3, ⟨[(10, kI)], [11, 47, 48, 49, 50, 51, 52, 53, 54, 55, 56, 57, 58, 59, 60, 61, 62, 63, 64, 65, 66, 67, 68, 69, 70, 71]⟩), (8, ⟨[(14, kI)], [4, 15, 16, 17, 18, 78, 79, 80, 81, 82, 83, 84, 85, 86, 87, 88, 89, 90, 91, 92, 93, 94, 95, 96, 97, 98, 99, 100, 101, 102, 103, 104, 105, 106, 107, 108, 109, 110, 111, 112, 113, 114, 115]⟩), (15, ⟨[(24, kI)], [4, 145, 146, 147, 148, 149, 150, 151, 152, 153, 154, 155, 156, 157, 158, 159, 160, 161, 162, 163, 164, 165, 166, 167, 168, 169, 170, 171]⟩)], [(39, ⟨[(171, kB)], [151, 152, 153, 154, 155, 156, 157, 158, 159, 160, 161, 162, 163, 164, 165, 166, 167, 168, 169, 170]⟩)], [(39, .l [(0, []), (1, []), (2, []), (3, []), (4, []), (5, []), (6, []), (7, []), (8, []), (9, []), (10, []), (11, []), (12, []), (13, []), (14, []), (15, []), (16, []), (17, []), (18, []), (19, []), (20, [])])], [(3, [(4, 4, ⟨[(34, kB)], [31, 32, 33]⟩)]), (34, [(6, 6, ⟨[(144, kB)], [139, 140, 141, 142, 143]⟩)])]⟩ [.bool a0, vS a1] R w = sh16 a0 a1 R w := by kernel_rfl
end Go.Proofs.YtenonfkfoedfmaaGreatDoor.B


/- Contracts of the library's functions on []int, and of the laws' own comparison. -/
namespace Go.Proofs.YtenonfkfoedfmaaGreatDoor.B
open Go
set_option linter.unusedVariables false

abbrev ints (xs : List Int) : List Value := xs.map (Value.int .i64)

theorem ints_one (xs : List Int) : ∀ v ∈ ints xs, v.oneCell' = true := by
  intro v hv; obtain ⟨x, _, rfl⟩ := List.mem_map.1 hv; rfl

theorem ints_len (xs : List Int) : (ints xs).length = xs.length := List.length_map ..

theorem ints_get {xs : List Int} {i : Nat} {x : Int} (h : xs[i]? = some x) : (ints xs)[i]? = some (.int .i64 x) := by simp [ints, h]

/-- a wrap that does nothing -/
theorem w64_in {x : Int} (h1 : -9223372036854775808 ≤ x) (h2 : x ≤ 9223372036854775807) : w64 x = x := IntWalk.i64_in _ ⟨h1, h2⟩

theorem slT_int : SlT Pg 72 1 := .of (by kernel_rfl)

theorem Clone_int {e w L s vs R} (h : Ok e (slc 1 s vs :: L) w) (hb : s.len ≤ 2 ^ 31) (k : ∀ s' w', s'.len = s.len → Ok e (slc 1 s' vs :: slc 1 s vs :: L) w' → R [vS s'] w') : sh70 s R w := by
  unfold sh70
  obtain ⟨hl, hv, hc, hcase⟩ := h.slcE
  refine cs.mk (fun hn => ?_) (fun hn => ?_)
  · rcases hcase with ⟨ha, hcap, hL⟩ | ⟨b, post, ha, hp, hk⟩
    · have h0 : s.len = 0 := by omega
      have : vs = [] := List.eq_nil_of_length_eq_zero (by rw [hl, h0])
      subst this
      exact k ⟨none, 0, 0⟩ w h0.symm (h.slcNil 1)
    · rw [ha] at hn; cases hn
  · refine al.mk h fun b w1 h1 => ?_
    have h2 := h1.slcNew (n := 0) (sz := 1) rfl (by simp)
    refine ef.append2 slT_int (by decide) h2 (by simp only; omega) fun s' w2 hl2 h3 => ?_
    exact k s' w2 (by simpa using hl2) (by simpa using h3)

theorem Clip_int {e w L s vs R} (h : Ok e (slc 1 s vs :: L) w) (k : ∀ s' w', s'.len = s.len → Ok e (slc 1 s' vs :: L) w' → R [vS s'] w') : sh69 s R w := by
  unfold sh69
  exact sb.clip h fun s' hl h' => k s' w hl h'

/-- reading an element of an owned slice of ints -/
theorem ix_int {e w L s xs} {i : Int} {f} (h : Ok e (slc 1 s (ints xs) :: L) w) (h0 : 0 ≤ i) (h1 : i < s.len) (k : ∀ b o x, xs[i.toNat]? = some x → (∀ w', (∃ L', Ok e (slc 1 s (ints xs) :: L') w') → w'.cell? ⟨b, o, none⟩ = some (.int .i64 x)) → f b o) : ix s i 1 f := by
  obtain ⟨hl, hv, hc, hcase⟩ := h.slcE
  rcases hcase with ⟨ha, hcap, hL⟩ | ⟨b, post, ha, hp, hk⟩
  · omega
  · have hlt : i.toNat < xs.length := by rw [ints_len] at hl; omega
    refine ⟨b, 0, ha, h0, h1, k b _ _ (List.getElem?_eq_getElem hlt) ?_⟩
    rintro w' ⟨L', h'⟩
    have := h'.slc_cells ha (i.toNat * 1) (.int .i64 xs[i.toNat]) (by rw [Nat.mul_one]; exact ints_get (List.getElem?_eq_getElem hlt))
    rw [add_off] at this
    exact this

end Go.Proofs.YtenonfkfoedfmaaGreatDoor.B


/- Steps on memory that is owned: writing a stretch, 'copy', 'clear', 'append' that stays in its room, 'append' of made elements, 'slices.overlaps'. -/
namespace Go.Proofs.YtenonfkfoedfmaaGreatDoor.B
open Go
set_option linter.unusedVariables false
section
variable {e : World} {L : List SP} {w : World} {P : Program} {b o sz : Nat} {cs us vs post : List Value} {s d x : Sl}
theorem store_run (h : Ok e (pts b cs :: L) w) (hfit : o + us.length ≤ cs.length) (h1 : ∀ v ∈ us, v.oneCell' = true) :
    ∃ w', (storeCells ⟨b, o, none⟩ us).run P w = .ok () w' ∧ Ok e (pts b (cs.take o ++ us ++ cs.drop (o + us.length)) :: L) w' := by
  obtain ⟨tt, hblk⟩ := h.block
  have hst := run_storeCells_at P b o tt us 0 cs.toArray w hblk (by simpa using hfit) h1
  exact ⟨_, hst, by simpa using h.setRow _⟩
/-- 'copy' -/
theorem ef.copy {t ty : TypeId} {n : Nat} {K : TK [kI] → World → Prop} (T : SlT P t sz) (h : Ok e (pts b cs :: L) w) (hd : d.a = some ⟨b, o, none⟩) (hn : n = Nat.min x.len d.len) (hul : us.length = n * sz)
    (hxa : x.a = none → us = []) (hu : ∀ a, x.a = some a → ∀ j u, us[j]? = some u → w.cell? (a.add j) = some u) (h1 : ∀ v ∈ us, v.oneCell' = true) (hfit : o + us.length ≤ cs.length)
    (k : ∀ w', Ok e (pts b (cs.take o ++ us ++ cs.drop (o + us.length)) :: L) w' → K ((n : Int), ()) w') : ef P (Builtin.copy_ #[t, t] ty #[vS d, vS x]) [kI] w K := by
  obtain ⟨el, i, z, ht, hi, hz, hs, hby, hzs, _⟩ := T.ex
  obtain ⟨w', hst, hk⟩ := store_run (P := P) h hfit h1
  refine ⟨((n : Int), ()), w', ?_, k w' hk⟩
  obtain ⟨da, dlen, dcap⟩ := d
  obtain ⟨xa, xlen, xcap⟩ := x
  simp only at hd hn hxa hu
  subst hd
  cases xa with
  | none =>
    have hus := hxa rfl
    subst hus
    have hf : (Builtin.firstCells i.size n (vS ⟨none, xlen, xcap⟩)).run P w = .ok #[] w := by
      simp only [List.length_nil] at hul
      cases n with
      | zero => simp [vS, Builtin.firstCells]
      | succ n => simp [vS, Builtin.firstCells]
    simp only [vS] at hf
    simp [vS, Builtin.copy_, run_underlying ht, sizeOf, typeInfo, hi, Builtin.lenOf, ← hn, hf, hst, goInt, ret1, encK]
    rfl
  | some a =>
    have hf := run_firstCells_some (P := P) w i.size n a xlen xcap us (by rw [hs]; exact hul) (hu a rfl)
    simp [vS, Builtin.copy_, run_underlying ht, sizeOf, typeInfo, hi, Builtin.lenOf, ← hn, hf, hst, goInt, ret1, encK]
    rfl
theorem zeroCells_one {z : Array Value} (h : z.toList.all (·.oneCell') = true) (hz : 0 < z.size) (n : Nat) : ∀ v ∈ (Builtin.zeroCells z n).toList, v.oneCell' = true := by
  intro v hv
  obtain ⟨i, hi, rfl⟩ := List.getElem_of_mem hv
  rw [List.all_eq_true] at h
  refine h _ ?_
  simp only [Builtin.zeroCells]
  simp
  rw [getElem!_pos z _ (Nat.mod_lt _ hz)]
  exact Array.getElem_mem _
/-- 'clear' of a stretch -/
theorem ef.clear {t ty : TypeId} {K : TK [] → World → Prop} (T : SlT P t sz) (hsz : 0 < sz) (h : Ok e (pts b cs :: L) w) (hd : d.a = some ⟨b, o, none⟩) (hfit : d.len = 0 ∨ o + d.len * sz ≤ cs.length)
    (k : ∀ w' us, us.length = d.len * sz → Ok e (pts b (cs.take o ++ us ++ cs.drop (o + us.length)) :: L) w' → K () w') : ef P (Builtin.clear_ #[t] ty #[vS d]) [] w K := by
  obtain ⟨el, i, z, ht, hi, hz, hs, hby, hzs, hz1⟩ := T.ex
  obtain ⟨da, dlen, dcap⟩ := d
  simp only at hd hfit k
  subst hd
  cases dlen with
  | zero =>
    refine ⟨(), w, ?_, k w [] (by simp) (by simpa using h)⟩
    simp [vS, Builtin.clear_, run_underlying ht, ret1, encK]
  | succ n =>
    have hl : (Builtin.zeroCells z.cells (n + 1)).toList.length = (n + 1) * sz := by rw [zeroCells_len, hzs]
    obtain ⟨w', hst, hk⟩ := store_run (P := P) (o := o) (us := (Builtin.zeroCells z.cells (n + 1)).toList) h (by rw [hl]; omega) (zeroCells_one hz1 (by omega) _)
    refine ⟨(), w', ?_, k w' _ hl hk⟩
    simp [vS, Builtin.clear_, run_underlying ht, zeroValue, typeInfo, hi, hz, hst, ret1, encK]
/-- 'append(s, make(S, n)...)' that does not fit: the old row is kept, and told -/
theorem ef.appendMake {t ti : TypeId} {ki : IntKind} {n : Nat} {K : TK [kS] → World → Prop} (T : SlT P t sz) (hti : P.underlying ti = some (.int ki)) (hsz : 0 < sz) (h : Ok e (pts b (vs ++ post) :: L) w)
    (ha : s.a = some ⟨b, 0, none⟩) (hl : vs.length = s.len * sz) (hn : 0 < n) (hg : s.cap < s.len + n) (hb : s.len + n ≤ 2 ^ 32)
    (k : ∀ s' c w' zs ps, s'.a = some ⟨c, 0, none⟩ → s'.len = s.len + n → s'.len ≤ s'.cap → zs.length = n * sz → s'.cap * sz ≤ (vs ++ zs ++ ps).length → Ok e (pts c (vs ++ zs ++ ps) :: pts b (vs ++ post) :: L) w' → K (s', ()) w') :
    ef P (Builtin.append_ #[t, ti] t #[vS s, .int .i64 n]) [kS] w K := by
  obtain ⟨el, i, z, ht, hi, hz, hs, hby, hzs, hz1⟩ := T.ex
  obtain ⟨sa, slen, scap⟩ := s
  simp only at ha hl hg hb k
  subst ha
  have holds : ∀ j u, vs[j]? = some u → w.cell? ((⟨b, 0, none⟩ : Addr).add j) = some u := by
    intro j u hj
    rw [Addr.add_lit]
    have hlt := (List.getElem?_eq_some_iff.1 hj).1
    exact h.cell (by rw [Nat.zero_add, List.getElem?_append_left hlt]; exact hj)
  have h48 : (slen + n) * i.bytes ≤ 140737488355328 := Nat.le_trans (Nat.mul_le_mul hb hby) (by decide)
  have hfit := growslice_fits (need := slen + n) (old := scap) (bytes := i.bytes) (by omega) h48
  have hnn : ¬ (slen + n ≤ scap) := by omega
  have h63' : ¬ (9223372036854775807 < ((slen : Int) + (n : Int))) := by omega
  have h48' : ¬ (281474976710656 < Builtin.nextslicecap (slen + n) scap * i.bytes) := by omega
  have hw : IntKind.i64.wrap (n : Int) = n := IntWalk.i64_in _ ⟨by omega, by omega⟩
  have hnb : ¬ (281474976710656 < (n : Int) * (i.bytes : Int)) := by
    have : n * i.bytes ≤ 140737488355328 := Nat.le_trans (Nat.mul_le_mul_right _ (by omega)) h48
    have h2 : ((n * i.bytes : Nat) : Int) ≤ 140737488355328 := Int.ofNat_le.mpr this
    rw [Int.natCast_mul] at h2
    omega
  have hn0 : ¬ (n * i.size = 0) := by
    rw [hs, Nat.mul_eq_zero]; omega
  have hfo := run_firstCells_some (P := P) w.drew i.size slen ⟨b, 0, none⟩ slen scap vs (by rw [hs]; exact hl) (by simpa using holds)
  have hge := grownCap_ge w (slen + n) scap el
  have hrun : (Builtin.append_ #[t, ti] t #[.slice (some ⟨b, 0, none⟩) slen scap, .int .i64 n]).run P w =
      .ok (.slice (some ⟨w.heap.size, 0, none⟩) (slen + n) (grownCap w (slen + n) scap el))
        (w.drew.alloc (.cells (vs.toArray ++ Builtin.zeroCells z.cells n ++ Builtin.zeroCells z.cells (grownCap w (slen + n) scap el - (slen + n))) el)) := by
    have hnl : ¬ ((n : Int) < 0) := by omega
    simp [Builtin.append_, run_underlying ht, run_underlying hti, sizeOf, typeInfo, zeroValue, hi, hz, Builtin.lenOf, hnn, h63', h48', Question.forced, hfo, newRow, grownCap, asInt, asIntOf, hw, hnb, hn0, hnl]
  have hal := h.drew.alloc el (vs ++ (Builtin.zeroCells z.cells n).toList ++ (Builtin.zeroCells z.cells (grownCap w (slen + n) scap el - (slen + n))).toList)
  have e1 : (vs ++ (Builtin.zeroCells z.cells n).toList ++ (Builtin.zeroCells z.cells (grownCap w (slen + n) scap el - (slen + n))).toList).toArray = vs.toArray ++ Builtin.zeroCells z.cells n ++ Builtin.zeroCells z.cells (grownCap w (slen + n) scap el - (slen + n)) := by
    apply Array.ext'; simp
  rw [e1] at hal
  refine ⟨(⟨some ⟨w.heap.size, 0, none⟩, slen + n, grownCap w (slen + n) scap el⟩, ()), _, hrun, ?_⟩
  refine k _ w.heap.size _ _ _ rfl rfl hge (by rw [zeroCells_len, hzs]) ?_ hal
  simp only [List.length_append, zeroCells_len, hzs, hl]
  rw [← Nat.add_mul, ← Nat.add_mul]
  exact Nat.mul_le_mul_right _ (by omega)
/-- a cut of a slice whose block is known -/
theorem sb_at {lo hi mx : Int} {f : Sl → Prop} (ha : s.a = some ⟨b, 0, none⟩) (h0 : 0 ≤ lo) (h1 : lo ≤ hi) (h2 : hi ≤ mx) (h3 : mx ≤ s.cap)
    (k : ∀ (s' : Sl) o, s'.a = some ⟨b, o, none⟩ → s'.len = hi.toNat - lo.toNat → s'.cap = mx.toNat - lo.toNat → o ≤ lo.toNat * sz → (lo < mx → o = lo.toNat * sz) → f s') : sb s lo hi mx sz f := by
  refine ⟨h0, h1, h2, h3, ?_⟩
  by_cases hm : mx.toNat = lo.toNat
  · refine k _ 0 (by simp [Sl.sub, ha, hm]) (by simp [Sl.sub]) (by simp [Sl.sub]) (Nat.zero_le _) (fun h => by omega)
  · refine k _ (lo.toNat * sz) ?_ (by simp [Sl.sub]) (by simp [Sl.sub]) (Nat.le_refl _) (fun _ => rfl)
    simp only [Sl.sub, ha, hm, if_false, Option.map_some]
    rw [Addr.add_lit, Nat.zero_add]
/-- 'slices.overlaps' of what lies in two blocks -/
theorem xt.overlaps {f : FuncId} {fn : Func} {t tr : TypeId} {c : Nat} {ds : List Value} {oc : Nat} {K : TK [kB] → World → Prop} (hf : P.funcs[f]? = some fn) (hname : (fn.name == "runtime.NumGoroutine") = false)
    (hb : fn.body.isNone = true) (hn : Extern.findNext fn = none) (he : Extern.find fn = some (Extern.SlicesOverlaps.overlaps #[t, t] #[tr])) (T : SlT P t sz)
    (h : Ok e (pts c ds :: pts b cs :: L) w) (hx : x.a = some ⟨c, oc, none⟩) (hd : d.a = some ⟨b, o, none⟩) (hne : cs ≠ []) (k : K (false, ()) w) : xt P f [vS x, vS d] [kB] w K := by
  obtain ⟨el, i, z, ht, hi, hz, hs, hby, hzs, hz1⟩ := T.ex
  obtain ⟨tx, hbx⟩ := h.block
  obtain ⟨td, hbd⟩ := h.p1.block
  obtain ⟨xa, xlen, xcap⟩ := x
  obtain ⟨da, dlen, dcap⟩ := d
  simp only at hx hd
  subst hx hd
  have hsx : w.shape? c = some (tx, ds.toArray.size) := by simp [World.shape?, hbx]
  have hsd : w.shape? b = some (td, cs.toArray.size) := by simp [World.shape?, hbd]
  have hrun := Go.Lib.run_overlaps_apart (P := P) w t tr el ht i.size (by simp [sizeOf, typeInfo, hi]) ⟨c, oc, none⟩ ⟨b, o, none⟩ xlen xcap dlen dcap h.ne tx td ds.toArray.size cs.toArray.size hsx hsd
    (by simpa using hne) h.frozen h.frozen
  refine ⟨(false, ()), w, ?_, k⟩
  have := run_callFunc_extern hf hname hb hn he #[vS ⟨some ⟨c, oc, none⟩, xlen, xcap⟩, vS ⟨some ⟨b, o, none⟩, dlen, dcap⟩] w
  rw [show [vS ⟨some ⟨c, oc, none⟩, xlen, xcap⟩, vS ⟨some ⟨b, o, none⟩, dlen, dcap⟩].toArray = #[vS ⟨some ⟨c, oc, none⟩, xlen, xcap⟩, vS ⟨some ⟨b, o, none⟩, dlen, dcap⟩] from rfl, this]
  simp only [vS]
  rw [hrun]
  rfl
end
end Go.Proofs.YtenonfkfoedfmaaGreatDoor.B


/- slices.Delete, slices.Insert and slices.Clone as shallow programs, for elements of any size. -/
namespace Go.Proofs.YtenonfkfoedfmaaGreatDoor.B
open Go
set_option linter.unusedVariables false
/-- what is known of slices.overlaps -/
structure OvT (P : Program) (f : FuncId) (t : TypeId) : Prop where
  ex : ∃ fn tr, P.funcs[f]? = some fn ∧ (fn.name == "runtime.NumGoroutine") = false ∧ fn.body.isNone = true ∧ Extern.findNext fn = none ∧ Extern.find fn = some (Extern.SlicesOverlaps.overlaps #[t, t] #[tr])
section
variable {e : World} {L : List SP} {w : World} {P : Program} {b o sz : Nat} {cs us vs post : List Value} {s d x : Sl} {R : List Value → World → Prop}
theorem Ok.slc_block (h : Ok e (slc sz s vs :: L) w) (h0 : 0 < s.cap) : ∃ b post, s.a = some ⟨b, 0, none⟩ ∧ s.cap * sz ≤ vs.length + post.length ∧ Ok e (pts b (vs ++ post) :: L) w := by
  rcases h.slcE.2.2.2 with ⟨_, hc, _⟩ | h
  · omega
  · exact h
set_option maxHeartbeats 2000000 in
theorem del_body {t : TypeId} {i j : Int} (T : SlT P t sz) (hsz : 0 < sz) (h : Ok e (slc sz s vs :: L) w) (hi : 0 ≤ i) (hij : i < j) (hj : j ≤ s.len) (hb : s.len ≤ 2 ^ 31)
    (k : ∀ s' w', s'.len = s.len - (j.toNat - i.toNat) → Ok e (slc sz s' (vs.take (i.toNat * sz) ++ vs.drop (j.toNat * sz)) :: L) w' → R [vS s'] w') :
    sb s i j (s.len : Int) sz fun s1 =>
    B.cs (i == j) (R [vS s] w) (
    dr w fun w2 =>
    sb s 0 i s.cap sz fun s3 =>
    sb s j s.len s.cap sz fun s4 =>
    ef P (Builtin.append_ #[t, t] t #[vS s3, vS s4]) [kS] w2 fun (r5 : Sl × Unit) w6 =>
    sb r5.1 (r5.1.len : Int) (s.len : Int) r5.1.cap sz fun s7 =>
    ef P (Builtin.clear_ #[t] 0 #[vS s7]) [] w6 fun (r8 : Unit) w9 =>
    R [vS r5.1] w9) := by
  obtain ⟨hl, hv, hc, -⟩ := h.slcE
  obtain ⟨b, post, ha, hp, hk⟩ := h.slc_block (by omega)
  refine ⟨hi, by omega, hj, by omega, ?_⟩
  refine cs.no (by simp; omega) ?_
  refine dr.mk hk fun w2 hk => ?_
  refine sb_at ha (by omega) hi (by omega) (Int.le_refl _) fun s3 o3 ha3 hl3 hc3 ho3 _ => ?_
  have ho3 : o3 = 0 := by simpa using ho3
  subst ho3
  refine sb_at ha (by omega) hj (by omega) (Int.le_refl _) fun s4 o4 ha4 hl4 hc4 ho4 ho4' => ?_
  have hin : i.toNat * sz ≤ vs.length := by rw [hl]; exact Nat.mul_le_mul_right _ (by omega)
  have hjn : j.toNat * sz ≤ vs.length := by rw [hl]; exact Nat.mul_le_mul_right _ (by omega)
  have h3 : Ok e (slc sz s3 (vs.take (i.toNat * sz)) :: L) w2 := by
    have hk' : Ok e (pts b (vs.take (i.toNat * sz) ++ (vs.drop (i.toNat * sz) ++ post)) :: L) w2 := by
      rw [← List.append_assoc, List.take_append_drop]; exact hk
    refine hk'.slcI ha3 (by simp [hl3, hin]) (fun v hm => hv v (List.mem_of_mem_take hm)) (by omega) ?_
    simp only [List.length_take, List.length_drop, List.length_append, hc3]
    simp only [Int.toNat_natCast, Int.toNat_zero, Nat.sub_zero]
    omega
  have hus : (vs.drop (j.toNat * sz)).length = s4.len * sz := by
    rw [List.length_drop, hl, hl4, ← Nat.sub_mul]; simp
  obtain ⟨s5, w6, hr, hl5, h5, hroom⟩ := append_run (P := P) (ty := t) (x := s4) (us := vs.drop (j.toNat * sz)) T hsz h3 hus (fun h => by rw [ha4] at h; cases h) (fun a ha j' u hu => by
      rw [ha4] at ha
      cases ha
      rw [Addr.add_lit]
      rw [List.getElem?_drop] at hu
      have hlt := (List.getElem?_eq_some_iff.1 hu).1
      have : j.toNat < s.len := by
        rcases Nat.lt_or_ge j.toNat s.len with h | h
        · exact h
        · have : s.len * sz ≤ j.toNat * sz := Nat.mul_le_mul_right _ h
          omega
      rw [ho4' (by omega)]
      exact hk.cell (by rw [List.getElem?_append_left hlt]; exact hu)) (fun v hm => hv v (List.mem_of_mem_drop hm)) (by omega)
  obtain ⟨ha5, hc5⟩ := hroom (by rw [ha3]; rfl) (by omega)
  rw [ha3] at ha5
  refine ⟨(s5, ()), w6, hr, ?_⟩
  dsimp only
  have hl5' : s5.len = s.len - (j.toNat - i.toNat) := by omega
  refine sb_at ha5 (by omega) (by omega) (by omega) (Int.le_refl _) fun s7 o7 ha7 hl7 hc7 ho7 ho7' => ?_
  have ho7 := ho7' (by omega)
  obtain ⟨hll5, hv5, hcc5, -⟩ := h5.slcE
  obtain ⟨b', post5, hb', hp5, hk5⟩ := h5.slc_block (by omega)
  rw [ha5] at hb'
  cases hb'
  have hfit : o7 + s7.len * sz ≤ (vs.take (i.toNat * sz) ++ vs.drop (j.toNat * sz) ++ post5).length := by
    rw [List.length_append]
    refine Nat.le_trans ?_ hp5
    rw [ho7, ← Nat.add_mul]
    exact Nat.mul_le_mul_right _ (by simp at hl7 ⊢; omega)
  refine ef.clear T hsz hk5 ha7 (.inr hfit) fun w9 zs hzs h9 => ?_
  refine k s5 w9 hl5' ?_
  have ho7l : o7 = (vs.take (i.toNat * sz) ++ vs.drop (j.toNat * sz)).length := by rw [ho7, hll5]; simp
  have e1 : (vs.take (i.toNat * sz) ++ vs.drop (j.toNat * sz) ++ post5).take o7 = vs.take (i.toNat * sz) ++ vs.drop (j.toNat * sz) := by
    rw [ho7l, List.take_left]
  rw [e1, List.append_assoc] at h9
  refine h9.slcI ha5 hll5 hv5 hcc5 ?_
  refine Nat.le_trans hp5 ?_
  have hf : o7 + zs.length ≤ (vs.take (i.toNat * sz) ++ vs.drop (j.toNat * sz) ++ post5).length := by rw [hzs]; exact hfit
  clear hk5 h9 h5 hr hroom hus h3 hk hp hp5 hin hjn
  revert ho7l hf
  generalize vs.take (i.toNat * sz) ++ vs.drop (j.toNat * sz) = A
  intro ho7l hf
  rw [List.length_append] at hf
  rw [List.length_append, List.length_drop, List.length_append]
  clear hzs hll5 hfit ho7 hl hl7 e1
  omega
theorem splice {α : Type} {A Z us post : List α} {o : Nat} (ho : o = A.length) (h : us.length ≤ Z.length) : (A ++ Z ++ post).take o ++ us ++ (A ++ Z ++ post).drop (o + us.length) = A ++ us ++ (Z.drop us.length ++ post) := by
  subst ho
  rw [List.append_assoc A Z post, List.take_left, ← List.drop_drop, List.drop_left, List.drop_append_of_le_length h]
theorem ef.copyAt {t ty : TypeId} {n : Nat} {A Z : List Value} {K : TK [kI] → World → Prop} (T : SlT P t sz) (h : Ok e (pts b (A ++ Z ++ post) :: L) w) (hd : d.a = some ⟨b, o, none⟩) (hn : n = Nat.min x.len d.len) (hul : us.length = n * sz)
    (hxa : x.a = none → us = []) (hu : ∀ a, x.a = some a → ∀ j u, us[j]? = some u → w.cell? (a.add j) = some u) (h1 : ∀ v ∈ us, v.oneCell' = true) (ho : o = A.length) (hfit : us.length ≤ Z.length)
    (k : ∀ w', Ok e (pts b (A ++ us ++ (Z.drop us.length ++ post)) :: L) w' → K ((n : Int), ()) w') : ef P (Builtin.copy_ #[t, t] ty #[vS d, vS x]) [kI] w K := by
  refine ef.copy T h hd hn hul hxa hu h1 ?_ fun w' h' => k w' ?_
  · rw [ho, List.length_append, List.length_append]; omega
  · rw [splice ho hfit] at h'; exact h'
theorem w64_i (n : Nat) (h : n ≤ 2 ^ 32) : w64 ((n : Nat) : Int) = (n : Int) := IntWalk.i64_in _ ⟨by omega, by omega⟩
set_option maxHeartbeats 2000000 in
theorem ins_body {t ti : TypeId} {ki : IntKind} {fo : FuncId} {i : Int} {Z : Sl → TK [kB] → World → Prop} (T : SlT P t sz) (hti : P.underlying ti = some (.int ki)) (O : OvT P fo t) (hsz : 0 < sz)
    (h : Ok e (slc sz x us :: slc sz s vs :: L) w) (hi : 0 ≤ i) (hin : i ≤ s.len) (hm : 0 < x.len) (hb : s.len + x.len ≤ 2 ^ 31)
    (k : ∀ s' w', s'.len = s.len + x.len → Ok e (slc sz s' (vs.take (i.toNat * sz) ++ us ++ vs.drop (i.toNat * sz)) :: L) w' → R [vS s'] w') :
    sb s i s.len s.cap sz fun s1 =>
    B.cs (((x.len : Int) : Int) == (0 : Int)) (R [vS s] w) (
    B.cs (i == ((s.len : Int) : Int)) (
    ef P (Builtin.append_ #[t, t] t #[vS s, vS x]) [kS] w fun (r2 : Sl × Unit) w3 =>
    R [vS r2.1] w3) (
    B.cs (decide ((w64 ((s.len : Int) + (x.len : Int)) : Int) > ((s.cap : Int) : Int))) (
    sb s 0 i s.cap sz fun s4 =>
    ef P (Builtin.append_ #[t, ti] t #[vS s4, .int .i64 (w64 ((w64 ((s.len : Int) + (x.len : Int))) - i))]) [kS] w fun (r5 : Sl × Unit) w6 =>
    sb r5.1 i r5.1.len r5.1.cap sz fun s7 =>
    ef P (Builtin.copy_ #[t, t] ti #[vS s7, vS x]) [kI] w6 fun (r8 : Int × Unit) w9 =>
    dr w9 fun w10 =>
    sb r5.1 (w64 (i + (x.len : Int))) r5.1.len r5.1.cap sz fun s11 =>
    sb s i s.len s.cap sz fun s12 =>
    ef P (Builtin.copy_ #[t, t] ti #[vS s11, vS s12]) [kI] w10 fun (r13 : Int × Unit) w14 =>
    R [vS r5.1] w14) (
    sb s 0 (w64 ((s.len : Int) + (x.len : Int))) s.cap sz fun s15 =>
    sb s15 (w64 (i + (x.len : Int))) s15.len s15.cap sz fun s16 =>
    xt P fo [vS x, vS s16] [kB] w fun (r17 : Bool × Unit) w18 =>
    B.cs (!r17.1) (
    dr w18 fun w19 =>
    sb s15 (w64 (i + (x.len : Int))) s15.len s15.cap sz fun s20 =>
    sb s15 i s15.len s15.cap sz fun s21 =>
    ef P (Builtin.copy_ #[t, t] ti #[vS s20, vS s21]) [kI] w19 fun (r22 : Int × Unit) w23 =>
    sb s15 i s15.len s15.cap sz fun s24 =>
    ef P (Builtin.copy_ #[t, t] ti #[vS s24, vS x]) [kI] w23 fun (r25 : Int × Unit) w26 =>
    R [vS s15] w26) (Z s15 r17 w18)))) := by
  obtain ⟨hlx, hvx, hcx, -⟩ := h.slcE
  obtain ⟨hl, hv, hc, -⟩ := h.p1.slcE
  obtain ⟨n, rfl⟩ : ∃ n : Nat, i = n := ⟨i.toNat, by omega⟩
  simp only [Int.toNat_natCast] at k ⊢
  have hn : n ≤ s.len := by omega
  have e1 : w64 ((s.len : Int) + (x.len : Int)) = ((s.len + x.len : Nat) : Int) := by rw [← Int.natCast_add]; exact w64_i _ (by omega)
  have e2 : w64 ((n : Int) + (x.len : Int)) = ((n + x.len : Nat) : Int) := by rw [← Int.natCast_add]; exact w64_i _ (by omega)
  rw [e1, e2]
  refine ⟨hi, hin, by omega, Int.le_refl _, ?_⟩
  refine cs.no (by simp; omega) ?_
  refine cs.mk (fun he => ?_) (fun hne => ?_)
  · have he : n = s.len := by have := eq_of_beq he; omega
    refine ef.append2 T hsz h.p1 (by omega) fun s' w' hl' hk => k s' w' hl' ?_
    rw [he, ← hl, List.take_length, List.drop_length, List.append_nil]
    exact hk.p1.drop
  have hlt : n < s.len := by
    have : n ≠ s.len := by intro h; simp [h] at hne
    omega
  obtain ⟨c, post2, hxa, hpx, hkx⟩ := h.slc_block (by omega)
  obtain ⟨b, post, ha, hp, hk⟩ := hkx.p1.slc_block (by omega)
  have hin : n * sz ≤ vs.length := by rw [hl]; exact Nat.mul_le_mul_right _ hn
  have htl : (vs.take (n * sz)).length = n * sz := by rw [List.length_take]; omega
  have hdl : (vs.drop (n * sz)).length = (s.len - n) * sz := by rw [List.length_drop, hl, ← Nat.sub_mul]
  have hd1 : ∀ v ∈ vs.drop (n * sz), v.oneCell' = true := fun v hm => hv v (List.mem_of_mem_drop hm)
  have hall : ∀ v ∈ vs.take (n * sz) ++ us ++ vs.drop (n * sz), v.oneCell' = true := by
    intro v hm
    rcases List.mem_append.1 hm with hm | hm
    · rcases List.mem_append.1 hm with hm | hm
      · exact hv v (List.mem_of_mem_take hm)
      · exact hvx v hm
    · exact hd1 v hm
  have hflen : (vs.take (n * sz) ++ us ++ vs.drop (n * sz)).length = (s.len + x.len) * sz := by
    rw [List.length_append, List.length_append, htl, hdl, hlx, ← Nat.add_mul, ← Nat.add_mul]
    congr 1
    omega
  have hread : ∀ {w0 : World} {L0 : List SP} {o0 : Nat}, Ok e (pts b (vs ++ post) :: L0) w0 → o0 = n * sz → ∀ a, (some ⟨b, o0, none⟩ : Option Addr) = some a → ∀ j u, (vs.drop (n * sz))[j]? = some u → w0.cell? (a.add j) = some u := by
    intro w0 L0 o0 hk0 ho a ha' j u hu
    cases ha'
    rw [Addr.add_lit, ho]
    rw [List.getElem?_drop] at hu
    have hlt := (List.getElem?_eq_some_iff.1 hu).1
    exact hk0.cell (by rw [List.getElem?_append_left hlt]; exact hu)
  refine cs.mk (fun hg => ?_) (fun hroom => ?_)
  · have hg : s.cap < s.len + x.len := by
      have := of_decide_eq_true hg
      omega
    refine sb_at ha (by omega) (by omega) (by omega) (Int.le_refl _) fun s4 o4 ha4 hl4 hc4 ho4 _ => ?_
    have ho4 : o4 = 0 := by simpa using ho4
    subst ho4
    have hcnt : w64 (((s.len + x.len : Nat) : Int) - (n : Int)) = ((s.len + x.len - n : Nat) : Int) := by
      rw [show ((s.len + x.len : Nat) : Int) - (n : Int) = ((s.len + x.len - n : Nat) : Int) by omega]
      exact w64_i _ (by omega)
    rw [hcnt]
    have hk' : Ok e (pts b (vs.take (n * sz) ++ (vs.drop (n * sz) ++ post)) :: pts c (us ++ post2) :: L) w := by
      rw [← List.append_assoc, List.take_append_drop]; exact hk
    simp only [Int.toNat_natCast, Int.toNat_zero, Nat.sub_zero] at hl4 hc4
    refine ef.appendMake T hti hsz hk' ha4 (by rw [htl, hl4]) (by omega) (by omega) (by omega) fun s5 c5 w6 zs ps ha5 hl5 hc5 hzs hcap5 h6 => ?_
    dsimp only
    rw [← List.append_assoc (vs.take (n * sz)), List.take_append_drop] at h6
    have hl5 : s5.len = s.len + x.len := by omega
    refine sb_at ha5 (by omega) (by omega) (by omega) (Int.le_refl _) fun s7 o7 ha7 hl7 hc7 _ ho7 => ?_
    have ho7 := ho7 (by omega)
    simp only [Int.toNat_natCast] at ho7 hl7
    have hzl : zs.length = x.len * sz + (s.len - n) * sz := by
      rw [hzs, ← Nat.add_mul]
      congr 1
      omega
    refine ef.copyAt (us := us) (n := x.len) T h6 ha7 (by rw [show Nat.min x.len s7.len = min x.len s7.len from rfl]; omega) hlx (fun h => by rw [hxa] at h; cases h) (fun a ha' j u hu => ?_) hvx (by rw [ho7, htl]) (by omega) fun w9 h9 => ?_
    · rw [hxa] at ha'
      cases ha'
      rw [Addr.add_lit]
      have hlt := (List.getElem?_eq_some_iff.1 hu).1
      exact h6.p2.cell (by rw [Nat.zero_add, List.getElem?_append_left hlt]; exact hu)
    rw [← List.append_assoc] at h9
    refine dr.mk h9 fun w10 h9 => ?_
    refine sb_at ha5 (by omega) (by omega) (by omega) (Int.le_refl _) fun s11 o11 ha11 hl11 hc11 _ ho11 => ?_
    have ho11 := ho11 (by omega)
    simp only [Int.toNat_natCast] at ho11 hl11
    refine sb_at ha (by omega) (by omega) (by omega) (Int.le_refl _) fun s12 o12 ha12 hl12 hc12 _ ho12 => ?_
    have ho12 := ho12 (by omega)
    simp only [Int.toNat_natCast] at ho12 hl12
    have hzd : (zs.drop us.length).length = (s.len - n) * sz := by rw [List.length_drop, hzl, hlx]; omega
    have hA : (vs.take (n * sz) ++ us).length = o11 := by rw [List.length_append, htl, hlx, ho11, Nat.add_mul]
    refine ef.copyAt (us := vs.drop (n * sz)) (n := s.len - n) T h9 ha11 (by rw [show Nat.min s12.len s11.len = min s12.len s11.len from rfl]; omega) hdl (fun h => by rw [ha12] at h; cases h) (by rw [ha12]; exact hread h9.p1 ho12) hd1 hA.symm (by rw [hzd, hdl]; exact Nat.le_refl _) fun w14 h14 => ?_
    refine k s5 w14 hl5 ?_
    have hps : s5.cap * sz ≤ (s.len + x.len) * sz + ps.length := by
      refine Nat.le_trans hcap5 ?_
      rw [List.length_append, List.length_append, htl, hzl, Nat.add_mul, Nat.sub_mul]
      have : n * sz ≤ s.len * sz := Nat.mul_le_mul_right _ hn
      omega
    refine Ok.slcI (h14.p1.drop.p1.drop) ha5 (by rw [hflen, hl5]) hall hc5 ?_
    refine Nat.le_trans hps ?_
    rw [hflen, List.length_append]
    omega
  · have hroom : s.len + x.len ≤ s.cap := by
      have := of_decide_eq_false hroom
      omega
    refine sb_at ha (by omega) (by omega) (by omega) (Int.le_refl _) fun s15 o15 ha15 hl15 hc15 ho15 _ => ?_
    have ho15 : o15 = 0 := by simpa using ho15
    subst ho15
    simp only [Int.toNat_natCast, Int.toNat_zero, Nat.sub_zero] at hl15 hc15
    refine sb_at ha15 (by omega) (by omega) (by omega) (Int.le_refl _) fun s16 o16 ha16 hl16 hc16 _ ho16 => ?_
    have hne : vs ++ post ≠ [] := by
      intro h0
      have h1 := (List.append_eq_nil_iff.1 h0).1
      rw [h1] at hl
      have : 0 < s.len * sz := Nat.mul_pos (by omega) hsz
      simp only [List.length_nil] at hl
      omega
    obtain ⟨fn, tr, hf1, hf2, hf3, hf4, hf5⟩ := O.ex
    refine xt.overlaps hf1 hf2 hf3 hf4 hf5 T hk.p1 hxa ha16 hne ?_
    refine cs.yes rfl ?_
    refine dr.mk hk fun w19 hk => ?_
    refine sb_at ha15 (by omega) (by omega) (by omega) (Int.le_refl _) fun s20 o20 ha20 hl20 hc20 _ ho20 => ?_
    refine sb_at ha15 (by omega) (by omega) (by omega) (Int.le_refl _) fun s21 o21 ha21 hl21 hc21 _ ho21 => ?_
    have ho20 := ho20 (by omega)
    have ho21 := ho21 (by omega)
    simp only [Int.toNat_natCast] at ho20 hl20 ho21 hl21
    have htot : (s.len + x.len) * sz ≤ vs.length + post.length := Nat.le_trans (Nat.mul_le_mul_right _ hroom) hp
    have hsp : ((vs ++ post).take o20).length = o20 := by
      rw [List.length_take, List.length_append]
      have : o20 ≤ (s.len + x.len) * sz := by rw [ho20]; exact Nat.mul_le_mul_right _ (by omega)
      omega
    have hk2 : Ok e (pts b ((vs ++ post).take o20 ++ (vs ++ post).drop o20 ++ []) :: pts c (us ++ post2) :: L) w19 := by
      rw [List.append_nil, List.take_append_drop]; exact hk
    refine ef.copyAt (us := vs.drop (n * sz)) (n := s.len - n) T hk2 ha20 (by rw [show Nat.min s21.len s20.len = min s21.len s20.len from rfl]; omega) hdl (fun h => by rw [ha21] at h; cases h) (by rw [ha21]; exact hread hk ho21) hd1 hsp.symm ?_ fun w23 h23 => ?_
    · rw [hdl, List.length_drop, List.length_append, ho20, Nat.sub_mul, Nat.add_mul]
      rw [Nat.add_mul] at htot
      omega
    refine sb_at ha15 (by omega) (by omega) (by omega) (Int.le_refl _) fun s24 o24 ha24 hl24 hc24 _ ho24 => ?_
    have ho24 := ho24 (by omega)
    simp only [Int.toNat_natCast] at ho24 hl24
    have htk : (vs ++ post).take o20 = vs.take (n * sz) ++ ((vs ++ post).take o20).drop (n * sz) := by
      have h1 : ((vs ++ post).take o20).take (n * sz) = vs.take (n * sz) := by
        rw [List.take_take, Nat.min_eq_left (by rw [ho20, Nat.add_mul]; omega), List.take_append_of_le_length hin]
      rw [← h1, List.take_append_drop]
    have hdl2 : (((vs ++ post).take o20).drop (n * sz)).length = us.length := by
      rw [List.length_drop, hsp, ho20, hlx, Nat.add_mul]; omega
    rw [htk, List.append_assoc (vs.take (n * sz) ++ _)] at h23
    refine ef.copyAt (us := us) (n := x.len) T h23 ha24 (by rw [show Nat.min x.len s24.len = min x.len s24.len from rfl]; omega) hlx (fun h => by rw [hxa] at h; cases h) (fun a ha' j u hu => ?_) hvx (by rw [ho24, htl]) (by omega) fun w26 h26 => ?_
    · rw [hxa] at ha'
      cases ha'
      rw [Addr.add_lit]
      have hlt := (List.getElem?_eq_some_iff.1 hu).1
      exact h23.p1.cell (by rw [Nat.zero_add, List.getElem?_append_left hlt]; exact hu)
    refine k s15 w26 hl15 ?_
    rw [List.drop_eq_nil_of_le (Nat.le_of_eq hdl2), List.nil_append, ← List.append_assoc] at h26
    refine Ok.slcI (h26.p1.drop) ha15 (by rw [hflen, hl15]) hall (by omega) ?_
    rw [hflen, hc15]
    refine Nat.le_trans hp ?_
    simp only [List.length_append, List.length_drop, List.append_nil, hdl]
    have h5 : (s.len + x.len) * sz = s.len * sz + x.len * sz := Nat.add_mul ..
    have h6 : (s.len - n) * sz = s.len * sz - n * sz := Nat.sub_mul ..
    have h7 : o20 = n * sz + x.len * sz := by rw [ho20, Nat.add_mul]
    omega
end
end Go.Proofs.YtenonfkfoedfmaaGreatDoor.B

