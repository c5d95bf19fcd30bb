/- Texts of ours, joined: Sh1, Sh2, Ints, Sep2. -/
import Derived.IntWalk
import Derived.Laws.Externs
import Derived.Lib.Overlaps
import Derived.Test.YtenonfkfoedfmaaGreatDoorJTopA2
set_option linter.unusedSimpArgs false
set_option linter.unusedVariables false
/- Printed by sh.py: each Go function as a typed shallow program, and its tie to the code. -/
namespace Go.Proofs.YtenonfkfoedfmaaGreatDoor.B
open Go Go.Proofs
set_option linter.unusedVariables false
set_option maxRecDepth 100000
def sh140 (a0 : Option Addr) (a1 : (Int × Int × Int × Int × Int × Unit)) (a2 : Int) (a3 : Option Addr) (R : List Value → World → Prop) (w : World) : Prop :=
 al w 97 [.int .i64 a1.1, .int .i64 a1.2.1, .int .i64 a1.2.2.1, .int .i64 a1.2.2.2.1, .int .i64 a1.2.2.2.2.1] fun b1 w2 =>
 al w2 57 [.int .i64 0, .int .i64 0] fun b3 w4 =>
 ldI w4 .i64 b1 0 fun n5 =>
 jn [kB] w4 (fun (t7 : Bool × Unit) w8 =>
 cs t7.1 (
 cl Pg 105 [.pointer a0, .int .i64 a2] [kI] w8 fun (r10 : Int × Unit) w11 =>
 cl Pg 77 [.int .i64 r10.1, .slice none 0 0] [.a [(.i .i64), (.i .i64)]] w11 fun (r12 : (Int × Int × Unit) × Unit) w13 =>
 st1 w13 b3 0 (.int .i64 r12.1.1) fun w14 =>
 st1 w14 b3 (0 + 1) (.int .i64 r12.1.2.1) fun w15 =>
 ldI w15 .i64 b3 0 fun n16 =>
 ldI w15 .i64 b3 (0 + 1) fun n17 =>
 R [.agg #[.int .i64 n16, .int .i64 n17]] w15) (
 cs ((n5 : Int) == (3 : Int)) (
 cl Pg 208 [.pointer a3] [kI] w8 fun (r18 : Int × Unit) w19 =>
 al w19 2 [.int .i64 r18.1] fun b20 w21 =>
 cl Pg 77 [.int .i64 0, vS ⟨some ⟨b20, 0, none⟩, 1, 1⟩] [.a [(.i .i64), (.i .i64)]] w21 fun (r22 : (Int × Int × Unit) × Unit) w23 =>
 st1 w23 b3 0 (.int .i64 r22.1.1) fun w24 =>
 st1 w24 b3 (0 + 1) (.int .i64 r22.1.2.1) fun w25 =>
 ldI w25 .i64 b3 0 fun n26 =>
 ldI w25 .i64 b3 (0 + 1) fun n27 =>
 R [.agg #[.int .i64 n26, .int .i64 n27]] w25) (
 cs ((n5 : Int) == (5 : Int)) (
 nn a0 fun b28 o29 =>
 ldI w8 .i64 b28 (o29 + 12) fun n30 =>
 cs ((a2 : Int) == (n30 : Int)) (
 cl Pg 77 [.int .i64 (-28), .slice none 0 0] [.a [(.i .i64), (.i .i64)]] w8 fun (r31 : (Int × Int × Unit) × Unit) w32 =>
 st1 w32 b3 0 (.int .i64 r31.1.1) fun w33 =>
 st1 w33 b3 (0 + 1) (.int .i64 r31.1.2.1) fun w34 =>
 ldI w34 .i64 b3 0 fun n35 =>
 ldI w34 .i64 b3 (0 + 1) fun n36 =>
 R [.agg #[.int .i64 n35, .int .i64 n36]] w34) (
 al w8 3 [.int .i64 16] fun b37 w38 =>
 cl Pg 207 [.pointer a3, vS ⟨some ⟨b37, 0, none⟩, 1, 1⟩] [kB] w38 fun (r39 : Bool × Unit) w40 =>
 cs r39.1 (
 cl Pg 77 [.int .i64 (-41), .slice none 0 0] [.a [(.i .i64), (.i .i64)]] w40 fun (r41 : (Int × Int × Unit) × Unit) w42 =>
 st1 w42 b3 0 (.int .i64 r41.1.1) fun w43 =>
 st1 w43 b3 (0 + 1) (.int .i64 r41.1.2.1) fun w44 =>
 ldI w44 .i64 b3 0 fun n45 =>
 ldI w44 .i64 b3 (0 + 1) fun n46 =>
 R [.agg #[.int .i64 n45, .int .i64 n46]] w44) (
 cl Pg 133 [.pointer a0, .int .i64 a2] [] w40 fun (r47 : Unit) w48 =>
 cl Pg 77 [.int .i64 0, .slice none 0 0] [.a [(.i .i64), (.i .i64)]] w48 fun (r49 : (Int × Int × Unit) × Unit) w50 =>
 st1 w50 b3 0 (.int .i64 r49.1.1) fun w51 =>
 st1 w51 b3 (0 + 1) (.int .i64 r49.1.2.1) fun w52 =>
 ldI w52 .i64 b3 0 fun n53 =>
 ldI w52 .i64 b3 (0 + 1) fun n54 =>
 R [.agg #[.int .i64 n53, .int .i64 n54]] w52))) (
 cs ((n5 : Int) == (7 : Int)) (
 al w8 3 [.int .i64 16] fun b55 w56 =>
 cl Pg 207 [.pointer a3, vS ⟨some ⟨b55, 0, none⟩, 1, 1⟩] [kB] w56 fun (r57 : Bool × Unit) w58 =>
 cs r57.1 (
 cl Pg 77 [.int .i64 (-41), .slice none 0 0] [.a [(.i .i64), (.i .i64)]] w58 fun (r59 : (Int × Int × Unit) × Unit) w60 =>
 st1 w60 b3 0 (.int .i64 r59.1.1) fun w61 =>
 st1 w61 b3 (0 + 1) (.int .i64 r59.1.2.1) fun w62 =>
 ldI w62 .i64 b3 0 fun n63 =>
 ldI w62 .i64 b3 (0 + 1) fun n64 =>
 R [.agg #[.int .i64 n63, .int .i64 n64]] w62) (
 nn a0 fun b65 o66 =>
 ldP w58 b65 (o66 + 5) fun p67 =>
 cl Pg 35 [.pointer p67, .int .i64 a2] [kI] w58 fun (r68 : Int × Unit) w69 =>
 al w69 2 [.int .i64 r68.1] fun b70 w71 =>
 cl Pg 77 [.int .i64 0, vS ⟨some ⟨b70, 0, none⟩, 1, 1⟩] [.a [(.i .i64), (.i .i64)]] w71 fun (r72 : (Int × Int × Unit) × Unit) w73 =>
 st1 w73 b3 0 (.int .i64 r72.1.1) fun w74 =>
 st1 w74 b3 (0 + 1) (.int .i64 r72.1.2.1) fun w75 =>
 ldI w75 .i64 b3 0 fun n76 =>
 ldI w75 .i64 b3 (0 + 1) fun n77 =>
 R [.agg #[.int .i64 n76, .int .i64 n77]] w75)) (
 jn [kB] w8 (fun (t79 : Bool × Unit) w80 =>
 cs t79.1 (
 cl Pg 209 [.pointer a3] [kB, kI] w80 fun (r82 : Bool × Int × Unit) w83 =>
 jn [] w83 (fun (t85 : Unit) w86 =>
 cl Pg 77 [.int .i64 r82.2.1, .slice none 0 0] [.a [(.i .i64), (.i .i64)]] w86 fun (r88 : (Int × Int × Unit) × Unit) w89 =>
 st1 w89 b3 0 (.int .i64 r88.1.1) fun w90 =>
 st1 w90 b3 (0 + 1) (.int .i64 r88.1.2.1) fun w91 =>
 ldI w91 .i64 b3 0 fun n92 =>
 ldI w91 .i64 b3 (0 + 1) fun n93 =>
 R [.agg #[.int .i64 n92, .int .i64 n93]] w91) fun J84 w87 =>
 cs r82.1 (
 cl Pg 116 [.pointer a0, .int .i64 a2, .agg #[.int .i64 0, .int .i64 0]] [] w87 fun (r94 : Unit) w95 =>
 J84 () w95) (
 J84 () w87)) (
 cs ((n5 : Int) == (16 : Int)) (
 cl Pg 210 [.pointer a3] [kI, kI] w80 fun (r96 : Int × Int × Unit) w97 =>
 al w97 2 [.int .i64 r96.1] fun b98 w99 =>
 cl Pg 77 [.int .i64 r96.2.1, vS ⟨some ⟨b98, 0, none⟩, 1, 1⟩] [.a [(.i .i64), (.i .i64)]] w99 fun (r100 : (Int × Int × Unit) × Unit) w101 =>
 st1 w101 b3 0 (.int .i64 r100.1.1) fun w102 =>
 st1 w102 b3 (0 + 1) (.int .i64 r100.1.2.1) fun w103 =>
 ldI w103 .i64 b3 0 fun n104 =>
 ldI w103 .i64 b3 (0 + 1) fun n105 =>
 R [.agg #[.int .i64 n104, .int .i64 n105]] w103) (
 jn [kB] w80 (fun (t107 : Bool × Unit) w108 =>
 cs t107.1 (
 nn a0 fun b110 o111 =>
 ldS w108 b110 (o111 + 9) fun s112 =>
 ix s112 a2 1 fun b113 o114 =>
 ldP w108 b113 o114 fun p115 =>
 nn p115 fun b116 o117 =>
 ldI w108 .i64 b116 (o117 + 3) fun n118 =>
 cs ((n118 : Int) == (0 : Int)) (
 cl Pg 77 [.int .i64 (-41), .slice none 0 0] [.a [(.i .i64), (.i .i64)]] w108 fun (r119 : (Int × Int × Unit) × Unit) w120 =>
 st1 w120 b3 0 (.int .i64 r119.1.1) fun w121 =>
 st1 w121 b3 (0 + 1) (.int .i64 r119.1.2.1) fun w122 =>
 ldI w122 .i64 b3 0 fun n123 =>
 ldI w122 .i64 b3 (0 + 1) fun n124 =>
 R [.agg #[.int .i64 n123, .int .i64 n124]] w122) (
 cl Pg 54 [.pointer a0, .int .i64 a2] [] w108 fun (r125 : Unit) w126 =>
 cl Pg 55 [.pointer a0, .int .i64 a2, .agg #[.int .i64 (-49), .int .i64 0]] [] w126 fun (r127 : Unit) w128 =>
 cl Pg 56 [.pointer a0] [] w128 fun (r129 : Unit) w130 =>
 cl Pg 77 [.int .i64 0, .slice none 0 0] [.a [(.i .i64), (.i .i64)]] w130 fun (r131 : (Int × Int × Unit) × Unit) w132 =>
 st1 w132 b3 0 (.int .i64 r131.1.1) fun w133 =>
 st1 w133 b3 (0 + 1) (.int .i64 r131.1.2.1) fun w134 =>
 ldI w134 .i64 b3 0 fun n135 =>
 ldI w134 .i64 b3 (0 + 1) fun n136 =>
 R [.agg #[.int .i64 n135, .int .i64 n136]] w134)) (
 cs ((n5 : Int) == (19 : Int)) (
 nn a0 fun b137 o138 =>
 ldI w108 .i64 b137 (o138 + 12) fun n139 =>
 jn [kB] w108 (fun (t141 : Bool × Unit) w142 =>
 cs t141.1 (
 cl Pg 77 [.int .i64 (-25), .slice none 0 0] [.a [(.i .i64), (.i .i64)]] w142 fun (r144 : (Int × Int × Unit) × Unit) w145 =>
 st1 w145 b3 0 (.int .i64 r144.1.1) fun w146 =>
 st1 w146 b3 (0 + 1) (.int .i64 r144.1.2.1) fun w147 =>
 ldI w147 .i64 b3 0 fun n148 =>
 ldI w147 .i64 b3 (0 + 1) fun n149 =>
 R [.agg #[.int .i64 n148, .int .i64 n149]] w147) (
 cl Pg 211 [.pointer a3] [kI] w142 fun (r150 : Int × Unit) w151 =>
 jn [] w151 (fun (t153 : Unit) w154 =>
 cl Pg 77 [.int .i64 r150.1, .slice none 0 0] [.a [(.i .i64), (.i .i64)]] w154 fun (r156 : (Int × Int × Unit) × Unit) w157 =>
 st1 w157 b3 0 (.int .i64 r156.1.1) fun w158 =>
 st1 w158 b3 (0 + 1) (.int .i64 r156.1.2.1) fun w159 =>
 ldI w159 .i64 b3 0 fun n160 =>
 ldI w159 .i64 b3 (0 + 1) fun n161 =>
 R [.agg #[.int .i64 n160, .int .i64 n161]] w159) fun J152 w155 =>
 cs ((r150.1 : Int) == (0 : Int)) (
 nn a0 fun b162 o163 =>
 ldP w155 b162 (o163 + 8) fun p164 =>
 cl Pg 197 [.pointer p164, .int .i64 a2] [kB] w155 fun (r165 : Bool × Unit) w166 =>
 J152 () w166) (
 J152 () w155))) fun J140 w143 =>
 cs ((a2 : Int) == (n139 : Int)) (
 nn a0 fun b167 o168 =>
 ldP w143 b167 (o168 + 6) fun p169 =>
 nn p169 fun b170 o171 =>
 cl Pg 166 [.pointer (some ⟨b170, o171, none⟩)] [kB] w143 fun (r172 : Bool × Unit) w173 =>
 J140 (r172.1, ()) w173) (
 J140 (false, ()) w143)) (
 jn [kB] w108 (fun (t175 : Bool × Unit) w176 =>
 cs t175.1 (
 ldI w176 .i64 b1 0 fun n178 =>
 cl Pg 212 [.pointer a3, .bool ((n178 : Int) == (21 : Int))] [kB, kI] w176 fun (r179 : Bool × Int × Unit) w180 =>
 jn [] w180 (fun (t182 : Unit) w183 =>
 cl Pg 77 [.int .i64 r179.2.1, .slice none 0 0] [.a [(.i .i64), (.i .i64)]] w183 fun (r185 : (Int × Int × Unit) × Unit) w186 =>
 st1 w186 b3 0 (.int .i64 r185.1.1) fun w187 =>
 st1 w187 b3 (0 + 1) (.int .i64 r185.1.2.1) fun w188 =>
 ldI w188 .i64 b3 0 fun n189 =>
 ldI w188 .i64 b3 (0 + 1) fun n190 =>
 R [.agg #[.int .i64 n189, .int .i64 n190]] w188) fun J181 w184 =>
 cs r179.1 (
 cl Pg 188 [.pointer a0, .int .i64 a2] [] w184 fun (r191 : Unit) w192 =>
 J181 () w192) (
 J181 () w184)) (
 cl Pg 77 [.int .i64 0, .slice none 0 0] [.a [(.i .i64), (.i .i64)]] w176 fun (r193 : (Int × Int × Unit) × Unit) w194 =>
 st1 w194 b3 0 (.int .i64 r193.1.1) fun w195 =>
 st1 w195 b3 (0 + 1) (.int .i64 r193.1.2.1) fun w196 =>
 ldI w196 .i64 b3 0 fun n197 =>
 ldI w196 .i64 b3 (0 + 1) fun n198 =>
 R [.agg #[.int .i64 n197, .int .i64 n198]] w196)) fun J174 w177 =>
 cs ((n5 : Int) == (20 : Int)) (
 J174 (true, ()) w177) (
 J174 ((n5 : Int) == (21 : Int), ()) w177)))) fun J106 w109 =>
 cs ((n5 : Int) == (17 : Int)) (
 J106 (true, ()) w109) (
 J106 ((n5 : Int) == (18 : Int), ()) w109)))) fun J78 w81 =>
 cs ((n5 : Int) == (14 : Int)) (
 J78 (true, ()) w81) (
 J78 ((n5 : Int) == (15 : Int), ()) w81)))))) fun J6 w9 =>
 cs ((n5 : Int) == (1 : Int)) (
 J6 (true, ()) w9) (
 J6 ((n5 : Int) == (2 : Int), ()) w9)
theorem tie140 (a0 : Option Addr) (a1 : (Int × Int × Int × Int × Int × Unit)) (a2 : Int) (a3 : Option Addr) (R : List Value → World → Prop) (w : World) : compF Pg Tryz.f140 ⟨[(1, ⟨[(18, kB)], [20]⟩), (10, ⟨[(64, kB)], [66]⟩), (12, ⟨[], [73, 74, 75, 76]⟩), (14, ⟨[(90, kB)], [92]⟩), (19, ⟨[], [136, 137, 138, 139, 140, 141]⟩), (20, ⟨[(144, kB)], [146]⟩), (22, ⟨[], [156, 157, 158]⟩)], [], [], [(34, [(7, 8, ⟨[(130, kB)], [123, 124, 125, 126, 127, 128, 129]⟩)])]⟩ [.pointer a0, .agg #[.int .i64 a1.1, .int .i64 a1.2.1, .int .i64 a1.2.2.1, .int .i64 a1.2.2.2.1, .int .i64 a1.2.2.2.2.1], .int .i64 a2, .pointer a3] R w = sh140 a0 a1 a2 a3 R w := by kernel_rfl
theorem call140 {a0 : Option Addr} {a1 : (Int × Int × Int × Int × Int × Unit)} {a2 : Int} {a3 : Option Addr} {w : World} {K : TK [.a [(.i .i64), (.i .i64)]] → World → Prop} (h : sh140 a0 a1 a2 a3 (fun vs w' => ∃ t, encK [.a [(.i .i64), (.i .i64)]] t = vs ∧ K t w') w) : cl Pg 140 [.pointer a0, .agg #[.int .i64 a1.1, .int .i64 a1.2.1, .int .i64 a1.2.2.1, .int .i64 a1.2.2.2.1, .int .i64 a1.2.2.2.2.1], .int .i64 a2, .pointer a3] [.a [(.i .i64), (.i .i64)]] w K := cl_of Tryz.func140 (tie140 ..) h
def sh79 (a0 : Option Addr) (a1 : (Int × Int × Int × Int × Int × Unit)) (R : List Value → World → Prop) (w : World) : Prop :=
 al w 97 [.int .i64 a1.1, .int .i64 a1.2.1, .int .i64 a1.2.2.1, .int .i64 a1.2.2.2.1, .int .i64 a1.2.2.2.2.1] fun b1 w2 =>
 al w2 57 [.int .i64 0, .int .i64 0] fun b3 w4 =>
 ldI w4 .i64 b1 0 fun n5 =>
 ldI w4 .i64 b1 (0 + 1) fun n6 =>
 ldI w4 .i64 b1 (0 + 2) fun n7 =>
 ldI w4 .i64 b1 (0 + 3) fun n8 =>
 ldI w4 .i64 b1 (0 + 4) fun n9 =>
 cl Pg 130 [.pointer a0, .agg #[.int .i64 n5, .int .i64 n6, .int .i64 n7, .int .i64 n8, .int .i64 n9]] [kI] w4 fun (r10 : Int × Unit) w11 =>
 jn [kB] w11 (fun (t13 : Bool × Unit) w14 =>
 jn [kB] w14 (fun (t17 : Bool × Unit) w18 =>
 cs t17.1 (
 cl Pg 77 [.int .i64 (-18), .slice none 0 0] [.a [(.i .i64), (.i .i64)]] w18 fun (r20 : (Int × Int × Unit) × Unit) w21 =>
 st1 w21 b3 0 (.int .i64 r20.1.1) fun w22 =>
 st1 w22 b3 (0 + 1) (.int .i64 r20.1.2.1) fun w23 =>
 ldI w23 .i64 b3 0 fun n24 =>
 ldI w23 .i64 b3 (0 + 1) fun n25 =>
 R [.agg #[.int .i64 n24, .int .i64 n25]] w23) (
 ldI w18 .i64 b1 0 fun n26 =>
 cs ((n26 : Int) == (4 : Int)) (
 nn a0 fun b27 o28 =>
 ldP w18 b27 (o28 + 6) fun p29 =>
 cl Pg 131 [.pointer p29, .bool false] [] w18 fun (r30 : Unit) w31 =>
 nn a0 fun b32 o33 =>
 ldP w31 b32 (o33 + 6) fun p34 =>
 cl Pg 132 [.pointer p34, .bool false] [] w31 fun (r35 : Unit) w36 =>
 cl Pg 133 [.pointer a0, .int .i64 r10.1] [] w36 fun (r37 : Unit) w38 =>
 cl Pg 77 [.int .i64 0, .slice none 0 0] [.a [(.i .i64), (.i .i64)]] w38 fun (r39 : (Int × Int × Unit) × Unit) w40 =>
 st1 w40 b3 0 (.int .i64 r39.1.1) fun w41 =>
 st1 w41 b3 (0 + 1) (.int .i64 r39.1.2.1) fun w42 =>
 ldI w42 .i64 b3 0 fun n43 =>
 ldI w42 .i64 b3 (0 + 1) fun n44 =>
 R [.agg #[.int .i64 n43, .int .i64 n44]] w42) (
 jn [kB] w18 (fun (t46 : Bool × Unit) w47 =>
 cs t46.1 (
 ldI w47 .i64 b1 0 fun n49 =>
 ldI w47 .i64 b1 (0 + 1) fun n50 =>
 ldI w47 .i64 b1 (0 + 2) fun n51 =>
 ldI w47 .i64 b1 (0 + 3) fun n52 =>
 ldI w47 .i64 b1 (0 + 4) fun n53 =>
 cl Pg 134 [.pointer a0, .agg #[.int .i64 n49, .int .i64 n50, .int .i64 n51, .int .i64 n52, .int .i64 n53]] [.a [(.i .i64), (.i .i64)]] w47 fun (r54 : (Int × Int × Unit) × Unit) w55 =>
 st1 w55 b3 0 (.int .i64 r54.1.1) fun w56 =>
 st1 w56 b3 (0 + 1) (.int .i64 r54.1.2.1) fun w57 =>
 ldI w57 .i64 b3 0 fun n58 =>
 ldI w57 .i64 b3 (0 + 1) fun n59 =>
 R [.agg #[.int .i64 n58, .int .i64 n59]] w57) (
 jn [kB] w47 (fun (t61 : Bool × Unit) w62 =>
 cs t61.1 (
 nn a0 fun b64 o65 =>
 ldI w62 .i64 b64 (o65 + 12) fun n66 =>
 al w62 2 [.int .i64 n66] fun b67 w68 =>
 cl Pg 77 [.int .i64 0, vS ⟨some ⟨b67, 0, none⟩, 1, 1⟩] [.a [(.i .i64), (.i .i64)]] w68 fun (r69 : (Int × Int × Unit) × Unit) w70 =>
 st1 w70 b3 0 (.int .i64 r69.1.1) fun w71 =>
 st1 w71 b3 (0 + 1) (.int .i64 r69.1.2.1) fun w72 =>
 ldI w72 .i64 b3 0 fun n73 =>
 ldI w72 .i64 b3 (0 + 1) fun n74 =>
 R [.agg #[.int .i64 n73, .int .i64 n74]] w72) (
 cs ((n26 : Int) == (12 : Int)) (
 cl Pg 135 [.pointer a0, .int .i64 (-1)] [.a [(.i .i64), (.i .i64)]] w62 fun (r75 : (Int × Int × Unit) × Unit) w76 =>
 st1 w76 b3 0 (.int .i64 r75.1.1) fun w77 =>
 st1 w77 b3 (0 + 1) (.int .i64 r75.1.2.1) fun w78 =>
 ldI w78 .i64 b3 0 fun n79 =>
 ldI w78 .i64 b3 (0 + 1) fun n80 =>
 R [.agg #[.int .i64 n79, .int .i64 n80]] w78) (
 cs ((n26 : Int) == (13 : Int)) (
 ixA b1 (0 + 1) 4 0 1 fun b81 o82 =>
 ldI w62 .i64 b81 o82 fun n83 =>
 cl Pg 136 [.int .i64 n83] [kB] w62 fun (r84 : Bool × Unit) w85 =>
 cs (!r84.1) (
 cl Pg 77 [.int .i64 (-17), .slice none 0 0] [.a [(.i .i64), (.i .i64)]] w85 fun (r86 : (Int × Int × Unit) × Unit) w87 =>
 st1 w87 b3 0 (.int .i64 r86.1.1) fun w88 =>
 st1 w88 b3 (0 + 1) (.int .i64 r86.1.2.1) fun w89 =>
 ldI w89 .i64 b3 0 fun n90 =>
 ldI w89 .i64 b3 (0 + 1) fun n91 =>
 R [.agg #[.int .i64 n90, .int .i64 n91]] w89) (
 ixA b1 (0 + 1) 4 0 1 fun b92 o93 =>
 ldI w85 .i64 b92 o93 fun n94 =>
 cl Pg 135 [.pointer a0, .int .i64 n94] [.a [(.i .i64), (.i .i64)]] w85 fun (r95 : (Int × Int × Unit) × Unit) w96 =>
 st1 w96 b3 0 (.int .i64 r95.1.1) fun w97 =>
 st1 w97 b3 (0 + 1) (.int .i64 r95.1.2.1) fun w98 =>
 ldI w98 .i64 b3 0 fun n99 =>
 ldI w98 .i64 b3 (0 + 1) fun n100 =>
 R [.agg #[.int .i64 n99, .int .i64 n100]] w98)) (
 cs ((n26 : Int) == (22 : Int)) (
 ixA b1 (0 + 1) 4 0 1 fun b101 o102 =>
 ldI w62 .i64 b101 o102 fun n103 =>
 cl Pg 137 [.int .i64 n103] [.l (.i .u64), kI] w62 fun (r104 : Int × Int × Unit) w105 =>
 cs ((r104.2.1 : Int) != (0 : Int)) (
 cl Pg 77 [.int .i64 r104.2.1, .slice none 0 0] [.a [(.i .i64), (.i .i64)]] w105 fun (r106 : (Int × Int × Unit) × Unit) w107 =>
 st1 w107 b3 0 (.int .i64 r106.1.1) fun w108 =>
 st1 w108 b3 (0 + 1) (.int .i64 r106.1.2.1) fun w109 =>
 ldI w109 .i64 b3 0 fun n110 =>
 ldI w109 .i64 b3 (0 + 1) fun n111 =>
 R [.agg #[.int .i64 n110, .int .i64 n111]] w109) (
 ixA b1 (0 + 1) 4 0 1 fun b112 o113 =>
 ldI w105 .i64 b112 o113 fun n114 =>
 cl Pg 138 [.pointer a0, .int .i64 2, .int .i64 0, .int .i64 n114] [.a [(.i .i64), (.i .i64)]] w105 fun (r115 : (Int × Int × Unit) × Unit) w116 =>
 st1 w116 b3 0 (.int .i64 r115.1.1) fun w117 =>
 st1 w117 b3 (0 + 1) (.int .i64 r115.1.2.1) fun w118 =>
 ldI w118 .i64 b3 0 fun n119 =>
 ldI w118 .i64 b3 (0 + 1) fun n120 =>
 R [.agg #[.int .i64 n119, .int .i64 n120]] w118)) (
 cs ((n26 : Int) == (6 : Int)) (
 ixA b1 (0 + 1) 4 1 1 fun b121 o122 =>
 ldI w62 .i64 b121 o122 fun n123 =>
 cl Pg 139 [.pointer a0, .int .i64 r10.1, .int .i64 n123] [kI] w62 fun (r124 : Int × Unit) w125 =>
 cl Pg 77 [.int .i64 r124.1, .slice none 0 0] [.a [(.i .i64), (.i .i64)]] w125 fun (r126 : (Int × Int × Unit) × Unit) w127 =>
 st1 w127 b3 0 (.int .i64 r126.1.1) fun w128 =>
 st1 w128 b3 (0 + 1) (.int .i64 r126.1.2.1) fun w129 =>
 ldI w129 .i64 b3 0 fun n130 =>
 ldI w129 .i64 b3 (0 + 1) fun n131 =>
 R [.agg #[.int .i64 n130, .int .i64 n131]] w129) (
 dr w62 fun w132 =>
 ldI w132 .i64 b1 0 fun n133 =>
 ldI w132 .i64 b1 (0 + 1) fun n134 =>
 ldI w132 .i64 b1 (0 + 2) fun n135 =>
 ldI w132 .i64 b1 (0 + 3) fun n136 =>
 ldI w132 .i64 b1 (0 + 4) fun n137 =>
 nn a0 fun b138 o139 =>
 ldS w132 b138 (o139 + 9) fun s140 =>
 ix s140 r10.1 1 fun b141 o142 =>
 ldP w132 b141 o142 fun p143 =>
 nn p143 fun b144 o145 =>
 ldP w132 b144 o145 fun p146 =>
 cl Pg 140 [.pointer a0, .agg #[.int .i64 n133, .int .i64 n134, .int .i64 n135, .int .i64 n136, .int .i64 n137], .int .i64 r10.1, .pointer p146] [.a [(.i .i64), (.i .i64)]] w132 fun (r147 : (Int × Int × Unit) × Unit) w148 =>
 st1 w148 b3 0 (.int .i64 r147.1.1) fun w149 =>
 st1 w149 b3 (0 + 1) (.int .i64 r147.1.2.1) fun w150 =>
 ldI w150 .i64 b3 0 fun n151 =>
 ldI w150 .i64 b3 (0 + 1) fun n152 =>
 R [.agg #[.int .i64 n151, .int .i64 n152]] w150)))))) fun J60 w63 =>
 cs ((n26 : Int) == (10 : Int)) (
 J60 (true, ()) w63) (
 J60 ((n26 : Int) == (11 : Int), ()) w63))) fun J45 w48 =>
 cs ((n26 : Int) == (8 : Int)) (
 J45 (true, ()) w48) (
 J45 ((n26 : Int) == (9 : Int), ()) w48)))) fun J16 w19 =>
 cs t13.1 (
 ldI w19 .i64 b1 0 fun n153 =>
 J16 ((n153 : Int) != (11 : Int), ()) w19) (
 J16 (false, ()) w19)) fun J12 w15 =>
 cs ((r10.1 : Int) == (0 : Int)) (
 ldI w15 .i64 b1 0 fun n154 =>
 J12 ((n154 : Int) != (9 : Int), ()) w15) (
 J12 (false, ()) w15)
theorem tie79 (a0 : Option Addr) (a1 : (Int × Int × Int × Int × Int × Unit)) (R : List Value → World → Prop) (w : World) : compF Pg Tryz.f79 ⟨[(3, ⟨[(42, kB)], [44]⟩), (5, ⟨[(48, kB)], [50]⟩)], [], [(29, .l [(0, []), (1, []), (2, []), (3, []), (4, []), (5, []), (6, []), (7, []), (8, []), (9, []), (10, []), (11, []), (12, []), (13, [0, 1, 2, 12, 11, 10, 9, 8, 6, 7, 5, 4, 3]), (14, [13, 0, 1, 2, 3, 4, 5, 6, 7, 8, 9, 10, 11, 12])])], [(2, [(3, 4, ⟨[(17, kB)], [14, 15, 16]⟩), (8, 4, ⟨[(22, kB)], [19, 20, 21]⟩)])]⟩ [.pointer a0, .agg #[.int .i64 a1.1, .int .i64 a1.2.1, .int .i64 a1.2.2.1, .int .i64 a1.2.2.2.1, .int .i64 a1.2.2.2.2.1]] R w = sh79 a0 a1 R w := by kernel_rfl
theorem call79 {a0 : Option Addr} {a1 : (Int × Int × Int × Int × Int × Unit)} {w : World} {K : TK [.a [(.i .i64), (.i .i64)]] → World → Prop} (h : sh79 a0 a1 (fun vs w' => ∃ t, encK [.a [(.i .i64), (.i .i64)]] t = vs ∧ K t w') w) : cl Pg 79 [.pointer a0, .agg #[.int .i64 a1.1, .int .i64 a1.2.1, .int .i64 a1.2.2.1, .int .i64 a1.2.2.2.1, .int .i64 a1.2.2.2.2.1]] [.a [(.i .i64), (.i .i64)]] w K := cl_of Tryz.func79 (tie79 ..) h
def sh141 (a0 : (Int × Int × Int × Int × Int × Unit)) (a1 : Int) (a2 : Int) (R : List Value → World → Prop) (w : World) : Prop :=
 al w 97 [.int .i64 a0.1, .int .i64 a0.2.1, .int .i64 a0.2.2.1, .int .i64 a0.2.2.2.1, .int .i64 a0.2.2.2.2.1] fun b1 w2 =>
 ldI w2 .i64 b1 0 fun n3 =>
 cs ((n3 : Int) == (a1 : Int)) (
 R [.int .i64 0] w2) (
 cs ((n3 : Int) == (a2 : Int)) (
 ldI w2 .i64 b1 0 fun n4 =>
 cl Pg 213 [.int .i64 n4] [kI] w2 fun (r5 : Int × Unit) w6 =>
 ixA b1 (0 + 1) 4 (w64 (r5.1 - 1)) 1 fun b7 o8 =>
 ldI w6 .i64 b7 o8 fun n9 =>
 R [.int .i64 n9] w6) (
 R [.int .i64 (-1)] w2))
theorem tie141 (a0 : (Int × Int × Int × Int × Int × Unit)) (a1 : Int) (a2 : Int) (R : List Value → World → Prop) (w : World) : compF Pg Tryz.f141 ⟨[], [], [], []⟩ [.agg #[.int .i64 a0.1, .int .i64 a0.2.1, .int .i64 a0.2.2.1, .int .i64 a0.2.2.2.1, .int .i64 a0.2.2.2.2.1], .int .i64 a1, .int .i64 a2] R w = sh141 a0 a1 a2 R w := by kernel_rfl
theorem call141 {a0 : (Int × Int × Int × Int × Int × Unit)} {a1 : Int} {a2 : Int} {w : World} {K : TK [kI] → World → Prop} (h : sh141 a0 a1 a2 (fun vs w' => ∃ t, encK [kI] t = vs ∧ K t w') w) : cl Pg 141 [.agg #[.int .i64 a0.1, .int .i64 a0.2.1, .int .i64 a0.2.2.1, .int .i64 a0.2.2.2.1, .int .i64 a0.2.2.2.2.1], .int .i64 a1, .int .i64 a2] [kI] w K := cl_of Tryz.func141 (tie141 ..) h
def sh80 (a0 : Option Addr) (a1 : (Int × Int × Int × Int × Int × Unit)) (R : List Value → World → Prop) (w : World) : Prop :=
 al w 97 [.int .i64 a1.1, .int .i64 a1.2.1, .int .i64 a1.2.2.1, .int .i64 a1.2.2.2.1, .int .i64 a1.2.2.2.2.1] fun b1 w2 =>
 al w2 57 [.int .i64 0, .int .i64 0] fun b3 w4 =>
 ixA b1 (0 + 1) 4 0 1 fun b5 o6 =>
 ldI w4 .i64 b5 o6 fun n7 =>
 nn a0 fun b8 o9 =>
 ldS w4 b8 o9 fun s10 =>
 cl Pg 59 [vS s10, .int .i64 (if 0 > (if 9 < n7 then 9 else n7) then 0 else (if 9 < n7 then 9 else n7))] [kP, kB] w4 fun (r11 : Option Addr × Bool × Unit) w12 =>
 ldI w12 .i64 b1 0 fun n13 =>
 ldI w12 .i64 b1 (0 + 1) fun n14 =>
 ldI w12 .i64 b1 (0 + 2) fun n15 =>
 ldI w12 .i64 b1 (0 + 3) fun n16 =>
 ldI w12 .i64 b1 (0 + 4) fun n17 =>
 cl Pg 141 [.agg #[.int .i64 n13, .int .i64 n14, .int .i64 n15, .int .i64 n16, .int .i64 n17], .int .i64 26, .int .i64 27] [kI] w12 fun (r18 : Int × Unit) w19 =>
 cs (!r11.2.1) (
 cl Pg 77 [.int .i64 (-18), .slice none 0 0] [.a [(.i .i64), (.i .i64)]] w19 fun (r20 : (Int × Int × Unit) × Unit) w21 =>
 st1 w21 b3 0 (.int .i64 r20.1.1) fun w22 =>
 st1 w22 b3 (0 + 1) (.int .i64 r20.1.2.1) fun w23 =>
 ldI w23 .i64 b3 0 fun n24 =>
 ldI w23 .i64 b3 (0 + 1) fun n25 =>
 R [.agg #[.int .i64 n24, .int .i64 n25]] w23) (
 cl Pg 136 [.int .i64 r18.1] [kB] w19 fun (r26 : Bool × Unit) w27 =>
 cs (!r26.1) (
 cl Pg 77 [.int .i64 (-17), .slice none 0 0] [.a [(.i .i64), (.i .i64)]] w27 fun (r28 : (Int × Int × Unit) × Unit) w29 =>
 st1 w29 b3 0 (.int .i64 r28.1.1) fun w30 =>
 st1 w30 b3 (0 + 1) (.int .i64 r28.1.2.1) fun w31 =>
 ldI w31 .i64 b3 0 fun n32 =>
 ldI w31 .i64 b3 (0 + 1) fun n33 =>
 R [.agg #[.int .i64 n32, .int .i64 n33]] w31) (
 ldI w27 .i64 b1 0 fun n34 =>
 jn [kB] w27 (fun (t36 : Bool × Unit) w37 =>
 cs t36.1 (
 cl Pg 142 [.pointer r11.1] [kI, kI] w37 fun (r39 : Int × Int × Unit) w40 =>
 al w40 3 [.int .i64 r39.1] fun b41 w42 =>
 cl Pg 143 [.pointer a0, .int .i64 0, vS ⟨some ⟨b41, 0, none⟩, 1, 1⟩] [] w42 fun (r43 : Unit) w44 =>
 cl Pg 77 [.int .i64 r39.2.1, .slice none 0 0] [.a [(.i .i64), (.i .i64)]] w44 fun (r45 : (Int × Int × Unit) × Unit) w46 =>
 st1 w46 b3 0 (.int .i64 r45.1.1) fun w47 =>
 st1 w47 b3 (0 + 1) (.int .i64 r45.1.2.1) fun w48 =>
 ldI w48 .i64 b3 0 fun n49 =>
 ldI w48 .i64 b3 (0 + 1) fun n50 =>
 R [.agg #[.int .i64 n49, .int .i64 n50]] w48) (
 cl Pg 92 [.pointer r11.1] [kB] w37 fun (r51 : Bool × Unit) w52 =>
 cs r51.1 (
 cl Pg 77 [.int .i64 0, .slice none 0 0] [.a [(.i .i64), (.i .i64)]] w52 fun (r53 : (Int × Int × Unit) × Unit) w54 =>
 st1 w54 b3 0 (.int .i64 r53.1.1) fun w55 =>
 st1 w55 b3 (0 + 1) (.int .i64 r53.1.2.1) fun w56 =>
 ldI w56 .i64 b3 0 fun n57 =>
 ldI w56 .i64 b3 (0 + 1) fun n58 =>
 R [.agg #[.int .i64 n57, .int .i64 n58]] w56) (
 cs ((r18.1 : Int) == (0 : Int)) (
 cl Pg 77 [.int .i64 (-50), .slice none 0 0] [.a [(.i .i64), (.i .i64)]] w52 fun (r59 : (Int × Int × Unit) × Unit) w60 =>
 st1 w60 b3 0 (.int .i64 r59.1.1) fun w61 =>
 st1 w61 b3 (0 + 1) (.int .i64 r59.1.2.1) fun w62 =>
 ldI w62 .i64 b3 0 fun n63 =>
 ldI w62 .i64 b3 (0 + 1) fun n64 =>
 R [.agg #[.int .i64 n63, .int .i64 n64]] w62) (
 dr w52 fun w65 =>
 nn a0 fun b66 o67 =>
 ldI w65 .i64 b66 (o67 + 12) fun n68 =>
 nn a0 fun b69 o70 =>
 ldP w65 b69 (o70 + 5) fun p71 =>
 nn a0 fun b72 o73 =>
 ldI w65 .i64 b72 (o73 + 12) fun n74 =>
 cl Pg 35 [.pointer p71, .int .i64 n74] [kI] w65 fun (r75 : Int × Unit) w76 =>
(w76.cell? ⟨b66, o67 + 12, none⟩ = some (.int .i64 n68)) ∧ (
 cl Pg 48 [.pointer r11.1, .int .i64 n68, .int .i64 r75.1] [kB, kI] w76 fun (r77 : Bool × Int × Unit) w78 =>
 cl Pg 138 [.pointer a0, .int .i64 3, .int .i64 (if 0 > (if 9 < n7 then 9 else n7) then 0 else (if 9 < n7 then 9 else n7)), .int .i64 r18.1] [.a [(.i .i64), (.i .i64)]] w78 fun (r79 : (Int × Int × Unit) × Unit) w80 =>
 st1 w80 b3 0 (.int .i64 r79.1.1) fun w81 =>
 st1 w81 b3 (0 + 1) (.int .i64 r79.1.2.1) fun w82 =>
 ldI w82 .i64 b3 0 fun n83 =>
 ldI w82 .i64 b3 (0 + 1) fun n84 =>
 R [.agg #[.int .i64 n83, .int .i64 n84]] w82))))) fun J35 w38 =>
 cs ((n34 : Int) == (23 : Int)) (
 J35 (true, ()) w38) (
 ldI w38 .i64 b1 0 fun n85 =>
 J35 ((n85 : Int) == (24 : Int), ()) w38)))
theorem tie80 (a0 : Option Addr) (a1 : (Int × Int × Int × Int × Int × Unit)) (R : List Value → World → Prop) (w : World) : compF Pg Tryz.f80 ⟨[], [], [(16, .l [(0, []), (1, []), (2, []), (3, []), (4, []), (5, []), (6, []), (7, []), (8, []), (9, []), (10, []), (11, []), (12, []), (13, []), (14, [9, 13, 8, 12, 7, 11, 6, 10, 5]), (15, [0, 4, 14, 3, 9, 13, 2, 8, 12, 1, 7, 11, 6, 10, 5])])], [(8, [(4, 4, ⟨[(45, kB)], [42, 43, 44]⟩)])]⟩ [.pointer a0, .agg #[.int .i64 a1.1, .int .i64 a1.2.1, .int .i64 a1.2.2.1, .int .i64 a1.2.2.2.1, .int .i64 a1.2.2.2.2.1]] R w = sh80 a0 a1 R w := by kernel_rfl
theorem call80 {a0 : Option Addr} {a1 : (Int × Int × Int × Int × Int × Unit)} {w : World} {K : TK [.a [(.i .i64), (.i .i64)]] → World → Prop} (h : sh80 a0 a1 (fun vs w' => ∃ t, encK [.a [(.i .i64), (.i .i64)]] t = vs ∧ K t w') w) : cl Pg 80 [.pointer a0, .agg #[.int .i64 a1.1, .int .i64 a1.2.1, .int .i64 a1.2.2.1, .int .i64 a1.2.2.2.1, .int .i64 a1.2.2.2.2.1]] [.a [(.i .i64), (.i .i64)]] w K := cl_of Tryz.func80 (tie80 ..) h
def sh81 (a0 : Option Addr) (a1 : (Int × Int × Int × Int × Int × Unit)) (R : List Value → World → Prop) (w : World) : Prop :=
 al w 97 [.int .i64 a1.1, .int .i64 a1.2.1, .int .i64 a1.2.2.1, .int .i64 a1.2.2.2.1, .int .i64 a1.2.2.2.2.1] fun b1 w2 =>
 al w2 57 [.int .i64 0, .int .i64 0] fun b3 w4 =>
 ixA b1 (0 + 1) 4 0 1 fun b5 o6 =>
 ldI w4 .i64 b5 o6 fun n7 =>
 nn a0 fun b8 o9 =>
 ldS w4 b8 (o9 + 1) fun s10 =>
 cl Pg 144 [vS s10, .int .i64 (if 0 > (if 9 < n7 then 9 else n7) then 0 else (if 9 < n7 then 9 else n7))] [kP, kB] w4 fun (r11 : Option Addr × Bool × Unit) w12 =>
 ldI w12 .i64 b1 0 fun n13 =>
 ldI w12 .i64 b1 (0 + 1) fun n14 =>
 ldI w12 .i64 b1 (0 + 2) fun n15 =>
 ldI w12 .i64 b1 (0 + 3) fun n16 =>
 ldI w12 .i64 b1 (0 + 4) fun n17 =>
 cl Pg 141 [.agg #[.int .i64 n13, .int .i64 n14, .int .i64 n15, .int .i64 n16, .int .i64 n17], .int .i64 32, .int .i64 33] [kI] w12 fun (r18 : Int × Unit) w19 =>
 cs (!r11.2.1) (
 cl Pg 77 [.int .i64 (-18), .slice none 0 0] [.a [(.i .i64), (.i .i64)]] w19 fun (r20 : (Int × Int × Unit) × Unit) w21 =>
 st1 w21 b3 0 (.int .i64 r20.1.1) fun w22 =>
 st1 w22 b3 (0 + 1) (.int .i64 r20.1.2.1) fun w23 =>
 ldI w23 .i64 b3 0 fun n24 =>
 ldI w23 .i64 b3 (0 + 1) fun n25 =>
 R [.agg #[.int .i64 n24, .int .i64 n25]] w23) (
 ixA b1 (0 + 1) 4 1 1 fun b26 o27 =>
 ldI w19 .i64 b26 o27 fun n28 =>
 jn [kB] w19 (fun (t30 : Bool × Unit) w31 =>
 jn [kB] w31 (fun (t34 : Bool × Unit) w35 =>
 cs t34.1 (
 cl Pg 77 [.int .i64 (-17), .slice none 0 0] [.a [(.i .i64), (.i .i64)]] w35 fun (r37 : (Int × Int × Unit) × Unit) w38 =>
 st1 w38 b3 0 (.int .i64 r37.1.1) fun w39 =>
 st1 w39 b3 (0 + 1) (.int .i64 r37.1.2.1) fun w40 =>
 ldI w40 .i64 b3 0 fun n41 =>
 ldI w40 .i64 b3 (0 + 1) fun n42 =>
 R [.agg #[.int .i64 n41, .int .i64 n42]] w40) (
 ixA b1 (0 + 1) 4 1 1 fun b43 o44 =>
 ldI w35 .i64 b43 o44 fun n45 =>
 ldI w35 .i64 b1 0 fun n46 =>
 jn [kB] w35 (fun (t48 : Bool × Unit) w49 =>
 cs t48.1 (
 al w49 210 [.int .u32 (IntKind.u32.wrap (n45))] fun b51 w52 =>
 cl Pg 145 [.pointer r11.1, vS ⟨some ⟨b51, 0, none⟩, 1, 1⟩] [kS] w52 fun (r53 : Sl × Unit) w54 =>
 lp [kI] w54 ((0 : Int), ()) fun (t55 : Int × Unit) J56 w57 =>
 cs (decide ((t55.1 : Int) < ((r53.1.len : Int) : Int))) (
 ix r53.1 t55.1 2 fun b58 o59 =>
 ldI w57 .i64 b58 o59 fun n60 =>
 ldI w57 .u32 b58 (o59 + 1) fun n61 =>
 al w57 243 [.int .i64 0, .int .u32 0] fun b62 w63 =>
 st1 w63 b62 0 (.int .i64 n60) fun w65 =>
 st1 w65 b62 (0 + 1) (.int .u32 n61) fun w66 =>
 ldI w66 .u32 b62 (0 + 1) fun n67 =>
 ldI w66 .i64 b62 0 fun n68 =>
 al w66 3 [.int .i64 n68] fun b69 w70 =>
 cl Pg 143 [.pointer a0, .int .i64 (w64 (n67)), vS ⟨some ⟨b69, 0, none⟩, 1, 1⟩] [] w70 fun (r71 : Unit) w72 =>
 J56 (w64 (t55.1 + 1), ()) w72) (
 cl Pg 77 [.int .i64 0, .slice none 0 0] [.a [(.i .i64), (.i .i64)]] w57 fun (r73 : (Int × Int × Unit) × Unit) w74 =>
 st1 w74 b3 0 (.int .i64 r73.1.1) fun w75 =>
 st1 w75 b3 (0 + 1) (.int .i64 r73.1.2.1) fun w76 =>
 ldI w76 .i64 b3 0 fun n77 =>
 ldI w76 .i64 b3 (0 + 1) fun n78 =>
 R [.agg #[.int .i64 n77, .int .i64 n78]] w76)) (
 cs ((n46 : Int) == (30 : Int)) (
 cl Pg 146 [.pointer r11.1, .int .u32 (IntKind.u32.wrap (n45))] [] w49 fun (r79 : Unit) w80 =>
 cl Pg 77 [.int .i64 0, .slice none 0 0] [.a [(.i .i64), (.i .i64)]] w80 fun (r81 : (Int × Int × Unit) × Unit) w82 =>
 st1 w82 b3 0 (.int .i64 r81.1.1) fun w83 =>
 st1 w83 b3 (0 + 1) (.int .i64 r81.1.2.1) fun w84 =>
 ldI w84 .i64 b3 0 fun n85 =>
 ldI w84 .i64 b3 (0 + 1) fun n86 =>
 R [.agg #[.int .i64 n85, .int .i64 n86]] w84) (
 ixA b1 (0 + 1) 4 2 1 fun b87 o88 =>
 ldI w49 .i64 b87 o88 fun n89 =>
 jn [kI] w49 (fun (t91 : Int × Unit) w92 =>
 cl Pg 147 [.pointer r11.1, .int .u32 (IntKind.u32.wrap (n45)), .int .i64 t91.1] [.l (.i .u32), kB, kI] w92 fun (r94 : Int × Bool × Int × Unit) w95 =>
 jn [kB] w95 (fun (t97 : Bool × Unit) w98 =>
 cs t97.1 (
 al w98 2 [.int .i64 (w64 (r94.1))] fun b100 w101 =>
 cl Pg 77 [.int .i64 r94.2.2.1, vS ⟨some ⟨b100, 0, none⟩, 1, 1⟩] [.a [(.i .i64), (.i .i64)]] w101 fun (r102 : (Int × Int × Unit) × Unit) w103 =>
 st1 w103 b3 0 (.int .i64 r102.1.1) fun w104 =>
 st1 w104 b3 (0 + 1) (.int .i64 r102.1.2.1) fun w105 =>
 ldI w105 .i64 b3 0 fun n106 =>
 ldI w105 .i64 b3 (0 + 1) fun n107 =>
 R [.agg #[.int .i64 n106, .int .i64 n107]] w105) (
 cs ((r18.1 : Int) == (0 : Int)) (
 cl Pg 77 [.int .i64 (-50), .slice none 0 0] [.a [(.i .i64), (.i .i64)]] w98 fun (r108 : (Int × Int × Unit) × Unit) w109 =>
 st1 w109 b3 0 (.int .i64 r108.1.1) fun w110 =>
 st1 w110 b3 (0 + 1) (.int .i64 r108.1.2.1) fun w111 =>
 ldI w111 .i64 b3 0 fun n112 =>
 ldI w111 .i64 b3 (0 + 1) fun n113 =>
 R [.agg #[.int .i64 n112, .int .i64 n113]] w111) (
 dr w98 fun w114 =>
 nn a0 fun b115 o116 =>
 ldI w114 .i64 b115 (o116 + 12) fun n117 =>
 nn a0 fun b118 o119 =>
 ldP w114 b118 (o119 + 5) fun p120 =>
 nn a0 fun b121 o122 =>
 ldI w114 .i64 b121 (o122 + 12) fun n123 =>
 cl Pg 35 [.pointer p120, .int .i64 n123] [kI] w114 fun (r124 : Int × Unit) w125 =>
(w125.cell? ⟨b115, o116 + 12, none⟩ = some (.int .i64 n117)) ∧ (
 cl Pg 148 [.pointer r11.1, .int .i64 n117, .int .i64 r124.1, .int .u32 (IntKind.u32.wrap (n45)), .int .i64 t91.1] [.l (.i .u32), kB, kI] w125 fun (r126 : Int × Bool × Int × Unit) w127 =>
 cl Pg 138 [.pointer a0, .int .i64 4, .int .i64 (if 0 > (if 9 < n7 then 9 else n7) then 0 else (if 9 < n7 then 9 else n7)), .int .i64 r18.1] [.a [(.i .i64), (.i .i64)]] w127 fun (r128 : (Int × Int × Unit) × Unit) w129 =>
 st1 w129 b3 0 (.int .i64 r128.1.1) fun w130 =>
 st1 w130 b3 (0 + 1) (.int .i64 r128.1.2.1) fun w131 =>
 ldI w131 .i64 b3 0 fun n132 =>
 ldI w131 .i64 b3 (0 + 1) fun n133 =>
 R [.agg #[.int .i64 n132, .int .i64 n133]] w131)))) fun J96 w99 =>
 cs r94.2.1 (
 J96 (true, ()) w99) (
 J96 ((r94.2.2.1 : Int) != (0 : Int), ()) w99)) fun J90 w93 =>
 cs ((n89 : Int) == (0 : Int)) (
 J90 ((0 : Int), ()) w93) (
 jn [kI] w93 (fun (t135 : Int × Unit) w136 =>
 J90 (t135.1, ()) w136) fun J134 w137 =>
 cs ((n89 : Int) == (1 : Int)) (
 J134 ((1 : Int), ()) w137) (
 J134 (((-1) : Int), ()) w137))))) fun J47 w50 =>
 cs ((n46 : Int) == (28 : Int)) (
 J47 (true, ()) w50) (
 J47 ((n46 : Int) == (29 : Int), ()) w50))) fun J33 w36 =>
 cs t30.1 (
 J33 (true, ()) w36) (
 cl Pg 136 [.int .i64 r18.1] [kB] w36 fun (r138 : Bool × Unit) w139 =>
 J33 (!r138.1, ()) w139)) fun J29 w32 =>
 cs (decide ((n28 : Int) < (0 : Int))) (
 J29 (true, ()) w32) (
 ixA b1 (0 + 1) 4 1 1 fun b140 o141 =>
 ldI w32 .i64 b140 o141 fun n142 =>
 J29 (decide ((n142 : Int) > (4294967295 : Int)), ()) w32))
theorem tie81 (a0 : Option Addr) (a1 : (Int × Int × Int × Int × Int × Unit)) (R : List Value → World → Prop) (w : World) : compF Pg Tryz.f81 ⟨[(4, ⟨[(59, kB)], [61]⟩), (7, ⟨[(67, kI)], [11, 68, 69, 70, 71, 72, 73, 74, 75, 76, 77, 78, 79]⟩), (12, ⟨[(12, kI)], [92, 93]⟩), (13, ⟨[(12, kI)], []⟩)], [], [(32, .l [(0, []), (1, []), (2, []), (3, []), (4, []), (5, []), (6, []), (7, []), (8, []), (9, []), (10, []), (11, []), (12, []), (13, []), (15, []), (16, []), (14, [9, 13, 8, 12, 7, 11, 6, 10, 5]), (17, [0, 4, 14, 15, 16, 3, 9, 13, 2, 8, 12, 1, 7, 11, 6, 10, 5])])], [(6, [(5, 5, ⟨[(46, kB)], [42, 43, 44, 45]⟩), (11, 4, ⟨[(51, kB)], [48, 49, 50]⟩)]), (28, [(2, 3, ⟨[(107, kB)], [105, 106]⟩)])]⟩ [.pointer a0, .agg #[.int .i64 a1.1, .int .i64 a1.2.1, .int .i64 a1.2.2.1, .int .i64 a1.2.2.2.1, .int .i64 a1.2.2.2.2.1]] R w = sh81 a0 a1 R w := by kernel_rfl
theorem call81 {a0 : Option Addr} {a1 : (Int × Int × Int × Int × Int × Unit)} {w : World} {K : TK [.a [(.i .i64), (.i .i64)]] → World → Prop} (h : sh81 a0 a1 (fun vs w' => ∃ t, encK [.a [(.i .i64), (.i .i64)]] t = vs ∧ K t w') w) : cl Pg 81 [.pointer a0, .agg #[.int .i64 a1.1, .int .i64 a1.2.1, .int .i64 a1.2.2.1, .int .i64 a1.2.2.2.1, .int .i64 a1.2.2.2.2.1]] [.a [(.i .i64), (.i .i64)]] w K := cl_of Tryz.func81 (tie81 ..) h
def sh82 (a0 : Option Addr) (a1 : (Int × Int × Int × Int × Int × Unit)) (R : List Value → World → Prop) (w : World) : Prop :=
 al w 97 [.int .i64 a1.1, .int .i64 a1.2.1, .int .i64 a1.2.2.1, .int .i64 a1.2.2.2.1, .int .i64 a1.2.2.2.2.1] fun b1 w2 =>
 al w2 57 [.int .i64 0, .int .i64 0] fun b3 w4 =>
 ixA b1 (0 + 1) 4 0 1 fun b5 o6 =>
 ldI w4 .i64 b5 o6 fun n7 =>
 nn a0 fun b8 o9 =>
 ldS w4 b8 (o9 + 2) fun s10 =>
 cl Pg 149 [vS s10, .int .i64 (if 0 > (if 9 < n7 then 9 else n7) then 0 else (if 9 < n7 then 9 else n7))] [kP, kB] w4 fun (r11 : Option Addr × Bool × Unit) w12 =>
 ldI w12 .i64 b1 0 fun n13 =>
 ldI w12 .i64 b1 (0 + 1) fun n14 =>
 ldI w12 .i64 b1 (0 + 2) fun n15 =>
 ldI w12 .i64 b1 (0 + 3) fun n16 =>
 ldI w12 .i64 b1 (0 + 4) fun n17 =>
 cl Pg 141 [.agg #[.int .i64 n13, .int .i64 n14, .int .i64 n15, .int .i64 n16, .int .i64 n17], .int .i64 35, .int .i64 37] [kI] w12 fun (r18 : Int × Unit) w19 =>
 ldI w19 .i64 b1 0 fun n20 =>
 jn [kI] w19 (fun (t22 : Int × Unit) w23 =>
 ldI w23 .i64 b1 0 fun n25 =>
 jn [kI] w23 (fun (t27 : Int × Unit) w28 =>
 cs (!r11.2.1) (
 cl Pg 77 [.int .i64 (-18), .slice none 0 0] [.a [(.i .i64), (.i .i64)]] w28 fun (r30 : (Int × Int × Unit) × Unit) w31 =>
 st1 w31 b3 0 (.int .i64 r30.1.1) fun w32 =>
 st1 w32 b3 (0 + 1) (.int .i64 r30.1.2.1) fun w33 =>
 ldI w33 .i64 b3 0 fun n34 =>
 ldI w33 .i64 b3 (0 + 1) fun n35 =>
 R [.agg #[.int .i64 n34, .int .i64 n35]] w33) (
 cl Pg 136 [.int .i64 t27.1] [kB] w28 fun (r36 : Bool × Unit) w37 =>
 cs (!r36.1) (
 cl Pg 77 [.int .i64 (-17), .slice none 0 0] [.a [(.i .i64), (.i .i64)]] w37 fun (r38 : (Int × Int × Unit) × Unit) w39 =>
 st1 w39 b3 0 (.int .i64 r38.1.1) fun w40 =>
 st1 w40 b3 (0 + 1) (.int .i64 r38.1.2.1) fun w41 =>
 ldI w41 .i64 b3 0 fun n42 =>
 ldI w41 .i64 b3 (0 + 1) fun n43 =>
 R [.agg #[.int .i64 n42, .int .i64 n43]] w41) (
 ldI w37 .i64 b1 0 fun n44 =>
 jn [kB] w37 (fun (t46 : Bool × Unit) w47 =>
 cs t46.1 (
 ixA b1 (0 + 1) 4 1 1 fun b49 o50 =>
 ldI w47 .i64 b49 o50 fun n51 =>
 cl Pg 150 [.pointer r11.1, .int .i64 n51] [kI, kI] w47 fun (r52 : Int × Int × Unit) w53 =>
 ixA b1 (0 + 1) 4 1 1 fun b54 o55 =>
 ldI w53 .i64 b54 o55 fun n56 =>
 al w53 3 [.int .i64 r52.1] fun b57 w58 =>
 cl Pg 143 [.pointer a0, .int .i64 n56, vS ⟨some ⟨b57, 0, none⟩, 1, 1⟩] [] w58 fun (r59 : Unit) w60 =>
 cl Pg 77 [.int .i64 r52.2.1, .slice none 0 0] [.a [(.i .i64), (.i .i64)]] w60 fun (r61 : (Int × Int × Unit) × Unit) w62 =>
 st1 w62 b3 0 (.int .i64 r61.1.1) fun w63 =>
 st1 w63 b3 (0 + 1) (.int .i64 r61.1.2.1) fun w65 =>
 ldI w65 .i64 b3 0 fun n66 =>
 ldI w65 .i64 b3 (0 + 1) fun n67 =>
 R [.agg #[.int .i64 n66, .int .i64 n67]] w65) (
 ldI w47 .i64 b1 0 fun n68 =>
 cs (decide ((n68 : Int) < (40 : Int))) (
 ixA b1 (0 + 1) 4 1 1 fun b69 o70 =>
 ldI w47 .i64 b69 o70 fun n71 =>
 cl Pg 151 [.pointer r11.1, .int .i64 n71] [kB, kI] w47 fun (r72 : Bool × Int × Unit) w73 =>
 ixA b1 (0 + 1) 4 1 1 fun b74 o75 =>
 ldI w73 .i64 b74 o75 fun n76 =>
 al w73 3 [.int .i64 r72.2.1] fun b77 w78 =>
 cl Pg 143 [.pointer a0, .int .i64 n76, vS ⟨some ⟨b77, 0, none⟩, 1, 1⟩] [] w78 fun (r79 : Unit) w80 =>
 cs r72.1 (
 cl Pg 77 [.int .i64 0, .slice none 0 0] [.a [(.i .i64), (.i .i64)]] w80 fun (r81 : (Int × Int × Unit) × Unit) w82 =>
 st1 w82 b3 0 (.int .i64 r81.1.1) fun w83 =>
 st1 w83 b3 (0 + 1) (.int .i64 r81.1.2.1) fun w84 =>
 ldI w84 .i64 b3 0 fun n85 =>
 ldI w84 .i64 b3 (0 + 1) fun n86 =>
 R [.agg #[.int .i64 n85, .int .i64 n86]] w84) (
 cs ((t27.1 : Int) == (0 : Int)) (
 cl Pg 77 [.int .i64 (-50), .slice none 0 0] [.a [(.i .i64), (.i .i64)]] w80 fun (r87 : (Int × Int × Unit) × Unit) w88 =>
 st1 w88 b3 0 (.int .i64 r87.1.1) fun w89 =>
 st1 w89 b3 (0 + 1) (.int .i64 r87.1.2.1) fun w90 =>
 ldI w90 .i64 b3 0 fun n91 =>
 ldI w90 .i64 b3 (0 + 1) fun n92 =>
 R [.agg #[.int .i64 n91, .int .i64 n92]] w90) (
 dr w80 fun w93 =>
 nn a0 fun b94 o95 =>
 ldI w93 .i64 b94 (o95 + 12) fun n96 =>
 nn a0 fun b97 o98 =>
 ldP w93 b97 (o98 + 5) fun p99 =>
 nn a0 fun b100 o101 =>
 ldI w93 .i64 b100 (o101 + 12) fun n102 =>
 ixA b1 (0 + 1) 4 1 1 fun b103 o104 =>
 ldI w93 .i64 b103 o104 fun n105 =>
 cl Pg 35 [.pointer p99, .int .i64 n102] [kI] w93 fun (r106 : Int × Unit) w107 =>
(w107.cell? ⟨b103, o104, none⟩ = some (.int .i64 n105)) ∧ (
(w107.cell? ⟨b94, o95 + 12, none⟩ = some (.int .i64 n96)) ∧ (
 cl Pg 152 [.pointer r11.1, .int .i64 n96, .int .i64 r106.1, .int .i64 n105] [kB, kI, kI] w107 fun (r108 : Bool × Int × Int × Unit) w109 =>
 cl Pg 138 [.pointer a0, .int .i64 5, .int .i64 (if 0 > (if 9 < n7 then 9 else n7) then 0 else (if 9 < n7 then 9 else n7)), .int .i64 t27.1] [.a [(.i .i64), (.i .i64)]] w109 fun (r110 : (Int × Int × Unit) × Unit) w111 =>
 st1 w111 b3 0 (.int .i64 r110.1.1) fun w112 =>
 st1 w112 b3 (0 + 1) (.int .i64 r110.1.2.1) fun w113 =>
 ldI w113 .i64 b3 0 fun n114 =>
 ldI w113 .i64 b3 (0 + 1) fun n115 =>
 R [.agg #[.int .i64 n114, .int .i64 n115]] w113))))) (
 cl Pg 153 [.pointer r11.1] [.a [(.i .i64), .b, (.i .i64)]] w47 fun (r116 : (Int × Bool × Int × Unit) × Unit) w117 =>
 al w117 256 [.int .i64 0, .bool false, .int .i64 0] fun b118 w119 =>
 st1 w119 b118 0 (.int .i64 r116.1.1) fun w120 =>
 st1 w120 b118 (0 + 1) (.bool r116.1.2.1) fun w121 =>
 st1 w121 b118 (0 + 2) (.int .i64 r116.1.2.2.1) fun w122 =>
 ldI w122 .i64 b118 (0 + 2) fun n123 =>
 al w122 3 [.int .i64 n123] fun b124 w125 =>
 cl Pg 143 [.pointer a0, .int .i64 0, vS ⟨some ⟨b124, 0, none⟩, 1, 1⟩] [] w125 fun (r126 : Unit) w127 =>
 ldB w127 b118 (0 + 1) fun b128 =>
 cs b128 (
 ldI w127 .i64 b118 0 fun n129 =>
 al w127 2 [.int .i64 n129] fun b130 w131 =>
 cl Pg 77 [.int .i64 0, vS ⟨some ⟨b130, 0, none⟩, 1, 1⟩] [.a [(.i .i64), (.i .i64)]] w131 fun (r132 : (Int × Int × Unit) × Unit) w133 =>
 st1 w133 b3 0 (.int .i64 r132.1.1) fun w134 =>
 st1 w134 b3 (0 + 1) (.int .i64 r132.1.2.1) fun w135 =>
 ldI w135 .i64 b3 0 fun n136 =>
 ldI w135 .i64 b3 (0 + 1) fun n137 =>
 R [.agg #[.int .i64 n136, .int .i64 n137]] w135) (
 cs ((t27.1 : Int) == (0 : Int)) (
 cl Pg 77 [.int .i64 (-50), .slice none 0 0] [.a [(.i .i64), (.i .i64)]] w127 fun (r138 : (Int × Int × Unit) × Unit) w139 =>
 st1 w139 b3 0 (.int .i64 r138.1.1) fun w140 =>
 st1 w140 b3 (0 + 1) (.int .i64 r138.1.2.1) fun w141 =>
 ldI w141 .i64 b3 0 fun n142 =>
 ldI w141 .i64 b3 (0 + 1) fun n143 =>
 R [.agg #[.int .i64 n142, .int .i64 n143]] w141) (
 dr w127 fun w144 =>
 nn a0 fun b145 o146 =>
 ldI w144 .i64 b145 (o146 + 12) fun n147 =>
 nn a0 fun b148 o149 =>
 ldP w144 b148 (o149 + 5) fun p150 =>
 nn a0 fun b151 o152 =>
 ldI w144 .i64 b151 (o152 + 12) fun n153 =>
 cl Pg 35 [.pointer p150, .int .i64 n153] [kI] w144 fun (r154 : Int × Unit) w155 =>
(w155.cell? ⟨b145, o146 + 12, none⟩ = some (.int .i64 n147)) ∧ (
 cl Pg 154 [.pointer r11.1, .int .i64 n147, .int .i64 r154.1] [.a [(.i .i64), .b, (.i .i64)], kI] w155 fun (r156 : (Int × Bool × Int × Unit) × Int × Unit) w157 =>
 cl Pg 138 [.pointer a0, .int .i64 6, .int .i64 (if 0 > (if 9 < n7 then 9 else n7) then 0 else (if 9 < n7 then 9 else n7)), .int .i64 t27.1] [.a [(.i .i64), (.i .i64)]] w157 fun (r158 : (Int × Int × Unit) × Unit) w159 =>
 st1 w159 b3 0 (.int .i64 r158.1.1) fun w160 =>
 st1 w160 b3 (0 + 1) (.int .i64 r158.1.2.1) fun w161 =>
 ldI w161 .i64 b3 0 fun n162 =>
 ldI w161 .i64 b3 (0 + 1) fun n163 =>
 R [.agg #[.int .i64 n162, .int .i64 n163]] w161)))))) fun J45 w48 =>
 cs ((n44 : Int) == (38 : Int)) (
 J45 (true, ()) w48) (
 ldI w48 .i64 b1 0 fun n164 =>
 J45 ((n164 : Int) == (39 : Int), ()) w48)))) fun J26 w29 =>
 cs (decide ((n25 : Int) ≥ (40 : Int))) (
 ldI w29 .i64 b1 0 fun n165 =>
 ldI w29 .i64 b1 (0 + 1) fun n166 =>
 ldI w29 .i64 b1 (0 + 2) fun n167 =>
 ldI w29 .i64 b1 (0 + 3) fun n168 =>
 ldI w29 .i64 b1 (0 + 4) fun n169 =>
 cl Pg 141 [.agg #[.int .i64 n165, .int .i64 n166, .int .i64 n167, .int .i64 n168, .int .i64 n169], .int .i64 41, .int .i64 42] [kI] w29 fun (r170 : Int × Unit) w171 =>
 J26 (r170.1, ()) w171) (
 J26 (t22.1, ()) w29)) fun J21 w24 =>
 cs ((n20 : Int) == (36 : Int)) (
 J21 ((0 : Int), ()) w24) (
 J21 (r18.1, ()) w24)
theorem tie82 (a0 : Option Addr) (a1 : (Int × Int × Int × Int × Int × Unit)) (R : List Value → World → Prop) (w : World) : compF Pg Tryz.f82 ⟨[(0, ⟨[(8, kI)], []⟩), (1, ⟨[(8, kI)], [37, 38]⟩)], [], [(23, .l [(0, []), (1, []), (2, []), (3, []), (4, []), (5, []), (6, []), (7, []), (8, []), (9, []), (10, []), (11, []), (12, []), (13, []), (15, []), (16, []), (17, []), (14, [9, 13, 8, 12, 7, 11, 6, 10, 5]), (18, [0, 4, 14, 17, 3, 9, 13, 16, 2, 8, 12, 15, 1, 7, 11, 6, 10, 5])]), (31, .l [(0, []), (1, []), (2, []), (3, []), (4, []), (5, []), (6, []), (7, []), (8, []), (9, []), (10, []), (11, []), (12, []), (13, []), (14, [9, 13, 8, 12, 7, 11, 6, 10, 5]), (15, [0, 4, 14, 3, 9, 13, 2, 8, 12, 1, 7, 11, 6, 10, 5])])], [(12, [(4, 4, ⟨[(56, kB)], [53, 54, 55]⟩)])]⟩ [.pointer a0, .agg #[.int .i64 a1.1, .int .i64 a1.2.1, .int .i64 a1.2.2.1, .int .i64 a1.2.2.2.1, .int .i64 a1.2.2.2.2.1]] R w = sh82 a0 a1 R w := by kernel_rfl
theorem call82 {a0 : Option Addr} {a1 : (Int × Int × Int × Int × Int × Unit)} {w : World} {K : TK [.a [(.i .i64), (.i .i64)]] → World → Prop} (h : sh82 a0 a1 (fun vs w' => ∃ t, encK [.a [(.i .i64), (.i .i64)]] t = vs ∧ K t w') w) : cl Pg 82 [.pointer a0, .agg #[.int .i64 a1.1, .int .i64 a1.2.1, .int .i64 a1.2.2.1, .int .i64 a1.2.2.2.1, .int .i64 a1.2.2.2.2.1]] [.a [(.i .i64), (.i .i64)]] w K := cl_of Tryz.func82 (tie82 ..) h
def sh65 (a0 : Option Addr) (a1 : Int) (a2 : Int) (R : List Value → World → Prop) (w : World) : Prop :=
 cl Pg 68 [.pointer a0, .int .i64 a1] [kB] w fun (r1 : Bool × Unit) w2 =>
 jn [kB] w2 (fun (t4 : Bool × Unit) w5 =>
 cs t4.1 (
 R [.bool false, .int .i64 (-18)] w5) (
 nn a0 fun b7 o8 =>
 ldS w5 b7 o8 fun s9 =>
 ix s9 a1 4 fun b10 o11 =>
 nn (some ⟨b10, o11, none⟩) fun b12 o13 =>
 ldI w5 .i64 b12 (o13 + 2) fun n14 =>
 jn [kB] w5 (fun (t16 : Bool × Unit) w17 =>
 cs t16.1 (
 R [.bool false, .int .i64 (-28)] w17) (
 nn a0 fun b19 o20 =>
 ixA b19 (o20 + 1) 17 a2 3 fun b21 o22 =>
 ldI w17 .i64 b21 (o22 + 2) fun n23 =>
 cs (decide ((n23 : Int) > (0 : Int))) (
 R [.bool false, .int .i64 (-41)] w17) (
 nn (some ⟨b10, o11, none⟩) fun b24 o25 =>
 ldI w17 .i64 b24 (o25 + 2) fun n26 =>
 cs ((n26 : Int) == (0 : Int)) (
 nn (some ⟨b10, o11, none⟩) fun b27 o28 =>
 st1 w17 b27 (o28 + 2) (.int .i64 a2) fun w29 =>
 cl Pg 64 [.pointer a0] [] w29 fun (r30 : Unit) w31 =>
 R [.bool true, .int .i64 0] w31) (
 R [.bool false, .int .i64 0] w17)))) fun J15 w18 =>
 cs ((n14 : Int) == (a2 : Int)) (
 J15 (true, ()) w18) (
 dr w18 fun w32 =>
 jn [kB] w32 (fun (t34 : Bool × Unit) w35 =>
 J15 (t34.1, ()) w35) fun J33 w36 =>
 nn (some ⟨b10, o11, none⟩) fun b37 o38 =>
 ldI w36 .i64 b37 o38 fun n39 =>
 cs ((n39 : Int) == (3 : Int)) (
 nn a0 fun b40 o41 =>
 ixA b40 (o41 + 1) 17 a2 3 fun b42 o43 =>
 ldI w36 .i64 b42 o43 fun n44 =>
 nn (some ⟨b10, o11, none⟩) fun b45 o46 =>
 ldI w36 .i64 b45 (o46 + 1) fun n47 =>
 J33 (decide ((n44 : Int) < (n47 : Int)), ()) w36) (
 J33 (false, ()) w36)))) fun J3 w6 =>
 cs (!r1.1) (
 J3 (true, ()) w6) (
 cl Pg 62 [.int .i64 a2] [kB] w6 fun (r48 : Bool × Unit) w49 =>
 J3 (!r48.1, ()) w49)
theorem tie65 (a0 : Option Addr) (a1 : Int) (a2 : Int) (R : List Value → World → Prop) (w : World) : compF Pg Tryz.f65 ⟨[(2, ⟨[(24, kB)], [31, 32, 33, 34, 35, 36, 37, 38, 39, 40, 41, 42, 43, 44, 45, 46, 47, 48, 49, 50, 51]⟩)], [(5, ⟨[(24, kB)], [31, 32, 33, 34, 35, 36, 37, 38, 39, 40, 41, 42, 43, 44, 45, 46, 47, 48, 49, 50, 51]⟩)], [(5, .l [(0, []), (1, []), (2, []), (3, []), (4, []), (5, []), (6, []), (7, []), (8, []), (9, []), (10, []), (11, []), (12, []), (13, []), (14, []), (15, []), (16, []), (17, []), (18, []), (19, []), (20, []), (21, [])])], [(1, [(5, 4, ⟨[(17, kB)], [14, 15, 16]⟩)])]⟩ [.pointer a0, .int .i64 a1, .int .i64 a2] R w = sh65 a0 a1 a2 R w := by kernel_rfl
theorem call65 {a0 : Option Addr} {a1 : Int} {a2 : Int} {w : World} {K : TK [kB, kI] → World → Prop} (h : sh65 a0 a1 a2 (fun vs w' => ∃ t, encK [kB, kI] t = vs ∧ K t w') w) : cl Pg 65 [.pointer a0, .int .i64 a1, .int .i64 a2] [kB, kI] w K := cl_of Tryz.func65 (tie65 ..) h
def sh66 (a0 : Option Addr) (a1 : Int) (a2 : Int) (R : List Value → World → Prop) (w : World) : Prop :=
 lp [kI, kI] w (a1, (0 : Int), ()) fun (t1 : Int × Int × Unit) J2 w3 =>
 cs (decide ((t1.2.1 : Int) < (17 : Int))) (
 nn a0 fun b4 o5 =>
 ixA b4 (o5 + 1) 17 t1.1 3 fun b6 o7 =>
 ldI w3 .i64 b6 (o7 + 2) fun n8 =>
 cs ((n8 : Int) == (0 : Int)) (
 R [.bool false] w3) (
 nn a0 fun b9 o10 =>
 ldS w3 b9 o10 fun s11 =>
 ix s11 n8 4 fun b12 o13 =>
 ldI w3 .i64 b12 (o13 + 2) fun n14 =>
 cs ((n14 : Int) == (a2 : Int)) (
 R [.bool true] w3) (
 cs ((n14 : Int) == (0 : Int)) (
 R [.bool false] w3) (
 J2 (n14, w64 (t1.2.1 + 1), ()) w3)))) (
 R [.bool false] w3)
theorem tie66 (a0 : Option Addr) (a1 : Int) (a2 : Int) (R : List Value → World → Prop) (w : World) : compF Pg Tryz.f66 ⟨[(1, ⟨[(1, kI), (8, kI)], [6, 7, 9, 10, 11, 12, 13, 14, 15, 16, 17, 18, 19, 20, 21, 22, 23, 24, 25, 26, 27, 28, 29, 30, 31, 32]⟩)], [], [], []⟩ [.pointer a0, .int .i64 a1, .int .i64 a2] R w = sh66 a0 a1 a2 R w := by kernel_rfl
theorem call66 {a0 : Option Addr} {a1 : Int} {a2 : Int} {w : World} {K : TK [kB] → World → Prop} (h : sh66 a0 a1 a2 (fun vs w' => ∃ t, encK [kB] t = vs ∧ K t w') w) : cl Pg 66 [.pointer a0, .int .i64 a1, .int .i64 a2] [kB] w K := cl_of Tryz.func66 (tie66 ..) h
def sh32 (a0 : Option Addr) (a1 : Int) (a2 : Int) (R : List Value → World → Prop) (w : World) : Prop :=
 cl Pg 65 [.pointer a0, .int .i64 a1, .int .i64 a2] [kB, kI] w fun (r1 : Bool × Int × Unit) w2 =>
 jn [kB] w2 (fun (t4 : Bool × Unit) w5 =>
 cs t4.1 (
 R [.bool r1.1, .int .i64 r1.2.1] w5) (
 nn a0 fun b7 o8 =>
 ldS w5 b7 o8 fun s9 =>
 ix s9 a1 4 fun b10 o11 =>
 ldI w5 .i64 b10 (o11 + 2) fun n12 =>
 cl Pg 66 [.pointer a0, .int .i64 n12, .int .i64 a2] [kB] w5 fun (r13 : Bool × Unit) w14 =>
 cs r13.1 (
 R [.bool false, .int .i64 (-28)] w14) (
 cl Pg 67 [.pointer a0, .int .i64 a1, .int .i64 a2] [] w14 fun (r15 : Unit) w16 =>
 nn a0 fun b17 o18 =>
 ixA b17 (o18 + 1) 17 a2 3 fun b19 o20 =>
 st1 w16 b19 (o20 + 2) (.int .i64 a1) fun w21 =>
 cl Pg 64 [.pointer a0] [] w21 fun (r22 : Unit) w23 =>
 R [.bool false, .int .i64 0] w23))) fun J3 w6 =>
 cs r1.1 (
 J3 (true, ()) w6) (
 J3 ((r1.2.1 : Int) != (0 : Int), ()) w6)
theorem tie32 (a0 : Option Addr) (a1 : Int) (a2 : Int) (R : List Value → World → Prop) (w : World) : compF Pg Tryz.f32 ⟨[], [], [], [(2, [(2, 3, ⟨[(21, kB)], [19, 20]⟩)])]⟩ [.pointer a0, .int .i64 a1, .int .i64 a2] R w = sh32 a0 a1 a2 R w := by kernel_rfl
theorem call32 {a0 : Option Addr} {a1 : Int} {a2 : Int} {w : World} {K : TK [kB, kI] → World → Prop} (h : sh32 a0 a1 a2 (fun vs w' => ∃ t, encK [kB, kI] t = vs ∧ K t w') w) : cl Pg 32 [.pointer a0, .int .i64 a1, .int .i64 a2] [kB, kI] w K := cl_of Tryz.func32 (tie32 ..) h
def sh83 (a0 : Option Addr) (a1 : (Int × Int × Int × Int × Int × Unit)) (R : List Value → World → Prop) (w : World) : Prop :=
 al w 97 [.int .i64 a1.1, .int .i64 a1.2.1, .int .i64 a1.2.2.1, .int .i64 a1.2.2.2.1, .int .i64 a1.2.2.2.2.1] fun b1 w2 =>
 al w2 57 [.int .i64 0, .int .i64 0] fun b3 w4 =>
 ixA b1 (0 + 1) 4 0 1 fun b5 o6 =>
 ldI w4 .i64 b5 o6 fun n7 =>
 ldI w4 .i64 b1 0 fun n8 =>
 ldI w4 .i64 b1 (0 + 1) fun n9 =>
 ldI w4 .i64 b1 (0 + 2) fun n10 =>
 ldI w4 .i64 b1 (0 + 3) fun n11 =>
 ldI w4 .i64 b1 (0 + 4) fun n12 =>
 cl Pg 141 [.agg #[.int .i64 n8, .int .i64 n9, .int .i64 n10, .int .i64 n11, .int .i64 n12], .int .i64 44, .int .i64 45] [kI] w4 fun (r13 : Int × Unit) w14 =>
 jn [kB] w14 (fun (t16 : Bool × Unit) w17 =>
 cs t16.1 (
 cl Pg 77 [.int .i64 (-18), .slice none 0 0] [.a [(.i .i64), (.i .i64)]] w17 fun (r19 : (Int × Int × Unit) × Unit) w20 =>
 st1 w20 b3 0 (.int .i64 r19.1.1) fun w21 =>
 st1 w21 b3 (0 + 1) (.int .i64 r19.1.2.1) fun w22 =>
 ldI w22 .i64 b3 0 fun n23 =>
 ldI w22 .i64 b3 (0 + 1) fun n24 =>
 R [.agg #[.int .i64 n23, .int .i64 n24]] w22) (
 cl Pg 136 [.int .i64 r13.1] [kB] w17 fun (r25 : Bool × Unit) w26 =>
 cs (!r25.1) (
 cl Pg 77 [.int .i64 (-17), .slice none 0 0] [.a [(.i .i64), (.i .i64)]] w26 fun (r27 : (Int × Int × Unit) × Unit) w28 =>
 st1 w28 b3 0 (.int .i64 r27.1.1) fun w29 =>
 st1 w29 b3 (0 + 1) (.int .i64 r27.1.2.1) fun w30 =>
 ldI w30 .i64 b3 0 fun n31 =>
 ldI w30 .i64 b3 (0 + 1) fun n32 =>
 R [.agg #[.int .i64 n31, .int .i64 n32]] w30) (
 ldI w26 .i64 b1 0 fun n33 =>
 cs ((n33 : Int) == (46 : Int)) (
 dr w26 fun w34 =>
 nn a0 fun b35 o36 =>
 ldP w34 b35 (o36 + 5) fun p37 =>
 nn a0 fun b38 o39 =>
 ldI w34 .i64 b38 (o39 + 12) fun n40 =>
 cl Pg 155 [.pointer p37, .int .i64 (if 0 > (if 9 < n7 then 9 else n7) then 0 else (if 9 < n7 then 9 else n7)), .int .i64 n40] [kI, kI] w34 fun (r41 : Int × Int × Unit) w42 =>
 al w42 3 [.int .i64 r41.1] fun b43 w44 =>
 cl Pg 143 [.pointer a0, .int .i64 0, vS ⟨some ⟨b43, 0, none⟩, 1, 1⟩] [] w44 fun (r45 : Unit) w46 =>
 cl Pg 56 [.pointer a0] [] w46 fun (r47 : Unit) w48 =>
 cl Pg 77 [.int .i64 r41.2.1, .slice none 0 0] [.a [(.i .i64), (.i .i64)]] w48 fun (r49 : (Int × Int × Unit) × Unit) w50 =>
 st1 w50 b3 0 (.int .i64 r49.1.1) fun w51 =>
 st1 w51 b3 (0 + 1) (.int .i64 r49.1.2.1) fun w52 =>
 ldI w52 .i64 b3 0 fun n53 =>
 ldI w52 .i64 b3 (0 + 1) fun n54 =>
 R [.agg #[.int .i64 n53, .int .i64 n54]] w52) (
 nn a0 fun b55 o56 =>
 ldP w26 b55 (o56 + 5) fun p57 =>
 jn [kF] w26 (fun (t59 : Fv × Unit) w60 =>
 nn a0 fun b62 o63 =>
 ldI w60 .i64 b62 (o63 + 12) fun n64 =>
 ob (enterable Pg t59.1.fid = true) (
 cl Pg t59.1.fid (t59.1.pre ++ ([.int .i64 (if 0 > (if 9 < n7 then 9 else n7) then 0 else (if 9 < n7 then 9 else n7)), .int .i64 n64] ++ t59.1.post)) [kB, kI] w60 fun (r65 : Bool × Int × Unit) w66 =>
 jn [kB] w66 (fun (t68 : Bool × Unit) w69 =>
 cs t68.1 (
 cl Pg 56 [.pointer a0] [] w69 fun (r71 : Unit) w72 =>
 cl Pg 77 [.int .i64 r65.2.1, .slice none 0 0] [.a [(.i .i64), (.i .i64)]] w72 fun (r73 : (Int × Int × Unit) × Unit) w74 =>
 st1 w74 b3 0 (.int .i64 r73.1.1) fun w75 =>
 st1 w75 b3 (0 + 1) (.int .i64 r73.1.2.1) fun w76 =>
 ldI w76 .i64 b3 0 fun n77 =>
 ldI w76 .i64 b3 (0 + 1) fun n78 =>
 R [.agg #[.int .i64 n77, .int .i64 n78]] w76) (
 cs ((r13.1 : Int) == (0 : Int)) (
 cl Pg 77 [.int .i64 (-50), .slice none 0 0] [.a [(.i .i64), (.i .i64)]] w69 fun (r79 : (Int × Int × Unit) × Unit) w80 =>
 st1 w80 b3 0 (.int .i64 r79.1.1) fun w81 =>
 st1 w81 b3 (0 + 1) (.int .i64 r79.1.2.1) fun w82 =>
 ldI w82 .i64 b3 0 fun n83 =>
 ldI w82 .i64 b3 (0 + 1) fun n84 =>
 R [.agg #[.int .i64 n83, .int .i64 n84]] w82) (
 cl Pg 138 [.pointer a0, .int .i64 7, .int .i64 (if 0 > (if 9 < n7 then 9 else n7) then 0 else (if 9 < n7 then 9 else n7)), .int .i64 r13.1] [.a [(.i .i64), (.i .i64)]] w69 fun (r85 : (Int × Int × Unit) × Unit) w86 =>
 st1 w86 b3 0 (.int .i64 r85.1.1) fun w87 =>
 st1 w87 b3 (0 + 1) (.int .i64 r85.1.2.1) fun w88 =>
 ldI w88 .i64 b3 0 fun n89 =>
 ldI w88 .i64 b3 (0 + 1) fun n90 =>
 R [.agg #[.int .i64 n89, .int .i64 n90]] w88))) fun J67 w70 =>
 cs r65.1 (
 J67 (true, ()) w70) (
 J67 ((r65.2.1 : Int) != (0 : Int), ()) w70))) fun J58 w61 =>
 cs ((r13.1 : Int) == (0 : Int)) (
 nn a0 fun b91 o92 =>
 ldP w61 b91 (o92 + 5) fun p93 =>
 J58 (⟨65, [.pointer p93], []⟩, ()) w61) (
 J58 (⟨32, [.pointer p57], []⟩, ()) w61))))) fun J15 w18 =>
 cs (decide (((if 0 > (if 9 < n7 then 9 else n7) then 0 else (if 9 < n7 then 9 else n7)) : Int) < (1 : Int))) (
 J15 (true, ()) w18) (
 nn a0 fun b94 o95 =>
 ldI w18 .i64 b94 (o95 + 4) fun n96 =>
 J15 (decide (((if 0 > (if 9 < n7 then 9 else n7) then 0 else (if 9 < n7 then 9 else n7)) : Int) > (n96 : Int)), ()) w18)
theorem tie83 (a0 : Option Addr) (a1 : (Int × Int × Int × Int × Int × Unit)) (R : List Value → World → Prop) (w : World) : compF Pg Tryz.f83 ⟨[(4, ⟨[(9, kF)], [71, 72, 73, 74, 75, 76]⟩)], [], [(8, .l [(0, []), (1, []), (2, []), (3, []), (4, []), (5, []), (6, []), (7, []), (8, []), (9, []), (10, [4, 5, 9, 3, 8, 2, 7, 1, 6, 0]), (11, []), (12, []), (13, []), (14, []), (15, [])])], [(3, [(3, 8, ⟨[(30, kB)], [23, 24, 25, 26, 27, 28, 29]⟩)]), (16, [(2, 3, ⟨[(92, kB)], [90, 91]⟩)])]⟩ [.pointer a0, .agg #[.int .i64 a1.1, .int .i64 a1.2.1, .int .i64 a1.2.2.1, .int .i64 a1.2.2.2.1, .int .i64 a1.2.2.2.2.1]] R w = sh83 a0 a1 R w := by kernel_rfl
theorem call83 {a0 : Option Addr} {a1 : (Int × Int × Int × Int × Int × Unit)} {w : World} {K : TK [.a [(.i .i64), (.i .i64)]] → World → Prop} (h : sh83 a0 a1 (fun vs w' => ∃ t, encK [.a [(.i .i64), (.i .i64)]] t = vs ∧ K t w') w) : cl Pg 83 [.pointer a0, .agg #[.int .i64 a1.1, .int .i64 a1.2.1, .int .i64 a1.2.2.1, .int .i64 a1.2.2.2.1, .int .i64 a1.2.2.2.2.1]] [.a [(.i .i64), (.i .i64)]] w K := cl_of Tryz.func83 (tie83 ..) h
def sh84 (a0 : Option Addr) (a1 : (Int × Int × Int × Int × Int × Unit)) (R : List Value → World → Prop) (w : World) : Prop :=
 al w 97 [.int .i64 a1.1, .int .i64 a1.2.1, .int .i64 a1.2.2.1, .int .i64 a1.2.2.2.1, .int .i64 a1.2.2.2.2.1] fun b1 w2 =>
 al w2 57 [.int .i64 0, .int .i64 0] fun b3 w4 =>
 ixA b1 (0 + 1) 4 0 1 fun b5 o6 =>
 ldI w4 .i64 b5 o6 fun n7 =>
 nn a0 fun b8 o9 =>
 ldS w4 b8 (o9 + 3) fun s10 =>
 cl Pg 72 [vS s10, .int .i64 (if 0 > (if 9 < n7 then 9 else n7) then 0 else (if 9 < n7 then 9 else n7))] [kP, kB] w4 fun (r11 : Option Addr × Bool × Unit) w12 =>
 ldI w12 .i64 b1 0 fun n13 =>
 ldI w12 .i64 b1 (0 + 1) fun n14 =>
 ldI w12 .i64 b1 (0 + 2) fun n15 =>
 ldI w12 .i64 b1 (0 + 3) fun n16 =>
 ldI w12 .i64 b1 (0 + 4) fun n17 =>
 cl Pg 141 [.agg #[.int .i64 n13, .int .i64 n14, .int .i64 n15, .int .i64 n16, .int .i64 n17], .int .i64 48, .int .i64 49] [kI] w12 fun (r18 : Int × Unit) w19 =>
 cs (!r11.2.1) (
 cl Pg 77 [.int .i64 (-18), .slice none 0 0] [.a [(.i .i64), (.i .i64)]] w19 fun (r20 : (Int × Int × Unit) × Unit) w21 =>
 st1 w21 b3 0 (.int .i64 r20.1.1) fun w22 =>
 st1 w22 b3 (0 + 1) (.int .i64 r20.1.2.1) fun w23 =>
 ldI w23 .i64 b3 0 fun n24 =>
 ldI w23 .i64 b3 (0 + 1) fun n25 =>
 R [.agg #[.int .i64 n24, .int .i64 n25]] w23) (
 cl Pg 136 [.int .i64 r18.1] [kB] w19 fun (r26 : Bool × Unit) w27 =>
 cs (!r26.1) (
 cl Pg 77 [.int .i64 (-17), .slice none 0 0] [.a [(.i .i64), (.i .i64)]] w27 fun (r28 : (Int × Int × Unit) × Unit) w29 =>
 st1 w29 b3 0 (.int .i64 r28.1.1) fun w30 =>
 st1 w30 b3 (0 + 1) (.int .i64 r28.1.2.1) fun w31 =>
 ldI w31 .i64 b3 0 fun n32 =>
 ldI w31 .i64 b3 (0 + 1) fun n33 =>
 R [.agg #[.int .i64 n32, .int .i64 n33]] w31) (
 ldI w27 .i64 b1 0 fun n34 =>
 cs ((n34 : Int) == (50 : Int)) (
 ixA b1 (0 + 1) 4 1 1 fun b35 o36 =>
 ldI w27 .i64 b35 o36 fun n37 =>
 cl Pg 156 [.pointer r11.1, .int .i64 n37] [kI, kI] w27 fun (r38 : Int × Int × Unit) w39 =>
 ixA b1 (0 + 1) 4 1 1 fun b40 o41 =>
 ldI w39 .i64 b40 o41 fun n42 =>
 al w39 3 [.int .i64 r38.1] fun b43 w44 =>
 cl Pg 143 [.pointer a0, .int .i64 n42, vS ⟨some ⟨b43, 0, none⟩, 1, 1⟩] [] w44 fun (r45 : Unit) w46 =>
 cl Pg 77 [.int .i64 r38.2.1, .slice none 0 0] [.a [(.i .i64), (.i .i64)]] w46 fun (r47 : (Int × Int × Unit) × Unit) w48 =>
 st1 w48 b3 0 (.int .i64 r47.1.1) fun w49 =>
 st1 w49 b3 (0 + 1) (.int .i64 r47.1.2.1) fun w50 =>
 ldI w50 .i64 b3 0 fun n51 =>
 ldI w50 .i64 b3 (0 + 1) fun n52 =>
 R [.agg #[.int .i64 n51, .int .i64 n52]] w50) (
 cl Pg 157 [.pointer r11.1] [kI, kB] w27 fun (r53 : Int × Bool × Unit) w54 =>
 cs r53.2.1 (
 al w54 2 [.int .i64 r53.1] fun b55 w56 =>
 cl Pg 77 [.int .i64 0, vS ⟨some ⟨b55, 0, none⟩, 1, 1⟩] [.a [(.i .i64), (.i .i64)]] w56 fun (r57 : (Int × Int × Unit) × Unit) w58 =>
 st1 w58 b3 0 (.int .i64 r57.1.1) fun w59 =>
 st1 w59 b3 (0 + 1) (.int .i64 r57.1.2.1) fun w60 =>
 ldI w60 .i64 b3 0 fun n61 =>
 ldI w60 .i64 b3 (0 + 1) fun n62 =>
 R [.agg #[.int .i64 n61, .int .i64 n62]] w60) (
 cs ((r18.1 : Int) == (0 : Int)) (
 cl Pg 77 [.int .i64 (-50), .slice none 0 0] [.a [(.i .i64), (.i .i64)]] w54 fun (r63 : (Int × Int × Unit) × Unit) w65 =>
 st1 w65 b3 0 (.int .i64 r63.1.1) fun w66 =>
 st1 w66 b3 (0 + 1) (.int .i64 r63.1.2.1) fun w67 =>
 ldI w67 .i64 b3 0 fun n68 =>
 ldI w67 .i64 b3 (0 + 1) fun n69 =>
 R [.agg #[.int .i64 n68, .int .i64 n69]] w67) (
 dr w54 fun w70 =>
 nn a0 fun b71 o72 =>
 ldI w70 .i64 b71 (o72 + 12) fun n73 =>
 nn a0 fun b74 o75 =>
 ldP w70 b74 (o75 + 5) fun p76 =>
 nn a0 fun b77 o78 =>
 ldI w70 .i64 b77 (o78 + 12) fun n79 =>
 cl Pg 35 [.pointer p76, .int .i64 n79] [kI] w70 fun (r80 : Int × Unit) w81 =>
(w81.cell? ⟨b71, o72 + 12, none⟩ = some (.int .i64 n73)) ∧ (
 cl Pg 158 [.pointer r11.1, .int .i64 n73, .int .i64 r80.1] [kI, kB, kI] w81 fun (r82 : Int × Bool × Int × Unit) w83 =>
 cl Pg 138 [.pointer a0, .int .i64 8, .int .i64 (if 0 > (if 9 < n7 then 9 else n7) then 0 else (if 9 < n7 then 9 else n7)), .int .i64 r18.1] [.a [(.i .i64), (.i .i64)]] w83 fun (r84 : (Int × Int × Unit) × Unit) w85 =>
 st1 w85 b3 0 (.int .i64 r84.1.1) fun w86 =>
 st1 w86 b3 (0 + 1) (.int .i64 r84.1.2.1) fun w87 =>
 ldI w87 .i64 b3 0 fun n88 =>
 ldI w87 .i64 b3 (0 + 1) fun n89 =>
 R [.agg #[.int .i64 n88, .int .i64 n89]] w87))))))
theorem tie84 (a0 : Option Addr) (a1 : (Int × Int × Int × Int × Int × Unit)) (R : List Value → World → Prop) (w : World) : compF Pg Tryz.f84 ⟨[], [], [(17, .l [(0, []), (1, []), (2, []), (3, []), (4, []), (5, []), (6, []), (7, []), (8, []), (9, []), (10, []), (11, []), (12, []), (13, []), (14, [9, 13, 8, 12, 7, 11, 6, 10, 5]), (15, [0, 4, 14, 3, 9, 13, 2, 8, 12, 1, 7, 11, 6, 10, 5])])], []⟩ [.pointer a0, .agg #[.int .i64 a1.1, .int .i64 a1.2.1, .int .i64 a1.2.2.1, .int .i64 a1.2.2.2.1, .int .i64 a1.2.2.2.2.1]] R w = sh84 a0 a1 R w := by kernel_rfl
theorem call84 {a0 : Option Addr} {a1 : (Int × Int × Int × Int × Int × Unit)} {w : World} {K : TK [.a [(.i .i64), (.i .i64)]] → World → Prop} (h : sh84 a0 a1 (fun vs w' => ∃ t, encK [.a [(.i .i64), (.i .i64)]] t = vs ∧ K t w') w) : cl Pg 84 [.pointer a0, .agg #[.int .i64 a1.1, .int .i64 a1.2.1, .int .i64 a1.2.2.1, .int .i64 a1.2.2.2.1, .int .i64 a1.2.2.2.2.1]] [.a [(.i .i64), (.i .i64)]] w K := cl_of Tryz.func84 (tie84 ..) h
def sh122 (a0 : Int) (a1 : Int) (R : List Value → World → Prop) (w : World) : Prop :=
 R [.int .u64 (Int.tmod (IntKind.u64.wrap (a0 + a1)) 281474976710656)] w
theorem tie122 (a0 : Int) (a1 : Int) (R : List Value → World → Prop) (w : World) : compF Pg Tryz.f122 ⟨[], [], [], []⟩ [.int .u64 a0, .int .u64 a1] R w = sh122 a0 a1 R w := by kernel_rfl
theorem call122 {a0 : Int} {a1 : Int} {w : World} {K : TK [.l (.i .u64)] → World → Prop} (h : sh122 a0 a1 (fun vs w' => ∃ t, encK [.l (.i .u64)] t = vs ∧ K t w') w) : cl Pg 122 [.int .u64 a0, .int .u64 a1] [.l (.i .u64)] w K := cl_of Tryz.func122 (tie122 ..) h
def sh58 (a0 : Option Addr) (R : List Value → World → Prop) (w : World) : Prop :=
 dr w fun w1 =>
 nn a0 fun b2 o3 =>
 ldI w1 .u64 b2 (o3 + 3) fun n4 =>
 nn a0 fun b5 o6 =>
 ldI w1 .u64 b5 (o6 + 2) fun n7 =>
 cl Pg 122 [.int .u64 n4, .int .u64 n7] [.l (.i .u64)] w1 fun (r8 : Int × Unit) w9 =>
 R [.int .u64 r8.1] w9
theorem tie58 (a0 : Option Addr) (R : List Value → World → Prop) (w : World) : compF Pg Tryz.f58 ⟨[], [], [(1, .l [(0, []), (1, []), (2, []), (3, []), (4, []), (5, []), (6, []), (7, []), (8, [3, 7, 2, 6, 1, 5, 0, 4]), (9, [])])], []⟩ [.pointer a0] R w = sh58 a0 R w := by kernel_rfl
theorem call58 {a0 : Option Addr} {w : World} {K : TK [.l (.i .u64)] → World → Prop} (h : sh58 a0 (fun vs w' => ∃ t, encK [.l (.i .u64)] t = vs ∧ K t w') w) : cl Pg 58 [.pointer a0] [.l (.i .u64)] w K := cl_of Tryz.func58 (tie58 ..) h
def sh159 (a0 : Option Addr) (a1 : Int) (R : List Value → World → Prop) (w : World) : Prop :=
 nn a0 fun b1 o2 =>
 ldI w .u64 b1 (o2 + 2) fun n3 =>
 cl Pg 122 [.int .u64 a1, .int .u64 (IntKind.u64.wrap (0 - n3))] [.l (.i .u64)] w fun (r4 : Int × Unit) w5 =>
 nn a0 fun b6 o7 =>
 st1 w5 b6 (o7 + 3) (.int .u64 r4.1) fun w8 =>
 R [] w8
theorem tie159 (a0 : Option Addr) (a1 : Int) (R : List Value → World → Prop) (w : World) : compF Pg Tryz.f159 ⟨[], [], [], []⟩ [.pointer a0, .int .u64 a1] R w = sh159 a0 a1 R w := by kernel_rfl
theorem call159 {a0 : Option Addr} {a1 : Int} {w : World} {K : TK [] → World → Prop} (h : sh159 a0 a1 (fun vs w' => ∃ t, encK [] t = vs ∧ K t w') w) : cl Pg 159 [.pointer a0, .int .u64 a1] [] w K := cl_of Tryz.func159 (tie159 ..) h
def sh85 (a0 : Option Addr) (a1 : (Int × Int × Int × Int × Int × Unit)) (R : List Value → World → Prop) (w : World) : Prop :=
 al w 97 [.int .i64 a1.1, .int .i64 a1.2.1, .int .i64 a1.2.2.1, .int .i64 a1.2.2.2.1, .int .i64 a1.2.2.2.2.1] fun b1 w2 =>
 al w2 57 [.int .i64 0, .int .i64 0] fun b3 w4 =>
 ixA b1 (0 + 1) 4 0 1 fun b5 o6 =>
 ldI w4 .i64 b5 o6 fun n7 =>
 ldI w4 .i64 b1 0 fun n8 =>
 cs ((n8 : Int) == (51 : Int)) (
 ixA b1 (0 + 1) 4 0 1 fun b9 o10 =>
 ldI w4 .i64 b9 o10 fun n11 =>
 jn [kB] w4 (fun (t13 : Bool × Unit) w14 =>
 cs t13.1 (
 cl Pg 77 [.int .i64 (-17), .slice none 0 0] [.a [(.i .i64), (.i .i64)]] w14 fun (r16 : (Int × Int × Unit) × Unit) w17 =>
 st1 w17 b3 0 (.int .i64 r16.1.1) fun w18 =>
 st1 w18 b3 (0 + 1) (.int .i64 r16.1.2.1) fun w19 =>
 ldI w19 .i64 b3 0 fun n20 =>
 ldI w19 .i64 b3 (0 + 1) fun n21 =>
 R [.agg #[.int .i64 n20, .int .i64 n21]] w19) (
 dr w14 fun w22 =>
 nn a0 fun b23 o24 =>
 ldP w22 b23 (o24 + 7) fun p25 =>
 nn p25 fun b26 o27 =>
 ldP w22 b26 o27 fun p28 =>
 ixA b1 (0 + 1) 4 0 1 fun b29 o30 =>
 ldI w22 .i64 b29 o30 fun n31 =>
 cl Pg 159 [.pointer p28, .int .u64 (IntKind.u64.wrap (n31))] [] w22 fun (r32 : Unit) w33 =>
 cl Pg 77 [.int .i64 0, .slice none 0 0] [.a [(.i .i64), (.i .i64)]] w33 fun (r34 : (Int × Int × Unit) × Unit) w35 =>
 st1 w35 b3 0 (.int .i64 r34.1.1) fun w36 =>
 st1 w36 b3 (0 + 1) (.int .i64 r34.1.2.1) fun w37 =>
 ldI w37 .i64 b3 0 fun n38 =>
 ldI w37 .i64 b3 (0 + 1) fun n39 =>
 R [.agg #[.int .i64 n38, .int .i64 n39]] w37)) fun J12 w15 =>
 cs (decide ((n11 : Int) < (0 : Int))) (
 J12 (true, ()) w15) (
 ixA b1 (0 + 1) 4 0 1 fun b40 o41 =>
 ldI w15 .i64 b40 o41 fun n42 =>
 J12 (decide ((n42 : Int) ≥ (281474976710656 : Int)), ()) w15)) (
 cs ((n8 : Int) == (52 : Int)) (
 nn a0 fun b43 o44 =>
 ldP w4 b43 (o44 + 7) fun p45 =>
 nn p45 fun b46 o47 =>
 ldP w4 b46 o47 fun p48 =>
 cl Pg 58 [.pointer p48] [.l (.i .u64)] w4 fun (r49 : Int × Unit) w50 =>
 al w50 2 [.int .i64 (w64 (r49.1))] fun b51 w52 =>
 cl Pg 77 [.int .i64 0, vS ⟨some ⟨b51, 0, none⟩, 1, 1⟩] [.a [(.i .i64), (.i .i64)]] w52 fun (r53 : (Int × Int × Unit) × Unit) w54 =>
 st1 w54 b3 0 (.int .i64 r53.1.1) fun w55 =>
 st1 w55 b3 (0 + 1) (.int .i64 r53.1.2.1) fun w56 =>
 ldI w56 .i64 b3 0 fun n57 =>
 ldI w56 .i64 b3 (0 + 1) fun n58 =>
 R [.agg #[.int .i64 n57, .int .i64 n58]] w56) (
 cs ((n8 : Int) == (53 : Int)) (
 nn a0 fun b59 o60 =>
 ldP w4 b59 (o60 + 7) fun p61 =>
 cl Pg 160 [.pointer p61, .int .i64 (if 0 > (if 9 < n7 then 9 else n7) then 0 else (if 9 < n7 then 9 else n7))] [kI] w4 fun (r62 : Int × Unit) w63 =>
 cl Pg 77 [.int .i64 r62.1, .slice none 0 0] [.a [(.i .i64), (.i .i64)]] w63 fun (r64 : (Int × Int × Unit) × Unit) w65 =>
 st1 w65 b3 0 (.int .i64 r64.1.1) fun w66 =>
 st1 w66 b3 (0 + 1) (.int .i64 r64.1.2.1) fun w67 =>
 ldI w67 .i64 b3 0 fun n68 =>
 ldI w67 .i64 b3 (0 + 1) fun n69 =>
 R [.agg #[.int .i64 n68, .int .i64 n69]] w67) (
 cs ((n8 : Int) == (54 : Int)) (
 nn a0 fun b70 o71 =>
 ldP w4 b70 (o71 + 7) fun p72 =>
 cl Pg 161 [.pointer p72, .int .i64 (if 0 > (if 9 < n7 then 9 else n7) then 0 else (if 9 < n7 then 9 else n7))] [kI] w4 fun (r73 : Int × Unit) w74 =>
 cl Pg 77 [.int .i64 r73.1, .slice none 0 0] [.a [(.i .i64), (.i .i64)]] w74 fun (r75 : (Int × Int × Unit) × Unit) w76 =>
 st1 w76 b3 0 (.int .i64 r75.1.1) fun w77 =>
 st1 w77 b3 (0 + 1) (.int .i64 r75.1.2.1) fun w78 =>
 ldI w78 .i64 b3 0 fun n79 =>
 ldI w78 .i64 b3 (0 + 1) fun n80 =>
 R [.agg #[.int .i64 n79, .int .i64 n80]] w78) (
 cs ((n8 : Int) == (55 : Int)) (
 dr w4 fun w81 =>
 nn a0 fun b82 o83 =>
 ldP w81 b82 (o83 + 7) fun p84 =>
 ixA b1 (0 + 1) 4 1 1 fun b85 o86 =>
 ldI w81 .i64 b85 o86 fun n87 =>
 cl Pg 162 [.pointer p84, .int .i64 (if 0 > (if 9 < n7 then 9 else n7) then 0 else (if 9 < n7 then 9 else n7)), .int .i64 n87] [kI] w81 fun (r88 : Int × Unit) w89 =>
 cl Pg 77 [.int .i64 r88.1, .slice none 0 0] [.a [(.i .i64), (.i .i64)]] w89 fun (r90 : (Int × Int × Unit) × Unit) w91 =>
 st1 w91 b3 0 (.int .i64 r90.1.1) fun w92 =>
 st1 w92 b3 (0 + 1) (.int .i64 r90.1.2.1) fun w93 =>
 ldI w93 .i64 b3 0 fun n94 =>
 ldI w93 .i64 b3 (0 + 1) fun n95 =>
 R [.agg #[.int .i64 n94, .int .i64 n95]] w93) (
 cs ((n8 : Int) == (56 : Int)) (
 nn a0 fun b96 o97 =>
 ldP w4 b96 (o97 + 7) fun p98 =>
 cl Pg 163 [.pointer p98, .int .i64 (if 0 > (if 9 < n7 then 9 else n7) then 0 else (if 9 < n7 then 9 else n7))] [kI] w4 fun (r99 : Int × Unit) w100 =>
 cl Pg 77 [.int .i64 r99.1, .slice none 0 0] [.a [(.i .i64), (.i .i64)]] w100 fun (r101 : (Int × Int × Unit) × Unit) w102 =>
 st1 w102 b3 0 (.int .i64 r101.1.1) fun w103 =>
 st1 w103 b3 (0 + 1) (.int .i64 r101.1.2.1) fun w104 =>
 ldI w104 .i64 b3 0 fun n105 =>
 ldI w104 .i64 b3 (0 + 1) fun n106 =>
 R [.agg #[.int .i64 n105, .int .i64 n106]] w104) (
 cl Pg 77 [.int .i64 0, .slice none 0 0] [.a [(.i .i64), (.i .i64)]] w4 fun (r107 : (Int × Int × Unit) × Unit) w108 =>
 st1 w108 b3 0 (.int .i64 r107.1.1) fun w109 =>
 st1 w109 b3 (0 + 1) (.int .i64 r107.1.2.1) fun w110 =>
 ldI w110 .i64 b3 0 fun n111 =>
 ldI w110 .i64 b3 (0 + 1) fun n112 =>
 R [.agg #[.int .i64 n111, .int .i64 n112]] w110))))))
theorem tie85 (a0 : Option Addr) (a1 : (Int × Int × Int × Int × Int × Unit)) (R : List Value → World → Prop) (w : World) : compF Pg Tryz.f85 ⟨[], [], [(6, .l [(0, []), (1, []), (2, []), (3, []), (4, []), (5, []), (6, []), (7, []), (8, []), (9, []), (10, []), (11, [6, 10, 5, 9, 4, 8, 3, 7, 2, 1, 0])]), (14, .l [(0, []), (1, []), (2, []), (3, []), (4, []), (5, []), (6, []), (7, []), (8, [3, 4, 7, 2, 6, 1, 5, 0]), (9, [8, 3, 4, 7, 2, 6, 1, 5, 0]), (10, [9, 0, 1, 2, 3, 4, 5, 6, 7, 8])])], [(4, [(5, 5, ⟨[(24, kB)], [20, 21, 22, 23]⟩)])]⟩ [.pointer a0, .agg #[.int .i64 a1.1, .int .i64 a1.2.1, .int .i64 a1.2.2.1, .int .i64 a1.2.2.2.1, .int .i64 a1.2.2.2.2.1]] R w = sh85 a0 a1 R w := by kernel_rfl
theorem call85 {a0 : Option Addr} {a1 : (Int × Int × Int × Int × Int × Unit)} {w : World} {K : TK [.a [(.i .i64), (.i .i64)]] → World → Prop} (h : sh85 a0 a1 (fun vs w' => ∃ t, encK [.a [(.i .i64), (.i .i64)]] t = vs ∧ K t w') w) : cl Pg 85 [.pointer a0, .agg #[.int .i64 a1.1, .int .i64 a1.2.1, .int .i64 a1.2.2.1, .int .i64 a1.2.2.2.1, .int .i64 a1.2.2.2.2.1]] [.a [(.i .i64), (.i .i64)]] w K := cl_of Tryz.func85 (tie85 ..) h
def sh164 (a0 : Bool) (R : List Value → World → Prop) (w : World) : Prop :=
 al w 57 [.int .i64 0, .int .i64 0] fun b1 w2 =>
 cs a0 (
 al w2 2 [.int .i64 1] fun b3 w4 =>
 cl Pg 77 [.int .i64 0, vS ⟨some ⟨b3, 0, none⟩, 1, 1⟩] [.a [(.i .i64), (.i .i64)]] w4 fun (r5 : (Int × Int × Unit) × Unit) w6 =>
 st1 w6 b1 0 (.int .i64 r5.1.1) fun w7 =>
 st1 w7 b1 (0 + 1) (.int .i64 r5.1.2.1) fun w8 =>
 ldI w8 .i64 b1 0 fun n9 =>
 ldI w8 .i64 b1 (0 + 1) fun n10 =>
 R [.agg #[.int .i64 n9, .int .i64 n10]] w8) (
 cl Pg 77 [.int .i64 0, .slice none 0 0] [.a [(.i .i64), (.i .i64)]] w2 fun (r11 : (Int × Int × Unit) × Unit) w12 =>
 st1 w12 b1 0 (.int .i64 r11.1.1) fun w13 =>
 st1 w13 b1 (0 + 1) (.int .i64 r11.1.2.1) fun w14 =>
 ldI w14 .i64 b1 0 fun n15 =>
 ldI w14 .i64 b1 (0 + 1) fun n16 =>
 R [.agg #[.int .i64 n15, .int .i64 n16]] w14)
theorem tie164 (a0 : Bool) (R : List Value → World → Prop) (w : World) : compF Pg Tryz.f164 ⟨[], [], [], []⟩ [.bool a0] R w = sh164 a0 R w := by kernel_rfl
theorem call164 {a0 : Bool} {w : World} {K : TK [.a [(.i .i64), (.i .i64)]] → World → Prop} (h : sh164 a0 (fun vs w' => ∃ t, encK [.a [(.i .i64), (.i .i64)]] t = vs ∧ K t w') w) : cl Pg 164 [.bool a0] [.a [(.i .i64), (.i .i64)]] w K := cl_of Tryz.func164 (tie164 ..) h
def sh86 (a0 : Option Addr) (a1 : (Int × Int × Int × Int × Int × Unit)) (R : List Value → World → Prop) (w : World) : Prop :=
 al w 97 [.int .i64 a1.1, .int .i64 a1.2.1, .int .i64 a1.2.2.1, .int .i64 a1.2.2.2.1, .int .i64 a1.2.2.2.2.1] fun b1 w2 =>
 al w2 57 [.int .i64 0, .int .i64 0] fun b3 w4 =>
 ldI w4 .i64 b1 0 fun n5 =>
 jn [kB] w4 (fun (t7 : Bool × Unit) w8 =>
 cs t7.1 (
 dr w8 fun w10 =>
 nn a0 fun b11 o12 =>
 ldP w10 b11 (o12 + 6) fun p13 =>
 ldI w10 .i64 b1 0 fun n14 =>
 cl Pg 131 [.pointer p13, .bool ((n14 : Int) == (57 : Int))] [] w10 fun (r15 : Unit) w16 =>
 cl Pg 77 [.int .i64 0, .slice none 0 0] [.a [(.i .i64), (.i .i64)]] w16 fun (r17 : (Int × Int × Unit) × Unit) w18 =>
 st1 w18 b3 0 (.int .i64 r17.1.1) fun w19 =>
 st1 w19 b3 (0 + 1) (.int .i64 r17.1.2.1) fun w20 =>
 ldI w20 .i64 b3 0 fun n21 =>
 ldI w20 .i64 b3 (0 + 1) fun n22 =>
 R [.agg #[.int .i64 n21, .int .i64 n22]] w20) (
 jn [kB] w8 (fun (t24 : Bool × Unit) w25 =>
 cs t24.1 (
 dr w25 fun w27 =>
 nn a0 fun b28 o29 =>
 ldP w27 b28 (o29 + 6) fun p30 =>
 ldI w27 .i64 b1 0 fun n31 =>
 cl Pg 132 [.pointer p30, .bool ((n31 : Int) == (59 : Int))] [] w27 fun (r32 : Unit) w33 =>
 cl Pg 77 [.int .i64 0, .slice none 0 0] [.a [(.i .i64), (.i .i64)]] w33 fun (r34 : (Int × Int × Unit) × Unit) w35 =>
 st1 w35 b3 0 (.int .i64 r34.1.1) fun w36 =>
 st1 w36 b3 (0 + 1) (.int .i64 r34.1.2.1) fun w37 =>
 ldI w37 .i64 b3 0 fun n38 =>
 ldI w37 .i64 b3 (0 + 1) fun n39 =>
 R [.agg #[.int .i64 n38, .int .i64 n39]] w37) (
 cs ((n5 : Int) == (61 : Int)) (
 nn a0 fun b40 o41 =>
 ldP w25 b40 (o41 + 6) fun p42 =>
 nn p42 fun b43 o44 =>
 cl Pg 128 [.pointer (some ⟨b43, o44, none⟩)] [kB] w25 fun (r45 : Bool × Unit) w46 =>
 cl Pg 164 [.bool r45.1] [.a [(.i .i64), (.i .i64)]] w46 fun (r47 : (Int × Int × Unit) × Unit) w48 =>
 st1 w48 b3 0 (.int .i64 r47.1.1) fun w49 =>
 st1 w49 b3 (0 + 1) (.int .i64 r47.1.2.1) fun w50 =>
 ldI w50 .i64 b3 0 fun n51 =>
 ldI w50 .i64 b3 (0 + 1) fun n52 =>
 R [.agg #[.int .i64 n51, .int .i64 n52]] w50) (
 cs ((n5 : Int) == (62 : Int)) (
 nn a0 fun b53 o54 =>
 ldP w25 b53 (o54 + 6) fun p55 =>
 nn p55 fun b56 o57 =>
 cl Pg 165 [.pointer (some ⟨b56, o57, none⟩)] [kB] w25 fun (r58 : Bool × Unit) w59 =>
 cl Pg 164 [.bool r58.1] [.a [(.i .i64), (.i .i64)]] w59 fun (r60 : (Int × Int × Unit) × Unit) w61 =>
 st1 w61 b3 0 (.int .i64 r60.1.1) fun w62 =>
 st1 w62 b3 (0 + 1) (.int .i64 r60.1.2.1) fun w63 =>
 ldI w63 .i64 b3 0 fun n64 =>
 ldI w63 .i64 b3 (0 + 1) fun n65 =>
 R [.agg #[.int .i64 n64, .int .i64 n65]] w63) (
 cs ((n5 : Int) == (63 : Int)) (
 nn a0 fun b66 o67 =>
 ldP w25 b66 (o67 + 6) fun p68 =>
 nn p68 fun b69 o70 =>
 cl Pg 166 [.pointer (some ⟨b69, o70, none⟩)] [kB] w25 fun (r71 : Bool × Unit) w72 =>
 cl Pg 164 [.bool r71.1] [.a [(.i .i64), (.i .i64)]] w72 fun (r73 : (Int × Int × Unit) × Unit) w74 =>
 st1 w74 b3 0 (.int .i64 r73.1.1) fun w75 =>
 st1 w75 b3 (0 + 1) (.int .i64 r73.1.2.1) fun w76 =>
 ldI w76 .i64 b3 0 fun n77 =>
 ldI w76 .i64 b3 (0 + 1) fun n78 =>
 R [.agg #[.int .i64 n77, .int .i64 n78]] w76) (
 cs ((n5 : Int) == (64 : Int)) (
 nn a0 fun b79 o80 =>
 ldP w25 b79 (o80 + 6) fun p81 =>
 nn p81 fun b82 o83 =>
 cl Pg 120 [.pointer (some ⟨b82, o83, none⟩)] [kB] w25 fun (r84 : Bool × Unit) w85 =>
 cl Pg 164 [.bool (!r84.1)] [.a [(.i .i64), (.i .i64)]] w85 fun (r86 : (Int × Int × Unit) × Unit) w87 =>
 st1 w87 b3 0 (.int .i64 r86.1.1) fun w88 =>
 st1 w88 b3 (0 + 1) (.int .i64 r86.1.2.1) fun w89 =>
 ldI w89 .i64 b3 0 fun n90 =>
 ldI w89 .i64 b3 (0 + 1) fun n91 =>
 R [.agg #[.int .i64 n90, .int .i64 n91]] w89) (
 cl Pg 77 [.int .i64 0, .slice none 0 0] [.a [(.i .i64), (.i .i64)]] w25 fun (r92 : (Int × Int × Unit) × Unit) w93 =>
 st1 w93 b3 0 (.int .i64 r92.1.1) fun w94 =>
 st1 w94 b3 (0 + 1) (.int .i64 r92.1.2.1) fun w95 =>
 ldI w95 .i64 b3 0 fun n96 =>
 ldI w95 .i64 b3 (0 + 1) fun n97 =>
 R [.agg #[.int .i64 n96, .int .i64 n97]] w95)))))) fun J23 w26 =>
 cs ((n5 : Int) == (59 : Int)) (
 J23 (true, ()) w26) (
 J23 ((n5 : Int) == (60 : Int), ()) w26))) fun J6 w9 =>
 cs ((n5 : Int) == (57 : Int)) (
 J6 (true, ()) w9) (
 J6 ((n5 : Int) == (58 : Int), ()) w9)
theorem tie86 (a0 : Option Addr) (a1 : (Int × Int × Int × Int × Int × Unit)) (R : List Value → World → Prop) (w : World) : compF Pg Tryz.f86 ⟨[(1, ⟨[(7, kB)], [9]⟩), (3, ⟨[(18, kB)], [20]⟩)], [], [(4, .l [(0, []), (1, []), (2, []), (3, []), (4, []), (5, []), (6, []), (7, [3, 6, 2, 5, 1, 4, 0])]), (7, .l [(0, []), (1, []), (2, []), (3, []), (4, []), (5, []), (6, []), (7, [3, 6, 2, 5, 1, 4, 0])])], []⟩ [.pointer a0, .agg #[.int .i64 a1.1, .int .i64 a1.2.1, .int .i64 a1.2.2.1, .int .i64 a1.2.2.2.1, .int .i64 a1.2.2.2.2.1]] R w = sh86 a0 a1 R w := by kernel_rfl
theorem call86 {a0 : Option Addr} {a1 : (Int × Int × Int × Int × Int × Unit)} {w : World} {K : TK [.a [(.i .i64), (.i .i64)]] → World → Prop} (h : sh86 a0 a1 (fun vs w' => ∃ t, encK [.a [(.i .i64), (.i .i64)]] t = vs ∧ K t w') w) : cl Pg 86 [.pointer a0, .agg #[.int .i64 a1.1, .int .i64 a1.2.1, .int .i64 a1.2.2.1, .int .i64 a1.2.2.2.1, .int .i64 a1.2.2.2.2.1]] [.a [(.i .i64), (.i .i64)]] w K := cl_of Tryz.func86 (tie86 ..) h
def sh41 (a0 : Option Addr) (a1 : (Int × Int × Int × Int × Int × Unit)) (R : List Value → World → Prop) (w : World) : Prop :=
 al w 97 [.int .i64 a1.1, .int .i64 a1.2.1, .int .i64 a1.2.2.1, .int .i64 a1.2.2.2.1, .int .i64 a1.2.2.2.2.1] fun b1 w2 =>
 al w2 57 [.int .i64 0, .int .i64 0] fun b3 w4 =>
 ldI w4 .i64 b1 0 fun n5 =>
 cl Pg 76 [.int .i64 n5] [kB] w4 fun (r6 : Bool × Unit) w7 =>
 cs (!r6.1) (
 cl Pg 77 [.int .i64 (-10), .slice none 0 0] [.a [(.i .i64), (.i .i64)]] w7 fun (r8 : (Int × Int × Unit) × Unit) w9 =>
 st1 w9 b3 0 (.int .i64 r8.1.1) fun w10 =>
 st1 w10 b3 (0 + 1) (.int .i64 r8.1.2.1) fun w11 =>
 ldI w11 .i64 b3 0 fun n12 =>
 ldI w11 .i64 b3 (0 + 1) fun n13 =>
 R [.agg #[.int .i64 n12, .int .i64 n13]] w11) (
 dr w7 fun w14 =>
 nn a0 fun b15 o16 =>
 ldP w14 b15 (o16 + 6) fun p17 =>
 ldI w14 .i64 b1 0 fun n18 =>
 ldI w14 .i64 b1 (0 + 1) fun n19 =>
 ldI w14 .i64 b1 (0 + 2) fun n20 =>
 ldI w14 .i64 b1 (0 + 3) fun n21 =>
 ldI w14 .i64 b1 (0 + 4) fun n22 =>
 nn a0 fun b23 o24 =>
 ldI w14 .i64 b23 (o24 + 12) fun n25 =>
 cl Pg 42 [.agg #[.int .i64 n18, .int .i64 n19, .int .i64 n20, .int .i64 n21, .int .i64 n22]] [kI] w14 fun (r26 : Int × Unit) w27 =>
(w27.cell? ⟨b23, o24 + 12, none⟩ = some (.int .i64 n25)) ∧ (
(w27.cell? ⟨b15, o16 + 6, none⟩ = some (.pointer p17)) ∧ (
 cl Pg 78 [.pointer p17, .int .i64 r26.1, .bool ((n25 : Int) == (0 : Int))] [kI] w27 fun (r28 : Int × Unit) w29 =>
 cs ((r28.1 : Int) != (0 : Int)) (
 cl Pg 77 [.int .i64 r28.1, .slice none 0 0] [.a [(.i .i64), (.i .i64)]] w29 fun (r30 : (Int × Int × Unit) × Unit) w31 =>
 st1 w31 b3 0 (.int .i64 r30.1.1) fun w32 =>
 st1 w32 b3 (0 + 1) (.int .i64 r30.1.2.1) fun w33 =>
 ldI w33 .i64 b3 0 fun n34 =>
 ldI w33 .i64 b3 (0 + 1) fun n35 =>
 R [.agg #[.int .i64 n34, .int .i64 n35]] w33) (
 al w29 57 [.int .i64 0, .int .i64 0] fun b36 w37 =>
 ldI w37 .i64 b1 0 fun n38 =>
 jn [] w37 (fun (t40 : Unit) w41 =>
 cl Pg 57 [.pointer a0] [] w41 fun (r43 : Unit) w44 =>
 ldI w44 .i64 b36 0 fun n45 =>
 ldI w44 .i64 b36 (0 + 1) fun n46 =>
 st1 w44 b3 0 (.int .i64 n45) fun w47 =>
 st1 w47 b3 (0 + 1) (.int .i64 n46) fun w48 =>
 ldI w48 .i64 b3 0 fun n49 =>
 ldI w48 .i64 b3 (0 + 1) fun n50 =>
 R [.agg #[.int .i64 n49, .int .i64 n50]] w48) fun J39 w42 =>
 cs (decide ((n38 : Int) ≤ (22 : Int))) (
 ldI w42 .i64 b1 0 fun n51 =>
 ldI w42 .i64 b1 (0 + 1) fun n52 =>
 ldI w42 .i64 b1 (0 + 2) fun n53 =>
 ldI w42 .i64 b1 (0 + 3) fun n54 =>
 ldI w42 .i64 b1 (0 + 4) fun n55 =>
 cl Pg 79 [.pointer a0, .agg #[.int .i64 n51, .int .i64 n52, .int .i64 n53, .int .i64 n54, .int .i64 n55]] [.a [(.i .i64), (.i .i64)]] w42 fun (r56 : (Int × Int × Unit) × Unit) w57 =>
 st1 w57 b36 0 (.int .i64 r56.1.1) fun w58 =>
 st1 w58 b36 (0 + 1) (.int .i64 r56.1.2.1) fun w59 =>
 J39 () w59) (
 ldI w42 .i64 b1 0 fun n60 =>
 jn [] w42 (fun (t62 : Unit) w63 =>
 J39 () w63) fun J61 w65 =>
 cs (decide ((n60 : Int) ≤ (27 : Int))) (
 ldI w65 .i64 b1 0 fun n66 =>
 ldI w65 .i64 b1 (0 + 1) fun n67 =>
 ldI w65 .i64 b1 (0 + 2) fun n68 =>
 ldI w65 .i64 b1 (0 + 3) fun n69 =>
 ldI w65 .i64 b1 (0 + 4) fun n70 =>
 cl Pg 80 [.pointer a0, .agg #[.int .i64 n66, .int .i64 n67, .int .i64 n68, .int .i64 n69, .int .i64 n70]] [.a [(.i .i64), (.i .i64)]] w65 fun (r71 : (Int × Int × Unit) × Unit) w72 =>
 st1 w72 b36 0 (.int .i64 r71.1.1) fun w73 =>
 st1 w73 b36 (0 + 1) (.int .i64 r71.1.2.1) fun w74 =>
 J61 () w74) (
 ldI w65 .i64 b1 0 fun n75 =>
 jn [] w65 (fun (t77 : Unit) w78 =>
 J61 () w78) fun J76 w79 =>
 cs (decide ((n75 : Int) ≤ (33 : Int))) (
 ldI w79 .i64 b1 0 fun n80 =>
 ldI w79 .i64 b1 (0 + 1) fun n81 =>
 ldI w79 .i64 b1 (0 + 2) fun n82 =>
 ldI w79 .i64 b1 (0 + 3) fun n83 =>
 ldI w79 .i64 b1 (0 + 4) fun n84 =>
 cl Pg 81 [.pointer a0, .agg #[.int .i64 n80, .int .i64 n81, .int .i64 n82, .int .i64 n83, .int .i64 n84]] [.a [(.i .i64), (.i .i64)]] w79 fun (r85 : (Int × Int × Unit) × Unit) w86 =>
 st1 w86 b36 0 (.int .i64 r85.1.1) fun w87 =>
 st1 w87 b36 (0 + 1) (.int .i64 r85.1.2.1) fun w88 =>
 J76 () w88) (
 ldI w79 .i64 b1 0 fun n89 =>
 jn [] w79 (fun (t91 : Unit) w92 =>
 J76 () w92) fun J90 w93 =>
 cs (decide ((n89 : Int) ≤ (42 : Int))) (
 ldI w93 .i64 b1 0 fun n94 =>
 ldI w93 .i64 b1 (0 + 1) fun n95 =>
 ldI w93 .i64 b1 (0 + 2) fun n96 =>
 ldI w93 .i64 b1 (0 + 3) fun n97 =>
 ldI w93 .i64 b1 (0 + 4) fun n98 =>
 cl Pg 82 [.pointer a0, .agg #[.int .i64 n94, .int .i64 n95, .int .i64 n96, .int .i64 n97, .int .i64 n98]] [.a [(.i .i64), (.i .i64)]] w93 fun (r99 : (Int × Int × Unit) × Unit) w100 =>
 st1 w100 b36 0 (.int .i64 r99.1.1) fun w101 =>
 st1 w101 b36 (0 + 1) (.int .i64 r99.1.2.1) fun w102 =>
 J90 () w102) (
 ldI w93 .i64 b1 0 fun n103 =>
 jn [] w93 (fun (t105 : Unit) w106 =>
 J90 () w106) fun J104 w107 =>
 cs (decide ((n103 : Int) ≤ (46 : Int))) (
 ldI w107 .i64 b1 0 fun n108 =>
 ldI w107 .i64 b1 (0 + 1) fun n109 =>
 ldI w107 .i64 b1 (0 + 2) fun n110 =>
 ldI w107 .i64 b1 (0 + 3) fun n111 =>
 ldI w107 .i64 b1 (0 + 4) fun n112 =>
 cl Pg 83 [.pointer a0, .agg #[.int .i64 n108, .int .i64 n109, .int .i64 n110, .int .i64 n111, .int .i64 n112]] [.a [(.i .i64), (.i .i64)]] w107 fun (r113 : (Int × Int × Unit) × Unit) w114 =>
 st1 w114 b36 0 (.int .i64 r113.1.1) fun w115 =>
 st1 w115 b36 (0 + 1) (.int .i64 r113.1.2.1) fun w116 =>
 J104 () w116) (
 ldI w107 .i64 b1 0 fun n117 =>
 jn [] w107 (fun (t119 : Unit) w120 =>
 J104 () w120) fun J118 w121 =>
 cs (decide ((n117 : Int) ≤ (50 : Int))) (
 ldI w121 .i64 b1 0 fun n122 =>
 ldI w121 .i64 b1 (0 + 1) fun n123 =>
 ldI w121 .i64 b1 (0 + 2) fun n124 =>
 ldI w121 .i64 b1 (0 + 3) fun n125 =>
 ldI w121 .i64 b1 (0 + 4) fun n126 =>
 cl Pg 84 [.pointer a0, .agg #[.int .i64 n122, .int .i64 n123, .int .i64 n124, .int .i64 n125, .int .i64 n126]] [.a [(.i .i64), (.i .i64)]] w121 fun (r127 : (Int × Int × Unit) × Unit) w128 =>
 st1 w128 b36 0 (.int .i64 r127.1.1) fun w129 =>
 st1 w129 b36 (0 + 1) (.int .i64 r127.1.2.1) fun w130 =>
 J118 () w130) (
 ldI w121 .i64 b1 0 fun n131 =>
 jn [] w121 (fun (t133 : Unit) w134 =>
 J118 () w134) fun J132 w135 =>
 cs (decide ((n131 : Int) ≤ (56 : Int))) (
 ldI w135 .i64 b1 0 fun n136 =>
 ldI w135 .i64 b1 (0 + 1) fun n137 =>
 ldI w135 .i64 b1 (0 + 2) fun n138 =>
 ldI w135 .i64 b1 (0 + 3) fun n139 =>
 ldI w135 .i64 b1 (0 + 4) fun n140 =>
 cl Pg 85 [.pointer a0, .agg #[.int .i64 n136, .int .i64 n137, .int .i64 n138, .int .i64 n139, .int .i64 n140]] [.a [(.i .i64), (.i .i64)]] w135 fun (r141 : (Int × Int × Unit) × Unit) w142 =>
 st1 w142 b36 0 (.int .i64 r141.1.1) fun w143 =>
 st1 w143 b36 (0 + 1) (.int .i64 r141.1.2.1) fun w144 =>
 J132 () w144) (
 ldI w135 .i64 b1 0 fun n145 =>
 ldI w135 .i64 b1 (0 + 1) fun n146 =>
 ldI w135 .i64 b1 (0 + 2) fun n147 =>
 ldI w135 .i64 b1 (0 + 3) fun n148 =>
 ldI w135 .i64 b1 (0 + 4) fun n149 =>
 cl Pg 86 [.pointer a0, .agg #[.int .i64 n145, .int .i64 n146, .int .i64 n147, .int .i64 n148, .int .i64 n149]] [.a [(.i .i64), (.i .i64)]] w135 fun (r150 : (Int × Int × Unit) × Unit) w151 =>
 st1 w151 b36 0 (.int .i64 r150.1.1) fun w152 =>
 st1 w152 b36 (0 + 1) (.int .i64 r150.1.2.1) fun w153 =>
 J132 () w153)))))))))))
theorem tie41 (a0 : Option Addr) (a1 : (Int × Int × Int × Int × Int × Unit)) (R : List Value → World → Prop) (w : World) : compF Pg Tryz.f41 ⟨[(3, ⟨[], [28, 29, 30, 35, 36, 37, 38, 39, 40, 41, 42, 43, 44, 45, 46, 47, 48, 49, 50, 51, 52, 53, 54, 55, 56, 57, 58, 59, 60, 61, 62, 63, 64, 65, 66, 67, 68, 69, 70, 71, 72, 73, 74, 75, 76, 77, 78, 79]⟩), (4, ⟨[], [28, 29, 30, 42, 43, 44, 45, 46, 47, 48, 49, 50, 51, 52, 53, 54, 55, 56, 57, 58, 59, 60, 61, 62, 63, 64, 65, 66, 67, 68, 69, 70, 71, 72, 73, 74, 75, 76, 77, 78, 79]⟩), (5, ⟨[], [28, 29, 30, 49, 50, 51, 52, 53, 54, 55, 56, 57, 58, 59, 60, 61, 62, 63, 64, 65, 66, 67, 68, 69, 70, 71, 72, 73, 74, 75, 76, 77, 78, 79]⟩), (6, ⟨[], [28, 29, 30, 56, 57, 58, 59, 60, 61, 62, 63, 64, 65, 66, 67, 68, 69, 70, 71, 72, 73, 74, 75, 76, 77, 78, 79]⟩), (7, ⟨[], [28, 29, 30, 63, 64, 65, 66, 67, 68, 69, 70, 71, 72, 73, 74, 75, 76, 77, 78, 79]⟩), (8, ⟨[], [28, 29, 30, 70, 71, 72, 73, 74, 75, 76, 77, 78, 79]⟩), (9, ⟨[], [28, 29, 30, 77, 78, 79]⟩)], [], [(3, .l [(0, []), (1, []), (2, []), (3, []), (4, []), (6, []), (7, []), (8, []), (9, []), (10, []), (5, [4]), (11, [3, 5, 10, 2, 4, 9, 1, 8, 0, 7, 6]), (12, [])])], []⟩ [.pointer a0, .agg #[.int .i64 a1.1, .int .i64 a1.2.1, .int .i64 a1.2.2.1, .int .i64 a1.2.2.2.1, .int .i64 a1.2.2.2.2.1]] R w = sh41 a0 a1 R w := by kernel_rfl
theorem call41 {a0 : Option Addr} {a1 : (Int × Int × Int × Int × Int × Unit)} {w : World} {K : TK [.a [(.i .i64), (.i .i64)]] → World → Prop} (h : sh41 a0 a1 (fun vs w' => ∃ t, encK [.a [(.i .i64), (.i .i64)]] t = vs ∧ K t w') w) : cl Pg 41 [.pointer a0, .agg #[.int .i64 a1.1, .int .i64 a1.2.1, .int .i64 a1.2.2.1, .int .i64 a1.2.2.2.1, .int .i64 a1.2.2.2.2.1]] [.a [(.i .i64), (.i .i64)]] w K := cl_of Tryz.func41 (tie41 ..) h
def sh52 (a0 : Int) (a1 : Sl) (R : List Value → World → Prop) (w : World) : Prop :=
 al w 97 [.int .i64 0, .int .i64 0, .int .i64 0, .int .i64 0, .int .i64 0] fun b1 w2 =>
 al w2 97 [.int .i64 0, .int .i64 0, .int .i64 0, .int .i64 0, .int .i64 0] fun b3 w4 =>
 st1 w4 b3 0 (.int .i64 a0) fun w5 =>
 st1 w5 b3 (0 + 1) (.int .i64 0) fun w6 =>
 st1 w6 b3 (0 + 2) (.int .i64 0) fun w7 =>
 st1 w7 b3 (0 + 3) (.int .i64 0) fun w8 =>
 st1 w8 b3 (0 + 4) (.int .i64 0) fun w9 =>
 ef Pg (Builtin.copy_ #[39, 39] 3 #[vS ⟨some ⟨b3, 0 + 1, none⟩, 4, 4⟩, vS a1]) [kI] w9 fun (r10 : Int × Unit) w11 =>
 ldI w11 .i64 b3 0 fun n12 =>
 ldI w11 .i64 b3 (0 + 1) fun n13 =>
 ldI w11 .i64 b3 (0 + 2) fun n14 =>
 ldI w11 .i64 b3 (0 + 3) fun n15 =>
 ldI w11 .i64 b3 (0 + 4) fun n16 =>
 st1 w11 b1 0 (.int .i64 n12) fun w17 =>
 st1 w17 b1 (0 + 1) (.int .i64 n13) fun w18 =>
 st1 w18 b1 (0 + 2) (.int .i64 n14) fun w19 =>
 st1 w19 b1 (0 + 3) (.int .i64 n15) fun w20 =>
 st1 w20 b1 (0 + 4) (.int .i64 n16) fun w21 =>
 ldI w21 .i64 b1 0 fun n22 =>
 ldI w21 .i64 b1 (0 + 1) fun n23 =>
 ldI w21 .i64 b1 (0 + 2) fun n24 =>
 ldI w21 .i64 b1 (0 + 3) fun n25 =>
 ldI w21 .i64 b1 (0 + 4) fun n26 =>
 R [.agg #[.int .i64 n22, .int .i64 n23, .int .i64 n24, .int .i64 n25, .int .i64 n26]] w21
theorem tie52 (a0 : Int) (a1 : Sl) (R : List Value → World → Prop) (w : World) : compF Pg Tryz.f52 ⟨[], [], [], []⟩ [.int .i64 a0, vS a1] R w = sh52 a0 a1 R w := by kernel_rfl
theorem call52 {a0 : Int} {a1 : Sl} {w : World} {K : TK [.a [(.i .i64), (.i .i64), (.i .i64), (.i .i64), (.i .i64)]] → World → Prop} (h : sh52 a0 a1 (fun vs w' => ∃ t, encK [.a [(.i .i64), (.i .i64), (.i .i64), (.i .i64), (.i .i64)]] t = vs ∧ K t w') w) : cl Pg 52 [.int .i64 a0, vS a1] [.a [(.i .i64), (.i .i64), (.i .i64), (.i .i64), (.i .i64)]] w K := cl_of Tryz.func52 (tie52 ..) h
def sh20 (a0 : Option Addr) (a1 : Int) (a2 : Sl) (R : List Value → World → Prop) (w : World) : Prop :=
 cl Pg 52 [.int .i64 a1, vS a2] [.a [(.i .i64), (.i .i64), (.i .i64), (.i .i64), (.i .i64)]] w fun (r1 : (Int × Int × Int × Int × Int × Unit) × Unit) w2 =>
 cl Pg 41 [.pointer a0, .agg #[.int .i64 r1.1.1, .int .i64 r1.1.2.1, .int .i64 r1.1.2.2.1, .int .i64 r1.1.2.2.2.1, .int .i64 r1.1.2.2.2.2.1]] [.a [(.i .i64), (.i .i64)]] w2 fun (r3 : (Int × Int × Unit) × Unit) w4 =>
 al w4 57 [.int .i64 0, .int .i64 0] fun b5 w6 =>
 st1 w6 b5 0 (.int .i64 r3.1.1) fun w7 =>
 st1 w7 b5 (0 + 1) (.int .i64 r3.1.2.1) fun w8 =>
 dr w8 fun w9 =>
 ldI w9 .i64 b5 0 fun n10 =>
 ldI w9 .i64 b5 (0 + 1) fun n11 =>
 R [.int .i64 n10, .int .i64 n11] w9
theorem tie20 (a0 : Option Addr) (a1 : Int) (a2 : Sl) (R : List Value → World → Prop) (w : World) : compF Pg Tryz.f20 ⟨[], [], [(2, .l [(0, []), (1, []), (2, []), (3, []), (4, []), (5, [])])], []⟩ [.pointer a0, .int .i64 a1, vS a2] R w = sh20 a0 a1 a2 R w := by kernel_rfl
theorem call20 {a0 : Option Addr} {a1 : Int} {a2 : Sl} {w : World} {K : TK [kI, kI] → World → Prop} (h : sh20 a0 a1 a2 (fun vs w' => ∃ t, encK [kI, kI] t = vs ∧ K t w') w) : cl Pg 20 [.pointer a0, .int .i64 a1, vS a2] [kI, kI] w K := cl_of Tryz.func20 (tie20 ..) h
def sh21 (a0 : Option Addr) (R : List Value → World → Prop) (w : World) : Prop :=
 nn a0 fun b1 o2 =>
 ldI w .i64 b1 (o2 + 12) fun n3 =>
 R [.int .i64 n3] w
theorem tie21 (a0 : Option Addr) (R : List Value → World → Prop) (w : World) : compF Pg Tryz.f21 ⟨[], [], [], []⟩ [.pointer a0] R w = sh21 a0 R w := by kernel_rfl
theorem call21 {a0 : Option Addr} {w : World} {K : TK [kI] → World → Prop} (h : sh21 a0 (fun vs w' => ∃ t, encK [kI] t = vs ∧ K t w') w) : cl Pg 21 [.pointer a0] [kI] w K := cl_of Tryz.func21 (tie21 ..) h
def sh189 (a0 : Option Addr) (a1 : Int) (R : List Value → World → Prop) (w : World) : Prop :=
 lp [kS] w (⟨none, 0, 0⟩, ()) fun (t1 : Sl × Unit) J2 w3 =>
 nn a0 fun b4 o5 =>
 ldS w3 b4 o5 fun s6 =>
 jn [kB] w3 (fun (t8 : Bool × Unit) w9 =>
 cs t8.1 (
 nn a0 fun b11 o12 =>
 ldS w9 b11 o12 fun s13 =>
 ix s13 0 3 fun b14 o15 =>
 ldI w9 .i64 b14 (o15 + 2) fun n16 =>
 al w9 3 [.int .i64 n16] fun b17 w18 =>
 ef Pg (Builtin.append_ #[72, 72] 72 #[vS t1.1, vS ⟨some ⟨b17, 0, none⟩, 1, 1⟩]) [kS] w18 fun (r19 : Sl × Unit) w20 =>
 cl Pg 230 [.pointer a0, .int .i64 0] [] w20 fun (r21 : Unit) w22 =>
 J2 (r19.1, ()) w22) (
 R [vS t1.1] w9)) fun J7 w10 =>
 cs (decide (((s6.len : Int) : Int) > (0 : Int))) (
 nn a0 fun b23 o24 =>
 ldS w10 b23 o24 fun s25 =>
 ix s25 0 3 fun b26 o27 =>
 ldI w10 .u64 b26 o27 fun n28 =>
 J7 (decide ((n28 : Int) ≤ (a1 : Int)), ()) w10) (
 J7 (false, ()) w10)
theorem tie189 (a0 : Option Addr) (a1 : Int) (R : List Value → World → Prop) (w : World) : compF Pg Tryz.f189 ⟨[(1, ⟨[(5, kS)], [6, 7, 8, 9, 10, 11, 12, 13, 14, 15, 16, 17, 18, 19, 20, 21, 22, 23, 24, 25, 26, 27, 28, 29, 30, 31, 32, 33, 34]⟩)], [], [], [(2, [(7, 10, ⟨[(22, kB)], [13, 14, 15, 16, 17, 18, 19, 20, 21]⟩)])]⟩ [.pointer a0, .int .u64 a1] R w = sh189 a0 a1 R w := by kernel_rfl
theorem call189 {a0 : Option Addr} {a1 : Int} {w : World} {K : TK [kS] → World → Prop} (h : sh189 a0 a1 (fun vs w' => ∃ t, encK [kS] t = vs ∧ K t w') w) : cl Pg 189 [.pointer a0, .int .u64 a1] [kS] w K := cl_of Tryz.func189 (tie189 ..) h
def sh106 (a0 : Option Addr) (R : List Value → World → Prop) (w : World) : Prop :=
 dr w fun w1 =>
 nn a0 fun b2 o3 =>
 ldI w1 .u64 b2 (o3 + 2) fun n4 =>
 nn a0 fun b5 o6 =>
 ldI w1 .u64 b5 (o6 + 1) fun n7 =>
 nn a0 fun b8 o9 =>
 st1 w1 b8 (o9 + 2) (.int .u64 (IntKind.u64.wrap (n4 + n7))) fun w10 =>
 dr w10 fun w11 =>
 nn a0 fun b12 o13 =>
 ldP w11 b12 o13 fun p14 =>
 nn a0 fun b15 o16 =>
 ldI w11 .u64 b15 (o16 + 2) fun n17 =>
 cl Pg 189 [.pointer p14, .int .u64 n17] [kS] w11 fun (r18 : Sl × Unit) w19 =>
 R [vS r18.1] w19
theorem tie106 (a0 : Option Addr) (R : List Value → World → Prop) (w : World) : compF Pg Tryz.f106 ⟨[], [], [(1, .l [(0, []), (1, []), (2, []), (3, []), (4, []), (5, []), (6, []), (7, []), (8, []), (9, []), (10, []), (11, [10, 8, 0, 1, 2, 3, 4, 5, 6, 7, 9])]), (2, .l [(0, []), (1, []), (2, []), (3, []), (4, []), (5, []), (6, []), (7, []), (8, [3, 7, 2, 6, 1, 5, 0, 4]), (9, [])])], []⟩ [.pointer a0] R w = sh106 a0 R w := by kernel_rfl
theorem call106 {a0 : Option Addr} {w : World} {K : TK [kS] → World → Prop} (h : sh106 a0 (fun vs w' => ∃ t, encK [kS] t = vs ∧ K t w') w) : cl Pg 106 [.pointer a0] [kS] w K := cl_of Tryz.func106 (tie106 ..) h
def sh231 (a0 : Sl) (a1 : Int) (a2 : Int) (a3 : Fv) (R : List Value → World → Prop) (w : World) : Prop :=
 lp [kI] w (w64 (a1 + 1), ()) fun (t1 : Int × Unit) J2 w3 =>
 cs (decide ((t1.1 : Int) < (a2 : Int))) (
 lp [kI] w3 (t1.1, ()) fun (t4 : Int × Unit) J5 w6 =>
 dr w6 fun w7 =>
 jn [kB] w7 (fun (t9 : Bool × Unit) w10 =>
 cs t9.1 (
 dr w10 fun w12 =>
 ix a0 (w64 (t4.1 - 1)) 3 fun b13 o14 =>
 ldB w12 b13 o14 fun b15 =>
 ldI w12 .i64 b13 (o14 + 1) fun n16 =>
 ldI w12 .u64 b13 (o14 + 2) fun n17 =>
 ix a0 t4.1 3 fun b18 o19 =>
 ldB w12 b18 o19 fun b20 =>
 ldI w12 .i64 b18 (o19 + 1) fun n21 =>
 ldI w12 .u64 b18 (o19 + 2) fun n22 =>
 ix a0 t4.1 3 fun b23 o24 =>
 st1 w12 b23 o24 (.bool b15) fun w25 =>
 st1 w25 b23 (o24 + 1) (.int .i64 n16) fun w26 =>
 st1 w26 b23 (o24 + 2) (.int .u64 n17) fun w27 =>
 ix a0 (w64 (t4.1 - 1)) 3 fun b28 o29 =>
 st1 w27 b28 o29 (.bool b20) fun w30 =>
 st1 w30 b28 (o29 + 1) (.int .i64 n21) fun w31 =>
 st1 w31 b28 (o29 + 2) (.int .u64 n22) fun w32 =>
 J5 (w64 (t4.1 - 1), ()) w32) (
 J2 (w64 (t1.1 + 1), ()) w10)) fun J8 w11 =>
 cs (decide ((t4.1 : Int) > (a1 : Int))) (
 ix a0 t4.1 3 fun b33 o34 =>
 ldB w11 b33 o34 fun b35 =>
 ldI w11 .i64 b33 (o34 + 1) fun n36 =>
 ldI w11 .u64 b33 (o34 + 2) fun n37 =>
 ix a0 (w64 (t4.1 - 1)) 3 fun b38 o39 =>
 ldB w11 b38 o39 fun b40 =>
 ldI w11 .i64 b38 (o39 + 1) fun n41 =>
 ldI w11 .u64 b38 (o39 + 2) fun n42 =>
 ob (enterable Pg a3.fid = true) (
 cl Pg a3.fid (a3.pre ++ ([.agg #[.bool b35, .int .i64 n36, .int .u64 n37], .agg #[.bool b40, .int .i64 n41, .int .u64 n42]] ++ a3.post)) [kI] w11 fun (r43 : Int × Unit) w44 =>
 J8 (decide ((r43.1 : Int) < (0 : Int)), ()) w44)) (
 J8 (false, ()) w11)) (
 R [] w3)
theorem tie231 (a0 : Sl) (a1 : Int) (a2 : Int) (a3 : Fv) (R : List Value → World → Prop) (w : World) : compF Pg Tryz.f231 ⟨[(1, ⟨[(8, kI)], [9, 12, 13, 14, 15, 16, 17, 18, 19, 20, 21, 22, 23, 24, 25, 26, 27, 28, 29, 30, 31, 32, 33, 34, 35, 36, 37, 38, 39, 40, 41, 42, 43, 44, 45, 46, 47, 48, 49, 50, 51, 52]⟩), (5, ⟨[(9, kI)], [18, 19, 20, 21, 22, 23, 24, 25, 26, 27, 28, 29, 30, 31, 32, 33, 34, 35, 36, 37, 38, 39, 40, 41, 42, 43, 44, 45, 46, 47, 48, 49, 50, 51, 52]⟩)], [(4, ⟨[(34, kB)], [18, 19, 20, 21, 22, 23, 24, 25, 26, 27, 28, 29, 30, 31, 32, 33]⟩)], [(4, .l [(0, []), (1, []), (2, []), (3, []), (4, []), (5, []), (6, []), (7, []), (8, []), (9, []), (10, []), (11, []), (12, []), (13, []), (14, [4, 8, 13, 3, 7, 12, 2, 5, 6, 9, 11, 0, 1, 10]), (15, []), (16, [])]), (6, .l [(0, []), (1, []), (2, []), (3, []), (4, []), (5, []), (6, []), (7, []), (8, []), (9, []), (10, []), (11, []), (12, []), (13, []), (14, []), (15, [14, 9, 0, 1, 5, 6, 7, 8, 13, 12, 10, 11]), (16, []), (17, [16, 13, 15, 0, 1, 2, 3, 4, 5, 6, 7, 8, 9, 10, 11, 12, 14])])], []⟩ [vS a0, .int .i64 a1, .int .i64 a2, vF a3] R w = sh231 a0 a1 a2 a3 R w := by kernel_rfl
theorem call231 {a0 : Sl} {a1 : Int} {a2 : Int} {a3 : Fv} {w : World} {K : TK [] → World → Prop} (h : sh231 a0 a1 a2 a3 (fun vs w' => ∃ t, encK [] t = vs ∧ K t w') w) : cl Pg 231 [vS a0, .int .i64 a1, .int .i64 a2, vF a3] [] w K := cl_of Tryz.func231 (tie231 ..) h
def sh190 (a0 : Sl) (a1 : Int) (a2 : Fv) (R : List Value → World → Prop) (w : World) : Prop :=
 lp [kI, kI] w ((0 : Int), (20 : Int), ()) fun (t1 : Int × Int × Unit) J2 w3 =>
 cs (decide ((t1.2.1 : Int) ≤ (a1 : Int))) (
 cl Pg 231 [vS a0, .int .i64 t1.1, .int .i64 t1.2.1, vF a2] [] w3 fun (r4 : Unit) w5 =>
 J2 (t1.2.1, w64 (t1.2.1 + 20), ()) w5) (
 cl Pg 231 [vS a0, .int .i64 t1.1, .int .i64 a1, vF a2] [] w3 fun (r6 : Unit) w7 =>
 lp [kI] w7 ((20 : Int), ()) fun (t8 : Int × Unit) J9 w10 =>
 cs (decide ((t8.1 : Int) < (a1 : Int))) (
 lp [kI, kI] w10 ((0 : Int), w64 (2 * t8.1), ()) fun (t11 : Int × Int × Unit) J12 w13 =>
 cs (decide ((t11.2.1 : Int) ≤ (a1 : Int))) (
 cl Pg 232 [vS a0, .int .i64 t11.1, .int .i64 (w64 (t11.1 + t8.1)), .int .i64 t11.2.1, vF a2] [] w13 fun (r14 : Unit) w15 =>
 J12 (t11.2.1, w64 (t11.2.1 + (w64 (2 * t8.1))), ()) w15) (
 cs (decide ((w64 (t11.1 + t8.1) : Int) < (a1 : Int))) (
 cl Pg 232 [vS a0, .int .i64 t11.1, .int .i64 (w64 (t11.1 + t8.1)), .int .i64 a1, vF a2] [] w13 fun (r16 : Unit) w17 =>
 J9 (w64 (t8.1 * 2), ()) w17) (
 J9 (w64 (t8.1 * 2), ()) w13))) (
 R [] w10))
theorem tie190 (a0 : Sl) (a1 : Int) (a2 : Fv) (R : List Value → World → Prop) (w : World) : compF Pg Tryz.f190 ⟨[(1, ⟨[(7, kI), (8, kI)], [11, 12, 13, 14, 15, 16, 17, 18, 19, 20, 21, 22]⟩), (5, ⟨[(6, kI)], [7, 8, 9, 28, 29, 30, 31, 32, 33, 34, 35, 36, 37, 38, 39, 40, 41, 42, 43, 44, 45, 46, 47, 48, 49, 50, 51, 52, 53, 54, 55, 56, 57, 58, 59, 60, 61, 62]⟩), (9, ⟨[(7, kI), (8, kI)], [33, 34, 35, 36, 37, 38, 39, 40, 41, 42, 43, 44, 45, 46, 47, 48]⟩)], [], [], []⟩ [vS a0, .int .i64 a1, vF a2] R w = sh190 a0 a1 a2 R w := by kernel_rfl
theorem call190 {a0 : Sl} {a1 : Int} {a2 : Fv} {w : World} {K : TK [] → World → Prop} (h : sh190 a0 a1 a2 (fun vs w' => ∃ t, encK [] t = vs ∧ K t w') w) : cl Pg 190 [vS a0, .int .i64 a1, vF a2] [] w K := cl_of Tryz.func190 (tie190 ..) h
def sh108 (a0 : Sl) (a1 : Fv) (R : List Value → World → Prop) (w : World) : Prop :=
 cl Pg 190 [vS a0, .int .i64 (a0.len : Int), vF a1] [] w fun (r1 : Unit) w2 =>
 R [] w2
theorem tie108 (a0 : Sl) (a1 : Fv) (R : List Value → World → Prop) (w : World) : compF Pg Tryz.f108 ⟨[], [], [], []⟩ [vS a0, vF a1] R w = sh108 a0 a1 R w := by kernel_rfl
theorem call108 {a0 : Sl} {a1 : Fv} {w : World} {K : TK [] → World → Prop} (h : sh108 a0 a1 (fun vs w' => ∃ t, encK [] t = vs ∧ K t w') w) : cl Pg 108 [vS a0, vF a1] [] w K := cl_of Tryz.func108 (tie108 ..) h
def sh110 (a0 : Sl) (R : List Value → World → Prop) (w : World) : Prop :=
 sb a0 0 (a0.len : Int) (a0.len : Int) 3 fun s1 =>
 R [vS s1] w
theorem tie110 (a0 : Sl) (R : List Value → World → Prop) (w : World) : compF Pg Tryz.f110 ⟨[], [], [], []⟩ [vS a0] R w = sh110 a0 R w := by kernel_rfl
theorem call110 {a0 : Sl} {w : World} {K : TK [kS] → World → Prop} (h : sh110 a0 (fun vs w' => ∃ t, encK [kS] t = vs ∧ K t w') w) : cl Pg 110 [vS a0] [kS] w K := cl_of Tryz.func110 (tie110 ..) h
def sh53 (a0 : Option Addr) (R : List Value → World → Prop) (w : World) : Prop :=
 nn a0 fun b1 o2 =>
 ldP w b1 o2 fun p3 =>
 cl Pg 106 [.pointer p3] [kS] w fun (r4 : Sl × Unit) w5 =>
 nn a0 fun b6 o7 =>
 ldP w5 b6 o7 fun p8 =>
 cl Pg 107 [.pointer p8] [.l (.i .u64)] w5 fun (r9 : Int × Unit) w10 =>
 nn a0 fun b11 o12 =>
 ldS w10 b11 (o12 + 2) fun s13 =>
 lp [kS, kI] w10 (⟨none, 0, 0⟩, (0 : Int), ()) fun (t14 : Sl × Int × Unit) J15 w16 =>
 cs (decide ((t14.2.1 : Int) < ((s13.len : Int) : Int))) (
 nn a0 fun b17 o18 =>
 ldS w16 b17 (o18 + 2) fun s19 =>
 ix s19 t14.2.1 5 fun b20 o21 =>
 lp [kS] w16 (t14.1, ()) fun (t22 : Sl × Unit) J23 w24 =>
 nn (some ⟨b20, o21, none⟩) fun b25 o26 =>
 ldB w24 b25 (o26 + 3) fun b27 =>
 jn [kB] w24 (fun (t29 : Bool × Unit) w30 =>
 cs t29.1 (
 nn (some ⟨b20, o21, none⟩) fun b32 o33 =>
 ldI w30 .u64 b32 (o33 + 1) fun n34 =>
 al w30 201 [.bool true, .int .i64 (w64 (t14.2.1 + 1)), .int .u64 n34] fun b35 w36 =>
 ef Pg (Builtin.append_ #[51, 51] 51 #[vS t22.1, vS ⟨some ⟨b35, 0, none⟩, 1, 1⟩]) [kS] w36 fun (r37 : Sl × Unit) w38 =>
 dr w38 fun w39 =>
 nn (some ⟨b20, o21, none⟩) fun b40 o41 =>
 ldI w39 .u64 b40 (o41 + 1) fun n42 =>
 nn (some ⟨b20, o21, none⟩) fun b43 o44 =>
 ldI w39 .u64 b43 (o44 + 2) fun n45 =>
 nn (some ⟨b20, o21, none⟩) fun b46 o47 =>
 st1 w39 b46 (o47 + 1) (.int .u64 (IntKind.u64.wrap (n42 + n45))) fun w48 =>
 J23 (r37.1, ()) w48) (
 J15 (t22.1, w64 (t14.2.1 + 1), ()) w30)) fun J28 w31 =>
 cs b27 (
 nn (some ⟨b20, o21, none⟩) fun b49 o50 =>
 ldI w31 .u64 b49 (o50 + 1) fun n51 =>
 J28 (decide ((n51 : Int) ≤ (r9.1 : Int)), ()) w31) (
 J28 (false, ()) w31)) (
 nn a0 fun b52 o53 =>
 ldS w16 b52 (o53 + 3) fun s54 =>
 lp [kS, kI] w16 (t14.1, (0 : Int), ()) fun (t55 : Sl × Int × Unit) J56 w57 =>
 cs (decide ((t55.2.1 : Int) < ((s54.len : Int) : Int))) (
 nn a0 fun b58 o59 =>
 ldS w57 b58 (o59 + 3) fun s60 =>
 ix s60 t55.2.1 2 fun b61 o62 =>
 nn (some ⟨b61, o62, none⟩) fun b63 o64 =>
 ldB w57 b63 o64 fun b65 =>
 jn [kB] w57 (fun (t67 : Bool × Unit) w68 =>
 cs t67.1 (
 nn (some ⟨b61, o62, none⟩) fun b70 o71 =>
 ldI w68 .u64 b70 (o71 + 1) fun n72 =>
 al w68 201 [.bool false, .int .i64 (w64 (t55.2.1 + 1)), .int .u64 n72] fun b73 w74 =>
 ef Pg (Builtin.append_ #[51, 51] 51 #[vS t55.1, vS ⟨some ⟨b73, 0, none⟩, 1, 1⟩]) [kS] w74 fun (r75 : Sl × Unit) w76 =>
 nn (some ⟨b61, o62, none⟩) fun b77 o78 =>
 st1 w76 b77 o78 (.bool false) fun w79 =>
 st1 w79 b77 (o78 + 1) (.int .u64 0) fun w80 =>
 J56 (r75.1, w64 (t55.2.1 + 1), ()) w80) (
 J56 (t55.1, w64 (t55.2.1 + 1), ()) w68)) fun J66 w69 =>
 cs b65 (
 nn (some ⟨b61, o62, none⟩) fun b81 o82 =>
 ldI w69 .u64 b81 (o82 + 1) fun n83 =>
 J66 (decide ((n83 : Int) ≤ (r9.1 : Int)), ()) w69) (
 J66 (false, ()) w69)) (
 cl Pg 108 [vS t55.1, .func (.func 109) #[] #[]] [] w57 fun (r84 : Unit) w85 =>
 cl Pg 110 [vS t55.1] [kS] w85 fun (r86 : Sl × Unit) w87 =>
 R [vS r86.1, vS r4.1] w87))
theorem tie53 (a0 : Option Addr) (R : List Value → World → Prop) (w : World) : compF Pg Tryz.f53 ⟨[(1, ⟨[(6, kS), (26, kI)], [7, 8, 27, 28, 29, 30, 31, 32, 33, 34, 35, 36, 37, 38, 39, 40, 41, 42, 43, 44, 45, 46, 47, 48, 49, 50, 51, 52, 53, 54, 55, 56, 57, 58, 59, 60, 61, 62, 63, 64, 65, 66, 67, 68]⟩), (5, ⟨[(6, kS)], [35, 36, 37, 38, 39, 40, 41, 42, 43, 44, 45, 46, 47, 48, 49, 50, 51, 52, 53, 54, 55, 56, 57, 58, 59, 60, 61, 62, 63, 64, 65, 66, 67]⟩), (9, ⟨[(6, kS), (74, kI)], [9, 10, 75, 76, 77, 78, 79, 80, 81, 82, 83, 84, 85, 86, 87, 88, 89, 90, 91, 92, 93, 94, 95, 96, 97, 98, 99, 100, 101, 102, 103, 104, 105, 106, 107, 108]⟩)], [], [(9, .l [(0, []), (1, []), (2, []), (3, []), (4, []), (5, []), (6, []), (7, []), (8, []), (9, []), (10, []), (11, [10, 8, 0, 1, 2, 3, 4, 5, 6, 7, 9])])], [(8, [(5, 7, ⟨[(46, kB)], [40, 41, 42, 43, 44, 45]⟩)]), (16, [(5, 7, ⟨[(94, kB)], [88, 89, 90, 91, 92, 93]⟩)])]⟩ [.pointer a0] R w = sh53 a0 R w := by kernel_rfl
theorem call53 {a0 : Option Addr} {w : World} {K : TK [kS, kS] → World → Prop} (h : sh53 a0 (fun vs w' => ∃ t, encK [kS, kS] t = vs ∧ K t w') w) : cl Pg 53 [.pointer a0] [kS, kS] w K := cl_of Tryz.func53 (tie53 ..) h
def sh22 (a0 : Option Addr) (R : List Value → World → Prop) (w : World) : Prop :=
 nn a0 fun b1 o2 =>
 ldP w b1 (o2 + 7) fun p3 =>
 cl Pg 53 [.pointer p3] [kS, kS] w fun (r4 : Sl × Sl × Unit) w5 =>
 lp [kI] w5 ((0 : Int), ()) fun (t6 : Int × Unit) J7 w8 =>
 cs (decide ((t6.1 : Int) < ((r4.2.1.len : Int) : Int))) (
 ix r4.2.1 t6.1 1 fun b9 o10 =>
 ldI w8 .i64 b9 o10 fun n11 =>
 nn a0 fun b12 o13 =>
 ldS w8 b12 (o13 + 9) fun s14 =>
 ix s14 n11 1 fun b15 o16 =>
 ldP w8 b15 o16 fun p17 =>
 nn p17 fun b18 o19 =>
 ldI w8 .i64 b18 (o19 + 3) fun n20 =>
 jn [kI] w8 (fun (t22 : Int × Unit) w23 =>
 cl Pg 54 [.pointer a0, .int .i64 n11] [] w23 fun (r25 : Unit) w26 =>
 cl Pg 55 [.pointer a0, .int .i64 n11, .agg #[.int .i64 t22.1, .int .i64 0]] [] w26 fun (r27 : Unit) w28 =>
 cl Pg 56 [.pointer a0] [] w28 fun (r29 : Unit) w30 =>
 J7 (w64 (t6.1 + 1), ()) w30) fun J21 w24 =>
 cs ((n20 : Int) == (2 : Int)) (
 J21 ((0 : Int), ()) w24) (
 J21 (((-50) : Int), ()) w24)) (
 cl Pg 57 [.pointer a0] [] w8 fun (r31 : Unit) w32 =>
 R [vS r4.1] w32)
theorem tie22 (a0 : Option Addr) (R : List Value → World → Prop) (w : World) : compF Pg Tryz.f22 ⟨[(1, ⟨[(18, kI)], [6, 7, 19, 20, 21, 22, 23, 24, 25, 26, 27, 28, 29, 30, 31, 32, 33, 34, 35, 36, 37, 38, 39, 40, 41, 42, 43]⟩), (4, ⟨[(7, kI)], []⟩)], [], [], []⟩ [.pointer a0] R w = sh22 a0 R w := by kernel_rfl
theorem call22 {a0 : Option Addr} {w : World} {K : TK [kS] → World → Prop} (h : sh22 a0 (fun vs w' => ∃ t, encK [kS] t = vs ∧ K t w') w) : cl Pg 22 [.pointer a0] [kS] w K := cl_of Tryz.func22 (tie22 ..) h
def sh36 (a0 : Option Addr) (a1 : Int) (R : List Value → World → Prop) (w : World) : Prop :=
 cl Pg 62 [.int .i64 a1] [kB] w fun (r1 : Bool × Unit) w2 =>
 cs (!r1.1) (
 R [.int .i64 0] w2) (
 nn a0 fun b3 o4 =>
 ixA b3 (o4 + 1) 17 a1 3 fun b5 o6 =>
 ldI w2 .i64 b5 o6 fun n7 =>
 R [.int .i64 n7] w2)
theorem tie36 (a0 : Option Addr) (a1 : Int) (R : List Value → World → Prop) (w : World) : compF Pg Tryz.f36 ⟨[], [], [], []⟩ [.pointer a0, .int .i64 a1] R w = sh36 a0 a1 R w := by kernel_rfl
theorem call36 {a0 : Option Addr} {a1 : Int} {w : World} {K : TK [kI] → World → Prop} (h : sh36 a0 a1 (fun vs w' => ∃ t, encK [kI] t = vs ∧ K t w') w) : cl Pg 36 [.pointer a0, .int .i64 a1] [kI] w K := cl_of Tryz.func36 (tie36 ..) h
def sh24 (a0 : Option Addr) (a1 : Int) (R : List Value → World → Prop) (w : World) : Prop :=
 al w 59 [.int .i64 0, .int .i64 0, .int .i64 0, .int .i64 0, .int .i64 0, .int .i64 0, .int .i64 0, .int .i64 0] fun b1 w2 =>
 al w2 61 [.int .i64 0, .int .i64 0, .int .i64 0] fun b3 w4 =>
 jn [kB] w4 (fun (t6 : Bool × Unit) w7 =>
 cs t6.1 (
 st1 w7 b1 0 (.int .i64 0) fun w9 =>
 st1 w9 b1 (0 + 1) (.int .i64 0) fun w10 =>
 st1 w10 b1 (0 + 2) (.int .i64 0) fun w11 =>
 st1 w11 b1 (0 + 3) (.int .i64 0) fun w12 =>
 st1 w12 b1 (0 + 4) (.int .i64 0) fun w13 =>
 st1 w13 b1 (0 + 5) (.int .i64 0) fun w14 =>
 st1 w14 b1 (0 + 6) (.int .i64 0) fun w15 =>
 st1 w15 b1 (0 + 7) (.int .i64 0) fun w16 =>
 st1 w16 b3 0 (.int .i64 0) fun w17 =>
 st1 w17 b3 (0 + 1) (.int .i64 0) fun w18 =>
 st1 w18 b3 (0 + 2) (.int .i64 0) fun w19 =>
 ldI w19 .i64 b1 0 fun n20 =>
 ldI w19 .i64 b1 (0 + 1) fun n21 =>
 ldI w19 .i64 b1 (0 + 2) fun n22 =>
 ldI w19 .i64 b1 (0 + 3) fun n23 =>
 ldI w19 .i64 b1 (0 + 4) fun n24 =>
 ldI w19 .i64 b1 (0 + 5) fun n25 =>
 ldI w19 .i64 b1 (0 + 6) fun n26 =>
 ldI w19 .i64 b1 (0 + 7) fun n27 =>
 ldI w19 .i64 b3 0 fun n28 =>
 ldI w19 .i64 b3 (0 + 1) fun n29 =>
 ldI w19 .i64 b3 (0 + 2) fun n30 =>
 R [.agg #[.int .i64 n20, .int .i64 n21, .int .i64 n22, .int .i64 n23, .int .i64 n24, .int .i64 n25, .int .i64 n26, .int .i64 n27], .agg #[.int .i64 n28, .int .i64 n29, .int .i64 n30], .int .i64 (-18)] w19) (
 nn a0 fun b31 o32 =>
 ldS w7 b31 (o32 + 9) fun s33 =>
 ix s33 a1 1 fun b34 o35 =>
 ldP w7 b34 o35 fun p36 =>
 dr w7 fun w37 =>
 nn p36 fun b38 o39 =>
 ldP w37 b38 o39 fun p40 =>
 nn p40 fun b41 o42 =>
 ldI w37 .i64 b41 (o42 + 3) fun n43 =>
 nn a0 fun b44 o45 =>
 ldP w37 b44 (o45 + 5) fun p46 =>
 nn a0 fun b47 o48 =>
 ldP w37 b47 (o48 + 5) fun p49 =>
 nn p36 fun b50 o51 =>
 ldI w37 .i64 b50 (o51 + 3) fun n52 =>
 nn p36 fun b53 o54 =>
 ldI w37 .i64 b53 (o54 + 4) fun n55 =>
 nn p36 fun b56 o57 =>
 ldI w37 .i64 b56 (o57 + 6) fun n58 =>
 ldI w37 .i64 b56 (o57 + 6 + 1) fun n59 =>
(
 cl Pg 35 [.pointer p46, .int .i64 a1] [kI] w37 fun (r60 : Int × Unit) w61 =>
(w61.cell? ⟨b56, o57 + 6, none⟩ = some (.int .i64 n58) ∧ w61.cell? ⟨b56, o57 + 6 + 1, none⟩ = some (.int .i64 n59)) ∧ (
(w61.cell? ⟨b53, o54 + 4, none⟩ = some (.int .i64 n55)) ∧ (
(w61.cell? ⟨b50, o51 + 3, none⟩ = some (.int .i64 n52)) ∧ (
(w61.cell? ⟨b47, o48 + 5, none⟩ = some (.pointer p49)) ∧ (
(w61.cell? ⟨b41, o42 + 3, none⟩ = some (.int .i64 n43)) ∧ (
(w61.cell? ⟨b38, o39, none⟩ = some (.pointer p40)) ∧ (
(
 cl Pg 36 [.pointer p49, .int .i64 a1] [kI] w61 fun (r62 : Int × Unit) w63 =>
(w63.cell? ⟨b56, o57 + 6, none⟩ = some (.int .i64 n58) ∧ w63.cell? ⟨b56, o57 + 6 + 1, none⟩ = some (.int .i64 n59)) ∧ (
(w63.cell? ⟨b53, o54 + 4, none⟩ = some (.int .i64 n55)) ∧ (
(w63.cell? ⟨b50, o51 + 3, none⟩ = some (.int .i64 n52)) ∧ (
(w63.cell? ⟨b41, o42 + 3, none⟩ = some (.int .i64 n43)) ∧ (
(w63.cell? ⟨b38, o39, none⟩ = some (.pointer p40)) ∧ (
 al w63 59 [.int .i64 0, .int .i64 0, .int .i64 0, .int .i64 0, .int .i64 0, .int .i64 0, .int .i64 0, .int .i64 0] fun b64 w65 =>
(w65.cell? ⟨b56, o57 + 6, none⟩ = some (.int .i64 n58) ∧ w65.cell? ⟨b56, o57 + 6 + 1, none⟩ = some (.int .i64 n59)) ∧ (
(w65.cell? ⟨b53, o54 + 4, none⟩ = some (.int .i64 n55)) ∧ (
(w65.cell? ⟨b50, o51 + 3, none⟩ = some (.int .i64 n52)) ∧ (
(w65.cell? ⟨b47, o48 + 5, none⟩ = some (.pointer p49)) ∧ (
(w65.cell? ⟨b44, o45 + 5, none⟩ = some (.pointer p46)) ∧ (
(w65.cell? ⟨b41, o42 + 3, none⟩ = some (.int .i64 n43)) ∧ (
(w65.cell? ⟨b38, o39, none⟩ = some (.pointer p40)) ∧ (
 st1 w65 b64 0 (.int .i64 n43) fun w66 =>
 st1 w66 b64 (0 + 1) (.int .i64 r60.1) fun w67 =>
 st1 w67 b64 (0 + 2) (.int .i64 r62.1) fun w68 =>
 st1 w68 b64 (0 + 3) (.int .i64 0) fun w69 =>
 st1 w69 b64 (0 + 4) (.int .i64 n52) fun w70 =>
 st1 w70 b64 (0 + 5) (.int .i64 n55) fun w71 =>
 st1 w71 b64 (0 + 6) (.int .i64 n58) fun w72 =>
 st1 w72 b64 (0 + 7) (.int .i64 n59) fun w73 =>
 nn a0 fun b74 o75 =>
 ldI w73 .i64 b74 (o75 + 12) fun n76 =>
 jn [] w73 (fun (t78 : Unit) w79 =>
 dr w79 fun w81 =>
 ldI w81 .i64 b64 0 fun n82 =>
 ldI w81 .i64 b64 (0 + 1) fun n83 =>
 ldI w81 .i64 b64 (0 + 2) fun n84 =>
 ldI w81 .i64 b64 (0 + 3) fun n85 =>
 ldI w81 .i64 b64 (0 + 4) fun n86 =>
 ldI w81 .i64 b64 (0 + 5) fun n87 =>
 ldI w81 .i64 b64 (0 + 6) fun n88 =>
 ldI w81 .i64 b64 (0 + 7) fun n89 =>
 nn p36 fun b90 o91 =>
 ldP w81 b90 o91 fun p92 =>
 nn p92 fun b93 o94 =>
 ldI w81 .i64 b93 o94 fun n95 =>
 ldI w81 .i64 b93 (o94 + 1) fun n96 =>
 ldI w81 .i64 b93 (o94 + 2) fun n97 =>
 st1 w81 b1 0 (.int .i64 n82) fun w98 =>
 st1 w98 b1 (0 + 1) (.int .i64 n83) fun w99 =>
 st1 w99 b1 (0 + 2) (.int .i64 n84) fun w100 =>
 st1 w100 b1 (0 + 3) (.int .i64 n85) fun w101 =>
 st1 w101 b1 (0 + 4) (.int .i64 n86) fun w102 =>
 st1 w102 b1 (0 + 5) (.int .i64 n87) fun w103 =>
 st1 w103 b1 (0 + 6) (.int .i64 n88) fun w104 =>
 st1 w104 b1 (0 + 7) (.int .i64 n89) fun w105 =>
(w105.cell? ⟨b93, o94, none⟩ = some (.int .i64 n95) ∧ w105.cell? ⟨b93, o94 + 1, none⟩ = some (.int .i64 n96) ∧ w105.cell? ⟨b93, o94 + 2, none⟩ = some (.int .i64 n97)) ∧ (
(w105.cell? ⟨b90, o91, none⟩ = some (.pointer p92)) ∧ (
 st1 w105 b3 0 (.int .i64 n95) fun w106 =>
 st1 w106 b3 (0 + 1) (.int .i64 n96) fun w107 =>
 st1 w107 b3 (0 + 2) (.int .i64 n97) fun w108 =>
 ldI w108 .i64 b1 0 fun n109 =>
 ldI w108 .i64 b1 (0 + 1) fun n110 =>
 ldI w108 .i64 b1 (0 + 2) fun n111 =>
 ldI w108 .i64 b1 (0 + 3) fun n112 =>
 ldI w108 .i64 b1 (0 + 4) fun n113 =>
 ldI w108 .i64 b1 (0 + 5) fun n114 =>
 ldI w108 .i64 b1 (0 + 6) fun n115 =>
 ldI w108 .i64 b1 (0 + 7) fun n116 =>
 ldI w108 .i64 b3 0 fun n117 =>
 ldI w108 .i64 b3 (0 + 1) fun n118 =>
 ldI w108 .i64 b3 (0 + 2) fun n119 =>
 R [.agg #[.int .i64 n109, .int .i64 n110, .int .i64 n111, .int .i64 n112, .int .i64 n113, .int .i64 n114, .int .i64 n115, .int .i64 n116], .agg #[.int .i64 n117, .int .i64 n118, .int .i64 n119], .int .i64 0] w108))) fun J77 w80 =>
 cs ((a1 : Int) == (n76 : Int)) (
 st1 w80 b64 0 (.int .i64 1) fun w120 =>
 J77 () w120) (
 J77 () w80)))))))))))))) ∧ (
 al w61 59 [.int .i64 0, .int .i64 0, .int .i64 0, .int .i64 0, .int .i64 0, .int .i64 0, .int .i64 0, .int .i64 0] fun b121 w122 =>
(w122.cell? ⟨b56, o57 + 6, none⟩ = some (.int .i64 n58) ∧ w122.cell? ⟨b56, o57 + 6 + 1, none⟩ = some (.int .i64 n59)) ∧ (
(w122.cell? ⟨b53, o54 + 4, none⟩ = some (.int .i64 n55)) ∧ (
(w122.cell? ⟨b50, o51 + 3, none⟩ = some (.int .i64 n52)) ∧ (
(w122.cell? ⟨b47, o48 + 5, none⟩ = some (.pointer p49)) ∧ (
(w122.cell? ⟨b44, o45 + 5, none⟩ = some (.pointer p46)) ∧ (
(w122.cell? ⟨b41, o42 + 3, none⟩ = some (.int .i64 n43)) ∧ (
(w122.cell? ⟨b38, o39, none⟩ = some (.pointer p40)) ∧ (
 cl Pg 36 [.pointer p49, .int .i64 a1] [kI] w122 fun (r123 : Int × Unit) w124 =>
(w124.cell? ⟨b56, o57 + 6, none⟩ = some (.int .i64 n58) ∧ w124.cell? ⟨b56, o57 + 6 + 1, none⟩ = some (.int .i64 n59)) ∧ (
(w124.cell? ⟨b53, o54 + 4, none⟩ = some (.int .i64 n55)) ∧ (
(w124.cell? ⟨b50, o51 + 3, none⟩ = some (.int .i64 n52)) ∧ (
(w124.cell? ⟨b41, o42 + 3, none⟩ = some (.int .i64 n43)) ∧ (
(w124.cell? ⟨b38, o39, none⟩ = some (.pointer p40)) ∧ (
 st1 w124 b121 0 (.int .i64 n43) fun w125 =>
 st1 w125 b121 (0 + 1) (.int .i64 r60.1) fun w126 =>
 st1 w126 b121 (0 + 2) (.int .i64 r123.1) fun w127 =>
 st1 w127 b121 (0 + 3) (.int .i64 0) fun w128 =>
 st1 w128 b121 (0 + 4) (.int .i64 n52) fun w129 =>
 st1 w129 b121 (0 + 5) (.int .i64 n55) fun w130 =>
 st1 w130 b121 (0 + 6) (.int .i64 n58) fun w131 =>
 st1 w131 b121 (0 + 7) (.int .i64 n59) fun w132 =>
 nn a0 fun b133 o134 =>
 ldI w132 .i64 b133 (o134 + 12) fun n135 =>
 jn [] w132 (fun (t137 : Unit) w138 =>
 dr w138 fun w140 =>
 ldI w140 .i64 b121 0 fun n141 =>
 ldI w140 .i64 b121 (0 + 1) fun n142 =>
 ldI w140 .i64 b121 (0 + 2) fun n143 =>
 ldI w140 .i64 b121 (0 + 3) fun n144 =>
 ldI w140 .i64 b121 (0 + 4) fun n145 =>
 ldI w140 .i64 b121 (0 + 5) fun n146 =>
 ldI w140 .i64 b121 (0 + 6) fun n147 =>
 ldI w140 .i64 b121 (0 + 7) fun n148 =>
 nn p36 fun b149 o150 =>
 ldP w140 b149 o150 fun p151 =>
 nn p151 fun b152 o153 =>
 ldI w140 .i64 b152 o153 fun n154 =>
 ldI w140 .i64 b152 (o153 + 1) fun n155 =>
 ldI w140 .i64 b152 (o153 + 2) fun n156 =>
 st1 w140 b1 0 (.int .i64 n141) fun w157 =>
 st1 w157 b1 (0 + 1) (.int .i64 n142) fun w158 =>
 st1 w158 b1 (0 + 2) (.int .i64 n143) fun w159 =>
 st1 w159 b1 (0 + 3) (.int .i64 n144) fun w160 =>
 st1 w160 b1 (0 + 4) (.int .i64 n145) fun w161 =>
 st1 w161 b1 (0 + 5) (.int .i64 n146) fun w162 =>
 st1 w162 b1 (0 + 6) (.int .i64 n147) fun w163 =>
 st1 w163 b1 (0 + 7) (.int .i64 n148) fun w164 =>
(w164.cell? ⟨b152, o153, none⟩ = some (.int .i64 n154) ∧ w164.cell? ⟨b152, o153 + 1, none⟩ = some (.int .i64 n155) ∧ w164.cell? ⟨b152, o153 + 2, none⟩ = some (.int .i64 n156)) ∧ (
(w164.cell? ⟨b149, o150, none⟩ = some (.pointer p151)) ∧ (
 st1 w164 b3 0 (.int .i64 n154) fun w165 =>
 st1 w165 b3 (0 + 1) (.int .i64 n155) fun w166 =>
 st1 w166 b3 (0 + 2) (.int .i64 n156) fun w167 =>
 ldI w167 .i64 b1 0 fun n168 =>
 ldI w167 .i64 b1 (0 + 1) fun n169 =>
 ldI w167 .i64 b1 (0 + 2) fun n170 =>
 ldI w167 .i64 b1 (0 + 3) fun n171 =>
 ldI w167 .i64 b1 (0 + 4) fun n172 =>
 ldI w167 .i64 b1 (0 + 5) fun n173 =>
 ldI w167 .i64 b1 (0 + 6) fun n174 =>
 ldI w167 .i64 b1 (0 + 7) fun n175 =>
 ldI w167 .i64 b3 0 fun n176 =>
 ldI w167 .i64 b3 (0 + 1) fun n177 =>
 ldI w167 .i64 b3 (0 + 2) fun n178 =>
 R [.agg #[.int .i64 n168, .int .i64 n169, .int .i64 n170, .int .i64 n171, .int .i64 n172, .int .i64 n173, .int .i64 n174, .int .i64 n175], .agg #[.int .i64 n176, .int .i64 n177, .int .i64 n178], .int .i64 0] w167))) fun J136 w139 =>
 cs ((a1 : Int) == (n135 : Int)) (
 st1 w139 b121 0 (.int .i64 1) fun w179 =>
 J136 () w179) (
 J136 () w139))))))))))))))))))))) ∧ (
 al w37 59 [.int .i64 0, .int .i64 0, .int .i64 0, .int .i64 0, .int .i64 0, .int .i64 0, .int .i64 0, .int .i64 0] fun b180 w181 =>
(w181.cell? ⟨b56, o57 + 6, none⟩ = some (.int .i64 n58) ∧ w181.cell? ⟨b56, o57 + 6 + 1, none⟩ = some (.int .i64 n59)) ∧ (
(w181.cell? ⟨b53, o54 + 4, none⟩ = some (.int .i64 n55)) ∧ (
(w181.cell? ⟨b50, o51 + 3, none⟩ = some (.int .i64 n52)) ∧ (
(w181.cell? ⟨b47, o48 + 5, none⟩ = some (.pointer p49)) ∧ (
(w181.cell? ⟨b44, o45 + 5, none⟩ = some (.pointer p46)) ∧ (
(w181.cell? ⟨b41, o42 + 3, none⟩ = some (.int .i64 n43)) ∧ (
(w181.cell? ⟨b38, o39, none⟩ = some (.pointer p40)) ∧ (
 cl Pg 35 [.pointer p46, .int .i64 a1] [kI] w181 fun (r182 : Int × Unit) w183 =>
(w183.cell? ⟨b56, o57 + 6, none⟩ = some (.int .i64 n58) ∧ w183.cell? ⟨b56, o57 + 6 + 1, none⟩ = some (.int .i64 n59)) ∧ (
(w183.cell? ⟨b53, o54 + 4, none⟩ = some (.int .i64 n55)) ∧ (
(w183.cell? ⟨b50, o51 + 3, none⟩ = some (.int .i64 n52)) ∧ (
(w183.cell? ⟨b47, o48 + 5, none⟩ = some (.pointer p49)) ∧ (
(w183.cell? ⟨b41, o42 + 3, none⟩ = some (.int .i64 n43)) ∧ (
(w183.cell? ⟨b38, o39, none⟩ = some (.pointer p40)) ∧ (
 cl Pg 36 [.pointer p49, .int .i64 a1] [kI] w183 fun (r184 : Int × Unit) w185 =>
(w185.cell? ⟨b56, o57 + 6, none⟩ = some (.int .i64 n58) ∧ w185.cell? ⟨b56, o57 + 6 + 1, none⟩ = some (.int .i64 n59)) ∧ (
(w185.cell? ⟨b53, o54 + 4, none⟩ = some (.int .i64 n55)) ∧ (
(w185.cell? ⟨b50, o51 + 3, none⟩ = some (.int .i64 n52)) ∧ (
(w185.cell? ⟨b41, o42 + 3, none⟩ = some (.int .i64 n43)) ∧ (
(w185.cell? ⟨b38, o39, none⟩ = some (.pointer p40)) ∧ (
 st1 w185 b180 0 (.int .i64 n43) fun w186 =>
 st1 w186 b180 (0 + 1) (.int .i64 r182.1) fun w187 =>
 st1 w187 b180 (0 + 2) (.int .i64 r184.1) fun w188 =>
 st1 w188 b180 (0 + 3) (.int .i64 0) fun w189 =>
 st1 w189 b180 (0 + 4) (.int .i64 n52) fun w190 =>
 st1 w190 b180 (0 + 5) (.int .i64 n55) fun w191 =>
 st1 w191 b180 (0 + 6) (.int .i64 n58) fun w192 =>
 st1 w192 b180 (0 + 7) (.int .i64 n59) fun w193 =>
 nn a0 fun b194 o195 =>
 ldI w193 .i64 b194 (o195 + 12) fun n196 =>
 jn [] w193 (fun (t198 : Unit) w199 =>
 dr w199 fun w201 =>
 ldI w201 .i64 b180 0 fun n202 =>
 ldI w201 .i64 b180 (0 + 1) fun n203 =>
 ldI w201 .i64 b180 (0 + 2) fun n204 =>
 ldI w201 .i64 b180 (0 + 3) fun n205 =>
 ldI w201 .i64 b180 (0 + 4) fun n206 =>
 ldI w201 .i64 b180 (0 + 5) fun n207 =>
 ldI w201 .i64 b180 (0 + 6) fun n208 =>
 ldI w201 .i64 b180 (0 + 7) fun n209 =>
 nn p36 fun b210 o211 =>
 ldP w201 b210 o211 fun p212 =>
 nn p212 fun b213 o214 =>
 ldI w201 .i64 b213 o214 fun n215 =>
 ldI w201 .i64 b213 (o214 + 1) fun n216 =>
 ldI w201 .i64 b213 (o214 + 2) fun n217 =>
 st1 w201 b1 0 (.int .i64 n202) fun w218 =>
 st1 w218 b1 (0 + 1) (.int .i64 n203) fun w219 =>
 st1 w219 b1 (0 + 2) (.int .i64 n204) fun w220 =>
 st1 w220 b1 (0 + 3) (.int .i64 n205) fun w221 =>
 st1 w221 b1 (0 + 4) (.int .i64 n206) fun w222 =>
 st1 w222 b1 (0 + 5) (.int .i64 n207) fun w223 =>
 st1 w223 b1 (0 + 6) (.int .i64 n208) fun w224 =>
 st1 w224 b1 (0 + 7) (.int .i64 n209) fun w225 =>
(w225.cell? ⟨b213, o214, none⟩ = some (.int .i64 n215) ∧ w225.cell? ⟨b213, o214 + 1, none⟩ = some (.int .i64 n216) ∧ w225.cell? ⟨b213, o214 + 2, none⟩ = some (.int .i64 n217)) ∧ (
(w225.cell? ⟨b210, o211, none⟩ = some (.pointer p212)) ∧ (
 st1 w225 b3 0 (.int .i64 n215) fun w226 =>
 st1 w226 b3 (0 + 1) (.int .i64 n216) fun w227 =>
 st1 w227 b3 (0 + 2) (.int .i64 n217) fun w228 =>
 ldI w228 .i64 b1 0 fun n229 =>
 ldI w228 .i64 b1 (0 + 1) fun n230 =>
 ldI w228 .i64 b1 (0 + 2) fun n231 =>
 ldI w228 .i64 b1 (0 + 3) fun n232 =>
 ldI w228 .i64 b1 (0 + 4) fun n233 =>
 ldI w228 .i64 b1 (0 + 5) fun n234 =>
 ldI w228 .i64 b1 (0 + 6) fun n235 =>
 ldI w228 .i64 b1 (0 + 7) fun n236 =>
 ldI w228 .i64 b3 0 fun n237 =>
 ldI w228 .i64 b3 (0 + 1) fun n238 =>
 ldI w228 .i64 b3 (0 + 2) fun n239 =>
 R [.agg #[.int .i64 n229, .int .i64 n230, .int .i64 n231, .int .i64 n232, .int .i64 n233, .int .i64 n234, .int .i64 n235, .int .i64 n236], .agg #[.int .i64 n237, .int .i64 n238, .int .i64 n239], .int .i64 0] w228))) fun J197 w200 =>
 cs ((a1 : Int) == (n196 : Int)) (
 st1 w200 b180 0 (.int .i64 1) fun w240 =>
 J197 () w240) (
 J197 () w200)))))))))))))))))))))) fun J5 w8 =>
 cs (decide ((a1 : Int) < (1 : Int))) (
 J5 (true, ()) w8) (
 nn a0 fun b241 o242 =>
 ldS w8 b241 (o242 + 9) fun s243 =>
 J5 (decide ((a1 : Int) ≥ ((s243.len : Int) : Int)), ()) w8)
theorem tie24 (a0 : Option Addr) (a1 : Int) (R : List Value → World → Prop) (w : World) : compF Pg Tryz.f24 ⟨[(1, ⟨[], [69]⟩)], [], [(4, .t [(0, []), (1, []), (2, []), (3, []), (4, []), (5, []), (6, []), (7, []), (8, []), (9, []), (10, []), (11, []), (12, []), (14, []), (15, []), (16, []), (17, []), (18, []), (19, []), (21, []), (22, []), (23, []), (24, []), (25, []), (26, []), (27, []), (28, []), (29, []), (30, []), (31, []), (32, [])] 13 [11, 12, 10, 9, 8, 7] (.t [] 20 [18, 19, 13, 17, 11, 12, 16, 10, 15, 9, 14, 8, 7] (.l [(33, []), (34, []), (35, [34, 33, 20, 0, 1, 2, 3, 4, 5, 6, 7, 8, 9, 10, 11, 12, 13, 14, 15, 16, 17, 18, 19, 21, 22, 23, 24, 25, 26, 27, 28, 29, 30, 31, 32])]) 34 [] (.l [(20, [18, 19, 13, 17, 11, 12, 16, 10, 15, 9, 14, 8, 7]), (33, []), (35, [34, 33, 20, 0, 1, 2, 3, 4, 5, 6, 7, 8, 9, 10, 11, 12, 13, 14, 15, 16, 17, 18, 19, 21, 22, 23, 24, 25, 26, 27, 28, 29, 30, 31, 32])])) 34 [] (.l [(13, [11, 12, 10, 9, 8, 7]), (20, [18, 19, 13, 17, 11, 12, 16, 10, 15, 9, 14, 8, 7]), (33, []), (35, [34, 33, 20, 0, 1, 2, 3, 4, 5, 6, 7, 8, 9, 10, 11, 12, 13, 14, 15, 16, 17, 18, 19, 21, 22, 23, 24, 25, 26, 27, 28, 29, 30, 31, 32])])), (7, .l [(0, []), (1, []), (2, []), (3, []), (4, []), (5, []), (6, []), (7, []), (8, [0]), (9, [7, 8, 0, 1, 2, 3, 4, 5, 6]), (10, [])])], [(1, [(3, 8, ⟨[(19, kB)], [12, 13, 14, 15, 16, 17, 18]⟩)])]⟩ [.pointer a0, .int .i64 a1] R w = sh24 a0 a1 R w := by kernel_rfl
theorem call24 {a0 : Option Addr} {a1 : Int} {w : World} {K : TK [.a [(.i .i64), (.i .i64), (.i .i64), (.i .i64), (.i .i64), (.i .i64), (.i .i64), (.i .i64)], .a [(.i .i64), (.i .i64), (.i .i64)], kI] → World → Prop} (h : sh24 a0 a1 (fun vs w' => ∃ t, encK [.a [(.i .i64), (.i .i64), (.i .i64), (.i .i64), (.i .i64), (.i .i64), (.i .i64), (.i .i64)], .a [(.i .i64), (.i .i64), (.i .i64)], kI] t = vs ∧ K t w') w) : cl Pg 24 [.pointer a0, .int .i64 a1] [.a [(.i .i64), (.i .i64), (.i .i64), (.i .i64), (.i .i64), (.i .i64), (.i .i64), (.i .i64)], .a [(.i .i64), (.i .i64), (.i .i64)], kI] w K := cl_of Tryz.func24 (tie24 ..) h
def sh27 (a0 : Option Addr) (a1 : Int) (R : List Value → World → Prop) (w : World) : Prop :=
 cl Pg 24 [.pointer a0, .int .i64 a1] [.a [(.i .i64), (.i .i64), (.i .i64), (.i .i64), (.i .i64), (.i .i64), (.i .i64), (.i .i64)], .a [(.i .i64), (.i .i64), (.i .i64)], kI] w fun (r1 : (Int × Int × Int × Int × Int × Int × Int × Int × Unit) × (Int × Int × Int × Unit) × Int × Unit) w2 =>
 al w2 59 [.int .i64 0, .int .i64 0, .int .i64 0, .int .i64 0, .int .i64 0, .int .i64 0, .int .i64 0, .int .i64 0] fun b3 w4 =>
 al w4 61 [.int .i64 0, .int .i64 0, .int .i64 0] fun b5 w6 =>
 st1 w6 b3 0 (.int .i64 r1.1.1) fun w7 =>
 st1 w7 b3 (0 + 1) (.int .i64 r1.1.2.1) fun w8 =>
 st1 w8 b3 (0 + 2) (.int .i64 r1.1.2.2.1) fun w9 =>
 st1 w9 b3 (0 + 3) (.int .i64 r1.1.2.2.2.1) fun w10 =>
 st1 w10 b3 (0 + 4) (.int .i64 r1.1.2.2.2.2.1) fun w11 =>
 st1 w11 b3 (0 + 5) (.int .i64 r1.1.2.2.2.2.2.1) fun w12 =>
 st1 w12 b3 (0 + 6) (.int .i64 r1.1.2.2.2.2.2.2.1) fun w13 =>
 st1 w13 b3 (0 + 7) (.int .i64 r1.1.2.2.2.2.2.2.2.1) fun w14 =>
 st1 w14 b5 0 (.int .i64 r1.2.1.1) fun w15 =>
 st1 w15 b5 (0 + 1) (.int .i64 r1.2.1.2.1) fun w16 =>
 st1 w16 b5 (0 + 2) (.int .i64 r1.2.1.2.2.1) fun w17 =>
 ldI w17 .i64 b3 0 fun n18 =>
 R [.int .i64 n18] w17
theorem tie27 (a0 : Option Addr) (a1 : Int) (R : List Value → World → Prop) (w : World) : compF Pg Tryz.f27 ⟨[], [], [], []⟩ [.pointer a0, .int .i64 a1] R w = sh27 a0 a1 R w := by kernel_rfl
theorem call27 {a0 : Option Addr} {a1 : Int} {w : World} {K : TK [kI] → World → Prop} (h : sh27 a0 a1 (fun vs w' => ∃ t, encK [kI] t = vs ∧ K t w') w) : cl Pg 27 [.pointer a0, .int .i64 a1] [kI] w K := cl_of Tryz.func27 (tie27 ..) h
def sh17  (R : List Value → World → Prop) (w : World) : Prop :=
 al w 3 [.int .i64 5, .int .i64 3] fun b1 w2 =>
 cl Pg 18 [vS ⟨some ⟨b1, 0, none⟩, 2, 2⟩] [.a [(.i .i64), .s, .s, .s, .s, .s, .s, .s, (.i .i64)]] w2 fun (r3 : (Int × Sl × Sl × Sl × Sl × Sl × Sl × Sl × Int × Unit) × Unit) w4 =>
 cl Pg 19 [.agg #[.int .i64 r3.1.1, vS r3.1.2.1, vS r3.1.2.2.1, vS r3.1.2.2.2.1, vS r3.1.2.2.2.2.1, vS r3.1.2.2.2.2.2.1, vS r3.1.2.2.2.2.2.2.1, vS r3.1.2.2.2.2.2.2.2.1, .int .i64 r3.1.2.2.2.2.2.2.2.2.1]] [kP] w4 fun (r5 : Option Addr × Unit) w6 =>
 jn [kB] w6 (fun (t8 : Bool × Unit) w9 =>
 cs t8.1 (
 R [.bool false] w9) (
 al w9 2 [.int .i64 0] fun b11 w12 =>
 cl Pg 20 [.pointer r5.1, .int .i64 22, vS ⟨some ⟨b11, 0, none⟩, 1, 1⟩] [kI, kI] w12 fun (r13 : Int × Int × Unit) w14 =>
 cl Pg 21 [.pointer r5.1] [kI] w14 fun (r15 : Int × Unit) w16 =>
 cl Pg 22 [.pointer r5.1] [kS] w16 fun (r17 : Sl × Unit) w18 =>
 jn [kB] w18 (fun (t20 : Bool × Unit) w21 =>
 jn [kB] w21 (fun (t24 : Bool × Unit) w25 =>
 jn [kB] w25 (fun (t28 : Bool × Unit) w29 =>
 jn [kB] w29 (fun (t32 : Bool × Unit) w33 =>
 R [.bool t32.1] w33) fun J31 w34 =>
 cs t28.1 (
 cl Pg 27 [.pointer r5.1, .int .i64 2] [kI] w34 fun (r35 : Int × Unit) w36 =>
 J31 ((r35.1 : Int) == (1 : Int), ()) w36) (
 J31 (false, ()) w34)) fun J27 w30 =>
 cs t24.1 (
 cl Pg 27 [.pointer r5.1, .int .i64 1] [kI] w30 fun (r37 : Int × Unit) w38 =>
 J27 ((r37.1 : Int) == (2 : Int), ()) w38) (
 J27 (false, ()) w30)) fun J23 w26 =>
 cs t20.1 (
 cl Pg 21 [.pointer r5.1] [kI] w26 fun (r39 : Int × Unit) w40 =>
 J23 ((r39.1 : Int) == (2 : Int), ()) w40) (
 J23 (false, ()) w26)) fun J19 w22 =>
 cs ((r13.1 : Int) == (1 : Int)) (
 J19 ((r15.1 : Int) == (1 : Int), ()) w22) (
 J19 (false, ()) w22))) fun J7 w10 =>
 cs r5.1.isNone (
 J7 (true, ()) w10) (
 cl Pg 21 [.pointer r5.1] [kI] w10 fun (r41 : Int × Unit) w42 =>
 J7 ((r41.1 : Int) != (2 : Int), ()) w42)
theorem tie17  (R : List Value → World → Prop) (w : World) : compF Pg Tryz.f17 ⟨[], [], [], [(2, [(3, 4, ⟨[(14, kB)], [11, 12, 13]⟩)]), (7, [(3, 3, ⟨[(30, kB)], [28, 29]⟩), (7, 4, ⟨[(35, kB)], [32, 33, 34]⟩), (12, 4, ⟨[(40, kB)], [37, 38, 39]⟩), (17, 4, ⟨[(45, kB)], [42, 43, 44]⟩)])]⟩ [] R w = sh17  R w := by kernel_rfl
theorem call17  {w : World} {K : TK [kB] → World → Prop} (h : sh17  (fun vs w' => ∃ t, encK [kB] t = vs ∧ K t w') w) : cl Pg 17 [] [kB] w K := cl_of Tryz.func17 (tie17 ..) h
def sh4 (a0 : Int) (a1 : Int) (a2 : Int) (a3 : Bool) (R : List Value → World → Prop) (w : World) : Prop :=
 cl Pg 17 [] [kB] w fun (r1 : Bool × Unit) w2 =>
 cs (!r1.1) (
 R [.bool false] w2) (
 jn [kB] w2 (fun (t4 : Bool × Unit) w5 =>
 cs (!t4.1) (
 R [.bool true] w5) (
 al w5 3 [.int .i64 (w64 (1 + (w64 (Int.tmod a0 16)))), .int .i64 (w64 (1 + (w64 (Int.tmod a1 16)))), .int .i64 (w64 (1 + (w64 (Int.tmod a2 16))))] fun b7 w8 =>
 cl Pg 18 [vS ⟨some ⟨b7, 0, none⟩, 3, 3⟩] [.a [(.i .i64), .s, .s, .s, .s, .s, .s, .s, (.i .i64)]] w8 fun (r9 : (Int × Sl × Sl × Sl × Sl × Sl × Sl × Sl × Int × Unit) × Unit) w10 =>
 al w10 33 [.int .i64 0, .slice none 0 0, .slice none 0 0, .slice none 0 0, .slice none 0 0, .slice none 0 0, .slice none 0 0, .slice none 0 0, .int .i64 0] fun b11 w12 =>
 st1 w12 b11 0 (.int .i64 r9.1.1) fun w13 =>
 st1 w13 b11 (0 + 1) (vS r9.1.2.1) fun w14 =>
 st1 w14 b11 (0 + 2) (vS r9.1.2.2.1) fun w15 =>
 st1 w15 b11 (0 + 3) (vS r9.1.2.2.2.1) fun w16 =>
 st1 w16 b11 (0 + 4) (vS r9.1.2.2.2.2.1) fun w17 =>
 st1 w17 b11 (0 + 5) (vS r9.1.2.2.2.2.2.1) fun w18 =>
 st1 w18 b11 (0 + 6) (vS r9.1.2.2.2.2.2.2.1) fun w19 =>
 st1 w19 b11 (0 + 7) (vS r9.1.2.2.2.2.2.2.2.1) fun w20 =>
 st1 w20 b11 (0 + 8) (.int .i64 r9.1.2.2.2.2.2.2.2.2.1) fun w21 =>
 ldS w21 b11 (0 + 1) fun s22 =>
 ix s22 1 2 fun b23 o24 =>
 st1 w21 b23 (o24 + 1) (.bool false) fun w25 =>
 ldS w25 b11 (0 + 1) fun s26 =>
 ix s26 2 2 fun b27 o28 =>
 st1 w25 b27 (o28 + 1) (.bool false) fun w29 =>
 al w29 47 [.int .i64 1, .int .i64 0] fun b30 w31 =>
 st1 w31 b11 (0 + 5) (vS ⟨some ⟨b30, 0, none⟩, 1, 1⟩) fun w32 =>
 jn [] w32 (fun (t34 : Unit) w35 =>
 ldI w35 .i64 b11 0 fun n37 =>
 ldS w35 b11 (0 + 1) fun s38 =>
 ldS w35 b11 (0 + 2) fun s39 =>
 ldS w35 b11 (0 + 3) fun s40 =>
 ldS w35 b11 (0 + 4) fun s41 =>
 ldS w35 b11 (0 + 5) fun s42 =>
 ldS w35 b11 (0 + 6) fun s43 =>
 ldS w35 b11 (0 + 7) fun s44 =>
 ldI w35 .i64 b11 (0 + 8) fun n45 =>
 cl Pg 19 [.agg #[.int .i64 n37, vS s38, vS s39, vS s40, vS s41, vS s42, vS s43, vS s44, .int .i64 n45]] [kP] w35 fun (r46 : Option Addr × Unit) w47 =>
 cs r46.1.isNone (
 R [.bool false] w47) (
 al w47 2 [.int .i64 1] fun b48 w49 =>
 cl Pg 20 [.pointer r46.1, .int .i64 43, vS ⟨some ⟨b48, 0, none⟩, 1, 1⟩] [kI, kI] w49 fun (r50 : Int × Int × Unit) w51 =>
 al w51 2 [.int .i64 3] fun b52 w53 =>
 cl Pg 20 [.pointer r46.1, .int .i64 1, vS ⟨some ⟨b52, 0, none⟩, 1, 1⟩] [kI, kI] w53 fun (r54 : Int × Int × Unit) w55 =>
 al w55 2 [.int .i64 1] fun b56 w57 =>
 cl Pg 20 [.pointer r46.1, .int .i64 43, vS ⟨some ⟨b56, 0, none⟩, 1, 1⟩] [kI, kI] w57 fun (r58 : Int × Int × Unit) w59 =>
 al w59 2 [.int .i64 2] fun b60 w61 =>
 cl Pg 20 [.pointer r46.1, .int .i64 1, vS ⟨some ⟨b60, 0, none⟩, 1, 1⟩] [kI, kI] w61 fun (r62 : Int × Int × Unit) w63 =>
 cs a3 (
 cl Pg 21 [.pointer r46.1] [kI] w63 fun (r64 : Int × Unit) w65 =>
 R [.bool ((r64.1 : Int) == (1 : Int))] w65) (
 cl Pg 21 [.pointer r46.1] [kI] w63 fun (r66 : Int × Unit) w67 =>
 R [.bool ((r66.1 : Int) == (2 : Int))] w67))) fun J33 w36 =>
 cs a3 (
 ldS w36 b11 (0 + 5) fun s68 =>
 ix s68 0 2 fun b69 o70 =>
 st1 w36 b69 o70 (.int .i64 2) fun w71 =>
 J33 () w71) (
 J33 () w36))) fun J3 w6 =>
 cs (decide ((w64 (1 + (w64 (Int.tmod a2 16))) : Int) < (w64 (1 + (w64 (Int.tmod a1 16))) : Int))) (
 J3 (decide ((w64 (1 + (w64 (Int.tmod a1 16))) : Int) < (w64 (1 + (w64 (Int.tmod a0 16))) : Int)), ()) w6) (
 J3 (false, ()) w6))
theorem tie4 (a0 : Int) (a1 : Int) (a2 : Int) (a3 : Bool) (R : List Value → World → Prop) (w : World) : compF Pg Tryz.f4 ⟨[(2, ⟨[], [54, 55, 56, 57]⟩)], [], [], [(6, [(4, 4, ⟨[(35, kB)], [32, 33, 34]⟩)])]⟩ [.int .u8 a0, .int .u8 a1, .int .u8 a2, .bool a3] R w = sh4 a0 a1 a2 a3 R w := by kernel_rfl
def sh23 (a0 : Option Addr) (a1 : Int) (R : List Value → World → Prop) (w : World) : Prop :=
 cl Pg 24 [.pointer a0, .int .i64 a1] [.a [(.i .i64), (.i .i64), (.i .i64), (.i .i64), (.i .i64), (.i .i64), (.i .i64), (.i .i64)], .a [(.i .i64), (.i .i64), (.i .i64)], kI] w fun (r1 : (Int × Int × Int × Int × Int × Int × Int × Int × Unit) × (Int × Int × Int × Unit) × Int × Unit) w2 =>
 al w2 59 [.int .i64 0, .int .i64 0, .int .i64 0, .int .i64 0, .int .i64 0, .int .i64 0, .int .i64 0, .int .i64 0] fun b3 w4 =>
 al w4 61 [.int .i64 0, .int .i64 0, .int .i64 0] fun b5 w6 =>
 st1 w6 b3 0 (.int .i64 r1.1.1) fun w7 =>
 st1 w7 b3 (0 + 1) (.int .i64 r1.1.2.1) fun w8 =>
 st1 w8 b3 (0 + 2) (.int .i64 r1.1.2.2.1) fun w9 =>
 st1 w9 b3 (0 + 3) (.int .i64 r1.1.2.2.2.1) fun w10 =>
 st1 w10 b3 (0 + 4) (.int .i64 r1.1.2.2.2.2.1) fun w11 =>
 st1 w11 b3 (0 + 5) (.int .i64 r1.1.2.2.2.2.2.1) fun w12 =>
 st1 w12 b3 (0 + 6) (.int .i64 r1.1.2.2.2.2.2.2.1) fun w13 =>
 st1 w13 b3 (0 + 7) (.int .i64 r1.1.2.2.2.2.2.2.2.1) fun w14 =>
 st1 w14 b5 0 (.int .i64 r1.2.1.1) fun w15 =>
 st1 w15 b5 (0 + 1) (.int .i64 r1.2.1.2.1) fun w16 =>
 st1 w16 b5 (0 + 2) (.int .i64 r1.2.1.2.2.1) fun w17 =>
 dr w17 fun w18 =>
 ldI w18 .i64 b3 (0 + 6) fun n19 =>
 ldI w18 .i64 b3 (0 + 6 + 1) fun n20 =>
 R [.int .i64 n19, .int .i64 n20] w18
theorem tie23 (a0 : Option Addr) (a1 : Int) (R : List Value → World → Prop) (w : World) : compF Pg Tryz.f23 ⟨[], [], [(2, .l [(0, []), (1, []), (2, []), (3, []), (4, []), (5, []), (6, []), (7, [])])], []⟩ [.pointer a0, .int .i64 a1] R w = sh23 a0 a1 R w := by kernel_rfl
theorem call23 {a0 : Option Addr} {a1 : Int} {w : World} {K : TK [kI, kI] → World → Prop} (h : sh23 a0 a1 (fun vs w' => ∃ t, encK [kI, kI] t = vs ∧ K t w') w) : cl Pg 23 [.pointer a0, .int .i64 a1] [kI, kI] w K := cl_of Tryz.func23 (tie23 ..) h
def sh5 (a0 : Int) (a1 : Int) (R : List Value → World → Prop) (w : World) : Prop :=
 cl Pg 17 [] [kB] w fun (r1 : Bool × Unit) w2 =>
 cs (!r1.1) (
 R [.bool false] w2) (
 al w2 3 [.int .i64 1] fun b3 w4 =>
 cl Pg 18 [vS ⟨some ⟨b3, 0, none⟩, 1, 1⟩] [.a [(.i .i64), .s, .s, .s, .s, .s, .s, .s, (.i .i64)]] w4 fun (r5 : (Int × Sl × Sl × Sl × Sl × Sl × Sl × Sl × Int × Unit) × Unit) w6 =>
 al w6 33 [.int .i64 0, .slice none 0 0, .slice none 0 0, .slice none 0 0, .slice none 0 0, .slice none 0 0, .slice none 0 0, .slice none 0 0, .int .i64 0] fun b7 w8 =>
 st1 w8 b7 0 (.int .i64 r5.1.1) fun w9 =>
 st1 w9 b7 (0 + 1) (vS r5.1.2.1) fun w10 =>
 st1 w10 b7 (0 + 2) (vS r5.1.2.2.1) fun w11 =>
 st1 w11 b7 (0 + 3) (vS r5.1.2.2.2.1) fun w12 =>
 st1 w12 b7 (0 + 4) (vS r5.1.2.2.2.2.1) fun w13 =>
 st1 w13 b7 (0 + 5) (vS r5.1.2.2.2.2.2.1) fun w14 =>
 st1 w14 b7 (0 + 6) (vS r5.1.2.2.2.2.2.2.1) fun w15 =>
 st1 w15 b7 (0 + 7) (vS r5.1.2.2.2.2.2.2.2.1) fun w16 =>
 st1 w16 b7 (0 + 8) (.int .i64 r5.1.2.2.2.2.2.2.2.2.1) fun w17 =>
 st1 w17 b7 0 (.int .i64 (w64 (1 + (w64 (Int.tmod a0 100))))) fun w18 =>
 ldI w18 .i64 b7 0 fun n19 =>
 ldS w18 b7 (0 + 1) fun s20 =>
 ldS w18 b7 (0 + 2) fun s21 =>
 ldS w18 b7 (0 + 3) fun s22 =>
 ldS w18 b7 (0 + 4) fun s23 =>
 ldS w18 b7 (0 + 5) fun s24 =>
 ldS w18 b7 (0 + 6) fun s25 =>
 ldS w18 b7 (0 + 7) fun s26 =>
 ldI w18 .i64 b7 (0 + 8) fun n27 =>
 cl Pg 19 [.agg #[.int .i64 n19, vS s20, vS s21, vS s22, vS s23, vS s24, vS s25, vS s26, .int .i64 n27]] [kP] w18 fun (r28 : Option Addr × Unit) w29 =>
 jn [kB] w29 (fun (t31 : Bool × Unit) w32 =>
 cs t31.1 (
 R [.bool (!r28.1.isNone)] w32) (
 al w32 2 [.int .i64 (w64 (a1))] fun b34 w35 =>
 cl Pg 20 [.pointer r28.1, .int .i64 22, vS ⟨some ⟨b34, 0, none⟩, 1, 1⟩] [kI, kI] w35 fun (r36 : Int × Int × Unit) w37 =>
 cs ((r36.1 : Int) != (1 : Int)) (
 R [.bool false] w37) (
 lp [kI] w37 ((1 : Int), ()) fun (t38 : Int × Unit) J39 w40 =>
 cs (decide ((t38.1 : Int) ≤ (60 : Int))) (
 cl Pg 22 [.pointer r28.1] [kS] w40 fun (r41 : Sl × Unit) w42 =>
 cl Pg 21 [.pointer r28.1] [kI] w42 fun (r43 : Int × Unit) w44 =>
 cs (!(((r43.1 : Int) == (1 : Int)) == (decide ((w64 (t38.1 * (w64 (1 + (w64 (Int.tmod a0 100))))) : Int) ≥ (w64 ((w64 (a1)) + (w64 (1 + (w64 (Int.tmod a0 100))))) : Int))))) (
 R [.bool false] w44) (
 J39 (w64 (t38.1 + 1), ()) w44)) (
 cl Pg 23 [.pointer r28.1, .int .i64 1] [kI, kI] w40 fun (r45 : Int × Int × Unit) w46 =>
 R [.bool ((r45.1 : Int) == (0 : Int))] w46)))) fun J30 w33 =>
 cs r28.1.isNone (
 J30 (true, ()) w33) (
 J30 (decide ((w64 (a1) : Int) > (w64 (50 * (w64 (1 + (w64 (Int.tmod a0 100))))) : Int)), ()) w33))
theorem tie5 (a0 : Int) (a1 : Int) (R : List Value → World → Prop) (w : World) : compF Pg Tryz.f5 ⟨[(4, ⟨[(10, kI)], [4, 46, 47, 48, 49, 50, 51, 52, 53, 54, 55, 56, 57, 58, 59, 60, 61, 62, 63]⟩)], [], [], [(7, [(3, 6, ⟨[(33, kB)], [28, 29, 30, 31, 32]⟩)])]⟩ [.int .u8 a0, .int .u16 a1] R w = sh5 a0 a1 R w := by kernel_rfl
def sh25 (a0 : (Int × Int × Int × Unit)) (R : List Value → World → Prop) (w : World) : Prop :=
 al w 61 [.int .i64 a0.1, .int .i64 a0.2.1, .int .i64 a0.2.2.1] fun b1 w2 =>
 ldI w2 .i64 b1 0 fun n3 =>
 ldI w2 .i64 b1 (0 + 1) fun n4 =>
 ldI w2 .i64 b1 (0 + 2) fun n5 =>
 R [.bool (!((n3 : Int) == (0 : Int) && (n4 : Int) == (0 : Int) && (n5 : Int) == (0 : Int)))] w2
theorem tie25 (a0 : (Int × Int × Int × Unit)) (R : List Value → World → Prop) (w : World) : compF Pg Tryz.f25 ⟨[], [], [], []⟩ [.agg #[.int .i64 a0.1, .int .i64 a0.2.1, .int .i64 a0.2.2.1]] R w = sh25 a0 R w := by kernel_rfl
theorem call25 {a0 : (Int × Int × Int × Unit)} {w : World} {K : TK [kB] → World → Prop} (h : sh25 a0 (fun vs w' => ∃ t, encK [kB] t = vs ∧ K t w') w) : cl Pg 25 [.agg #[.int .i64 a0.1, .int .i64 a0.2.1, .int .i64 a0.2.2.1]] [kB] w K := cl_of Tryz.func25 (tie25 ..) h
def sh6 (a0 : Int) (R : List Value → World → Prop) (w : World) : Prop :=
 cl Pg 17 [] [kB] w fun (r1 : Bool × Unit) w2 =>
 cs (!r1.1) (
 R [.bool false] w2) (
 al w2 3 [.int .i64 5, .int .i64 1] fun b3 w4 =>
 cl Pg 18 [vS ⟨some ⟨b3, 0, none⟩, 2, 2⟩] [.a [(.i .i64), .s, .s, .s, .s, .s, .s, .s, (.i .i64)]] w4 fun (r5 : (Int × Sl × Sl × Sl × Sl × Sl × Sl × Sl × Int × Unit) × Unit) w6 =>
 al w6 33 [.int .i64 0, .slice none 0 0, .slice none 0 0, .slice none 0 0, .slice none 0 0, .slice none 0 0, .slice none 0 0, .slice none 0 0, .int .i64 0] fun b7 w8 =>
 st1 w8 b7 0 (.int .i64 r5.1.1) fun w9 =>
 st1 w9 b7 (0 + 1) (vS r5.1.2.1) fun w10 =>
 st1 w10 b7 (0 + 2) (vS r5.1.2.2.1) fun w11 =>
 st1 w11 b7 (0 + 3) (vS r5.1.2.2.2.1) fun w12 =>
 st1 w12 b7 (0 + 4) (vS r5.1.2.2.2.2.1) fun w13 =>
 st1 w13 b7 (0 + 5) (vS r5.1.2.2.2.2.2.1) fun w14 =>
 st1 w14 b7 (0 + 6) (vS r5.1.2.2.2.2.2.2.1) fun w15 =>
 st1 w15 b7 (0 + 7) (vS r5.1.2.2.2.2.2.2.2.1) fun w16 =>
 st1 w16 b7 (0 + 8) (.int .i64 r5.1.2.2.2.2.2.2.2.2.1) fun w17 =>
 ldS w17 b7 (0 + 1) fun s18 =>
 ix s18 1 2 fun b19 o20 =>
 st1 w17 b19 (o20 + 1) (.bool false) fun w21 =>
 ldI w21 .i64 b7 0 fun n22 =>
 ldS w21 b7 (0 + 1) fun s23 =>
 ldS w21 b7 (0 + 2) fun s24 =>
 ldS w21 b7 (0 + 3) fun s25 =>
 ldS w21 b7 (0 + 4) fun s26 =>
 ldS w21 b7 (0 + 5) fun s27 =>
 ldS w21 b7 (0 + 6) fun s28 =>
 ldS w21 b7 (0 + 7) fun s29 =>
 ldI w21 .i64 b7 (0 + 8) fun n30 =>
 cl Pg 19 [.agg #[.int .i64 n22, vS s23, vS s24, vS s25, vS s26, vS s27, vS s28, vS s29, .int .i64 n30]] [kP] w21 fun (r31 : Option Addr × Unit) w32 =>
 cs r31.1.isNone (
 R [.bool false] w32) (
 al w32 2 [.int .i64 2] fun b33 w34 =>
 cl Pg 20 [.pointer r31.1, .int .i64 5, vS ⟨some ⟨b33, 0, none⟩, 1, 1⟩] [kI, kI] w34 fun (r35 : Int × Int × Unit) w36 =>
 al w36 2 [.int .i64 1] fun b37 w38 =>
 cl Pg 20 [.pointer r31.1, .int .i64 5, vS ⟨some ⟨b37, 0, none⟩, 1, 1⟩] [kI, kI] w38 fun (r39 : Int × Int × Unit) w40 =>
 al w40 2 [.int .i64 0] fun b41 w42 =>
 cl Pg 20 [.pointer r31.1, .int .i64 5, vS ⟨some ⟨b41, 0, none⟩, 1, 1⟩] [kI, kI] w42 fun (r43 : Int × Int × Unit) w44 =>
 jn [kB] w44 (fun (t46 : Bool × Unit) w47 =>
 jn [kB] w47 (fun (t50 : Bool × Unit) w51 =>
 cs t50.1 (
 R [.bool false] w51) (
 al w51 2 [.int .i64 2] fun b53 w54 =>
 cl Pg 20 [.pointer r31.1, .int .i64 1, vS ⟨some ⟨b53, 0, none⟩, 1, 1⟩] [kI, kI] w54 fun (r55 : Int × Int × Unit) w56 =>
 jn [] w56 (fun (t58 : Unit) w59 =>
 cl Pg 21 [.pointer r31.1] [kI] w59 fun (r61 : Int × Unit) w62 =>
 cs ((r61.1 : Int) != (1 : Int)) (
 R [.bool false] w62) (
 al w62 2 [.int .i64 2] fun b63 w65 =>
 cl Pg 20 [.pointer r31.1, .int .i64 5, vS ⟨some ⟨b63, 0, none⟩, 1, 1⟩] [kI, kI] w65 fun (r66 : Int × Int × Unit) w67 =>
 al w67 2 [.int .i64 2] fun b68 w69 =>
 cl Pg 20 [.pointer r31.1, .int .i64 5, vS ⟨some ⟨b68, 0, none⟩, 1, 1⟩] [kI, kI] w69 fun (r70 : Int × Int × Unit) w71 =>
 cl Pg 24 [.pointer r31.1, .int .i64 2] [.a [(.i .i64), (.i .i64), (.i .i64), (.i .i64), (.i .i64), (.i .i64), (.i .i64), (.i .i64)], .a [(.i .i64), (.i .i64), (.i .i64)], kI] w71 fun (r72 : (Int × Int × Int × Int × Int × Int × Int × Int × Unit) × (Int × Int × Int × Unit) × Int × Unit) w73 =>
 al w73 59 [.int .i64 0, .int .i64 0, .int .i64 0, .int .i64 0, .int .i64 0, .int .i64 0, .int .i64 0, .int .i64 0] fun b74 w75 =>
 al w75 61 [.int .i64 0, .int .i64 0, .int .i64 0] fun b76 w77 =>
 st1 w77 b74 0 (.int .i64 r72.1.1) fun w78 =>
 st1 w78 b74 (0 + 1) (.int .i64 r72.1.2.1) fun w79 =>
 st1 w79 b74 (0 + 2) (.int .i64 r72.1.2.2.1) fun w80 =>
 st1 w80 b74 (0 + 3) (.int .i64 r72.1.2.2.2.1) fun w81 =>
 st1 w81 b74 (0 + 4) (.int .i64 r72.1.2.2.2.2.1) fun w82 =>
 st1 w82 b74 (0 + 5) (.int .i64 r72.1.2.2.2.2.2.1) fun w83 =>
 st1 w83 b74 (0 + 6) (.int .i64 r72.1.2.2.2.2.2.2.1) fun w84 =>
 st1 w84 b74 (0 + 7) (.int .i64 r72.1.2.2.2.2.2.2.2.1) fun w85 =>
 st1 w85 b76 0 (.int .i64 r72.2.1.1) fun w86 =>
 st1 w86 b76 (0 + 1) (.int .i64 r72.2.1.2.1) fun w87 =>
 st1 w87 b76 (0 + 2) (.int .i64 r72.2.1.2.2.1) fun w88 =>
 lp [kI] w88 ((0 : Int), ()) fun (t89 : Int × Unit) J90 w91 =>
 cs (decide ((t89.1 : Int) < (60 : Int))) (
 cl Pg 22 [.pointer r31.1] [kS] w91 fun (r92 : Sl × Unit) w93 =>
 J90 (w64 (t89.1 + 1), ()) w93) (
 jn [kB] w91 (fun (t95 : Bool × Unit) w96 =>
 jn [kB] w96 (fun (t99 : Bool × Unit) w100 =>
 jn [kB] w100 (fun (t103 : Bool × Unit) w104 =>
 jn [kB] w104 (fun (t107 : Bool × Unit) w108 =>
 jn [kB] w108 (fun (t111 : Bool × Unit) w112 =>
 R [.bool t111.1] w112) fun J110 w113 =>
 cs t107.1 (
 cl Pg 21 [.pointer r31.1] [kI] w113 fun (r114 : Int × Unit) w115 =>
 J110 ((r114.1 : Int) == (1 : Int), ()) w115) (
 J110 (false, ()) w113)) fun J106 w109 =>
 cs t103.1 (
 ldI w109 .i64 b76 0 fun n116 =>
 ldI w109 .i64 b76 (0 + 1) fun n117 =>
 ldI w109 .i64 b76 (0 + 2) fun n118 =>
 cl Pg 25 [.agg #[.int .i64 n116, .int .i64 n117, .int .i64 n118]] [kB] w109 fun (r119 : Bool × Unit) w120 =>
 J106 (!r119.1, ()) w120) (
 J106 (false, ()) w109)) fun J102 w105 =>
 cs t99.1 (
 ldI w105 .i64 b74 (0 + 4) fun n121 =>
 J102 ((n121 : Int) == (0 : Int), ()) w105) (
 J102 (false, ()) w105)) fun J98 w101 =>
 cs t95.1 (
 ldI w101 .i64 b74 0 fun n122 =>
 J98 ((n122 : Int) == (16 : Int), ()) w101) (
 J98 (false, ()) w101)) fun J94 w97 =>
 cs ((r66.1 : Int) == (0 : Int)) (
 J94 ((r70.1 : Int) == ((-41) : Int), ()) w97) (
 J94 (false, ()) w97)))) fun J57 w60 =>
 cs ((Int.tmod a0 3 : Int) == (0 : Int)) (
 cl Pg 20 [.pointer r31.1, .int .i64 12, .slice none 0 0] [kI, kI] w60 fun (r123 : Int × Int × Unit) w124 =>
 J57 () w124) (
 jn [] w60 (fun (t126 : Unit) w127 =>
 J57 () w127) fun J125 w128 =>
 cs ((Int.tmod a0 3 : Int) == (1 : Int)) (
 al w128 2 [.int .i64 50] fun b129 w130 =>
 cl Pg 20 [.pointer r31.1, .int .i64 22, vS ⟨some ⟨b129, 0, none⟩, 1, 1⟩] [kI, kI] w130 fun (r131 : Int × Int × Unit) w132 =>
 J125 () w132) (
 al w128 2 [.int .i64 0] fun b133 w134 =>
 cl Pg 20 [.pointer r31.1, .int .i64 19, vS ⟨some ⟨b133, 0, none⟩, 1, 1⟩] [kI, kI] w134 fun (r135 : Int × Int × Unit) w136 =>
 J125 () w136)))) fun J49 w52 =>
 cs t46.1 (
 J49 (true, ()) w52) (
 J49 ((r43.1 : Int) != ((-18) : Int), ()) w52)) fun J45 w48 =>
 cs ((r35.1 : Int) != ((-41) : Int)) (
 J45 (true, ()) w48) (
 J45 ((r39.1 : Int) != ((-28) : Int), ()) w48)))
theorem tie6 (a0 : Int) (R : List Value → World → Prop) (w : World) : compF Pg Tryz.f6 ⟨[(4, ⟨[], [64, 65, 66, 69, 70, 71, 72, 73, 74, 75]⟩), (8, ⟨[(18, kI)], [97, 98, 99, 100, 101, 102]⟩), (5, ⟨[], [64, 65, 66, 73, 74, 75]⟩)], [], [], [(11, [(3, 3, ⟨[(54, kB)], [52, 53]⟩), (7, 3, ⟨[(58, kB)], [56, 57]⟩)]), (29, [(3, 3, ⟨[(108, kB)], [106, 107]⟩), (7, 4, ⟨[(113, kB)], [110, 111, 112]⟩), (12, 4, ⟨[(118, kB)], [115, 116, 117]⟩), (17, 4, ⟨[(123, kB)], [120, 121, 122]⟩), (22, 4, ⟨[(128, kB)], [125, 126, 127]⟩)])]⟩ [.int .u8 a0] R w = sh6 a0 R w := by kernel_rfl
def sh26 (a0 : Option Addr) (R : List Value → World → Prop) (w : World) : Prop :=
 nn a0 fun b1 o2 =>
 ldP w b1 (o2 + 7) fun p3 =>
 nn p3 fun b4 o5 =>
 ldP w b4 o5 fun p6 =>
 cl Pg 58 [.pointer p6] [.l (.i .u64)] w fun (r7 : Int × Unit) w8 =>
 R [.int .u64 r7.1] w8
theorem tie26 (a0 : Option Addr) (R : List Value → World → Prop) (w : World) : compF Pg Tryz.f26 ⟨[], [], [], []⟩ [.pointer a0] R w = sh26 a0 R w := by kernel_rfl
theorem call26 {a0 : Option Addr} {w : World} {K : TK [.l (.i .u64)] → World → Prop} (h : sh26 a0 (fun vs w' => ∃ t, encK [.l (.i .u64)] t = vs ∧ K t w') w) : cl Pg 26 [.pointer a0] [.l (.i .u64)] w K := cl_of Tryz.func26 (tie26 ..) h
def sh7 (a0 : Int) (a1 : Int) (a2 : Int) (R : List Value → World → Prop) (w : World) : Prop :=
 cl Pg 17 [] [kB] w fun (r1 : Bool × Unit) w2 =>
 cs (!r1.1) (
 R [.bool false] w2) (
 al w2 3 [.int .i64 5, .int .i64 1] fun b3 w4 =>
 cl Pg 18 [vS ⟨some ⟨b3, 0, none⟩, 2, 2⟩] [.a [(.i .i64), .s, .s, .s, .s, .s, .s, .s, (.i .i64)]] w4 fun (r5 : (Int × Sl × Sl × Sl × Sl × Sl × Sl × Sl × Int × Unit) × Unit) w6 =>
 al w6 33 [.int .i64 0, .slice none 0 0, .slice none 0 0, .slice none 0 0, .slice none 0 0, .slice none 0 0, .slice none 0 0, .slice none 0 0, .int .i64 0] fun b7 w8 =>
 st1 w8 b7 0 (.int .i64 r5.1.1) fun w9 =>
 st1 w9 b7 (0 + 1) (vS r5.1.2.1) fun w10 =>
 st1 w10 b7 (0 + 2) (vS r5.1.2.2.1) fun w11 =>
 st1 w11 b7 (0 + 3) (vS r5.1.2.2.2.1) fun w12 =>
 st1 w12 b7 (0 + 4) (vS r5.1.2.2.2.2.1) fun w13 =>
 st1 w13 b7 (0 + 5) (vS r5.1.2.2.2.2.2.1) fun w14 =>
 st1 w14 b7 (0 + 6) (vS r5.1.2.2.2.2.2.2.1) fun w15 =>
 st1 w15 b7 (0 + 7) (vS r5.1.2.2.2.2.2.2.2.1) fun w16 =>
 st1 w16 b7 (0 + 8) (.int .i64 r5.1.2.2.2.2.2.2.2.2.1) fun w17 =>
 ldI w17 .i64 b7 0 fun n18 =>
 ldS w17 b7 (0 + 1) fun s19 =>
 ldS w17 b7 (0 + 2) fun s20 =>
 ldS w17 b7 (0 + 3) fun s21 =>
 ldS w17 b7 (0 + 4) fun s22 =>
 ldS w17 b7 (0 + 5) fun s23 =>
 ldS w17 b7 (0 + 6) fun s24 =>
 ldS w17 b7 (0 + 7) fun s25 =>
 ldI w17 .i64 b7 (0 + 8) fun n26 =>
 cl Pg 19 [.agg #[.int .i64 n18, vS s19, vS s20, vS s21, vS s22, vS s23, vS s24, vS s25, .int .i64 n26]] [kP] w17 fun (r27 : Option Addr × Unit) w28 =>
 cs r27.1.isNone (
 R [.bool false] w28) (
 al w28 2 [.int .i64 299] fun b29 w30 =>
 cl Pg 20 [.pointer r27.1, .int .i64 22, vS ⟨some ⟨b29, 0, none⟩, 1, 1⟩] [kI, kI] w30 fun (r31 : Int × Int × Unit) w32 =>
 lp [kI] w32 ((0 : Int), ()) fun (t33 : Int × Unit) J34 w35 =>
 cs (decide ((t33.1 : Int) < (w64 (Int.tmod a1 100) : Int))) (
 cl Pg 22 [.pointer r27.1] [kS] w35 fun (r36 : Sl × Unit) w37 =>
 J34 (w64 (t33.1 + 1), ()) w37) (
 al w35 2 [.int .i64 (w64 (Int.tmod a0 281474976710656))] fun b38 w39 =>
 cl Pg 20 [.pointer r27.1, .int .i64 51, vS ⟨some ⟨b38, 0, none⟩, 1, 1⟩] [kI, kI] w39 fun (r40 : Int × Int × Unit) w41 =>
 lp [kI] w41 ((0 : Int), ()) fun (t42 : Int × Unit) J43 w44 =>
 cs (decide ((t42.1 : Int) < (w64 (Int.tmod a2 100) : Int))) (
 cl Pg 22 [.pointer r27.1] [kS] w44 fun (r45 : Sl × Unit) w46 =>
 J43 (w64 (t42.1 + 1), ()) w46) (
 cl Pg 20 [.pointer r27.1, .int .i64 52, .slice none 0 0] [kI, kI] w44 fun (r47 : Int × Int × Unit) w48 =>
 jn [kB] w48 (fun (t50 : Bool × Unit) w51 =>
 jn [kB] w51 (fun (t54 : Bool × Unit) w55 =>
 jn [kB] w55 (fun (t58 : Bool × Unit) w59 =>
 jn [kB] w59 (fun (t62 : Bool × Unit) w63 =>
 jn [kB] w63 (fun (t67 : Bool × Unit) w68 =>
 R [.bool t67.1] w68) fun J66 w69 =>
 cs t62.1 (
 cl Pg 27 [.pointer r27.1, .int .i64 2] [kI] w69 fun (r70 : Int × Unit) w71 =>
 J66 ((r70.1 : Int) == (4 : Int), ()) w71) (
 J66 (false, ()) w69)) fun J61 w65 =>
 cs t58.1 (
 cl Pg 21 [.pointer r27.1] [kI] w65 fun (r72 : Int × Unit) w73 =>
 J61 ((r72.1 : Int) == (1 : Int), ()) w73) (
 J61 (false, ()) w65)) fun J57 w60 =>
 cs t54.1 (
 cl Pg 26 [.pointer r27.1] [.l (.i .u64)] w60 fun (r74 : Int × Unit) w75 =>
 J57 ((r74.1 : Int) == (IntKind.u64.wrap (r47.2.1) : Int), ()) w75) (
 J57 (false, ()) w60)) fun J53 w56 =>
 cs t50.1 (
 J53 ((r47.2.1 : Int) == (Int.tmod (w64 ((w64 (Int.tmod a0 281474976710656)) + (w64 (Int.tmod a2 100)))) 281474976710656 : Int), ()) w56) (
 J53 (false, ()) w56)) fun J49 w52 =>
 cs ((r40.1 : Int) == (0 : Int)) (
 J49 ((r47.1 : Int) == (0 : Int), ()) w52) (
 J49 (false, ()) w52)))))
theorem tie7 (a0 : Int) (a1 : Int) (a2 : Int) (R : List Value → World → Prop) (w : World) : compF Pg Tryz.f7 ⟨[(3, ⟨[(9, kI)], [27, 28, 29, 30, 31, 32, 33, 34, 35]⟩), (7, ⟨[(13, kI)], [46, 47, 48, 49, 50, 51, 52, 53, 54]⟩)], [], [], [(19, [(3, 3, ⟨[(65, kB)], [63, 64]⟩), (7, 9, ⟨[(75, kB)], [67, 68, 69, 70, 71, 72, 73, 74]⟩), (17, 6, ⟨[(82, kB)], [77, 78, 79, 80, 81]⟩), (24, 4, ⟨[(87, kB)], [84, 85, 86]⟩), (29, 4, ⟨[(92, kB)], [89, 90, 91]⟩)])]⟩ [.int .u64 a0, .int .u8 a1, .int .u8 a2] R w = sh7 a0 a1 a2 R w := by kernel_rfl
def sh33 (a0 : Option Addr) (a1 : Int) (R : List Value → World → Prop) (w : World) : Prop :=
 cl Pg 68 [.pointer a0, .int .i64 a1] [kB] w fun (r1 : Bool × Unit) w2 =>
 cs (!r1.1) (
 R [.slice none 0 0] w2) (
 nn a0 fun b3 o4 =>
 ldS w2 b3 o4 fun s5 =>
 ix s5 a1 4 fun b6 o7 =>
 ldS w2 b6 (o7 + 3) fun s8 =>
 cl Pg 70 [vS s8] [kS] w2 fun (r9 : Sl × Unit) w10 =>
 cl Pg 69 [vS r9.1] [kS] w10 fun (r11 : Sl × Unit) w12 =>
 R [vS r11.1] w12)
theorem tie33 (a0 : Option Addr) (a1 : Int) (R : List Value → World → Prop) (w : World) : compF Pg Tryz.f33 ⟨[], [], [], []⟩ [.pointer a0, .int .i64 a1] R w = sh33 a0 a1 R w := by kernel_rfl
theorem call33 {a0 : Option Addr} {a1 : Int} {w : World} {K : TK [kS] → World → Prop} (h : sh33 a0 a1 (fun vs w' => ∃ t, encK [kS] t = vs ∧ K t w') w) : cl Pg 33 [.pointer a0, .int .i64 a1] [kS] w K := cl_of Tryz.func33 (tie33 ..) h
def sh34 (a0 : Option Addr) (a1 : Int) (R : List Value → World → Prop) (w : World) : Prop :=
 cl Pg 68 [.pointer a0, .int .i64 a1] [kB] w fun (r1 : Bool × Unit) w2 =>
 cs (!r1.1) (
 R [.int .i64 0] w2) (
 nn a0 fun b3 o4 =>
 ldS w2 b3 o4 fun s5 =>
 ix s5 a1 4 fun b6 o7 =>
 ldI w2 .i64 b6 (o7 + 2) fun n8 =>
 R [.int .i64 n8] w2)
theorem tie34 (a0 : Option Addr) (a1 : Int) (R : List Value → World → Prop) (w : World) : compF Pg Tryz.f34 ⟨[], [], [], []⟩ [.pointer a0, .int .i64 a1] R w = sh34 a0 a1 R w := by kernel_rfl
theorem call34 {a0 : Option Addr} {a1 : Int} {w : World} {K : TK [kI] → World → Prop} (h : sh34 a0 a1 (fun vs w' => ∃ t, encK [kI] t = vs ∧ K t w') w) : cl Pg 34 [.pointer a0, .int .i64 a1] [kI] w K := cl_of Tryz.func34 (tie34 ..) h
def sh29 (a0 : Option Addr) (a1 : Int) (R : List Value → World → Prop) (w : World) : Prop :=
 jn [kB] w (fun (t2 : Bool × Unit) w3 =>
 cs t2.1 (
 R [.int .i64 0, .slice none 0 0, .int .i64 (-18)] w3) (
 dr w3 fun w5 =>
 nn a0 fun b6 o7 =>
 ldP w5 b6 (o7 + 5) fun p8 =>
 nn a0 fun b9 o10 =>
 ldP w5 b9 (o10 + 5) fun p11 =>
 cl Pg 34 [.pointer p8, .int .i64 a1] [kI] w5 fun (r12 : Int × Unit) w13 =>
(w13.cell? ⟨b9, o10 + 5, none⟩ = some (.pointer p11)) ∧ (
 cl Pg 33 [.pointer p11, .int .i64 a1] [kS] w13 fun (r14 : Sl × Unit) w15 =>
 R [.int .i64 r12.1, vS r14.1, .int .i64 0] w15))) fun J1 w4 =>
 cs (decide ((a1 : Int) < (1 : Int))) (
 J1 (true, ()) w4) (
 nn a0 fun b16 o17 =>
 ldI w4 .i64 b16 (o17 + 4) fun n18 =>
 J1 (decide ((a1 : Int) > (n18 : Int)), ()) w4)
theorem tie29 (a0 : Option Addr) (a1 : Int) (R : List Value → World → Prop) (w : World) : compF Pg Tryz.f29 ⟨[], [], [(3, .l [(0, []), (1, []), (2, []), (3, []), (4, []), (5, []), (7, []), (8, []), (9, []), (10, []), (11, []), (12, []), (6, [4, 5, 3, 2, 1, 0]), (13, [11, 12, 6, 10, 4, 5, 9, 3, 8, 2, 7, 1, 0]), (14, []), (15, []), (16, [])])], [(1, [(3, 8, ⟨[(17, kB)], [10, 11, 12, 13, 14, 15, 16]⟩)])]⟩ [.pointer a0, .int .i64 a1] R w = sh29 a0 a1 R w := by kernel_rfl
theorem call29 {a0 : Option Addr} {a1 : Int} {w : World} {K : TK [kI, kS, kI] → World → Prop} (h : sh29 a0 a1 (fun vs w' => ∃ t, encK [kI, kS, kI] t = vs ∧ K t w') w) : cl Pg 29 [.pointer a0, .int .i64 a1] [kI, kS, kI] w K := cl_of Tryz.func29 (tie29 ..) h
def sh9 (a0 : Int) (a1 : Int) (R : List Value → World → Prop) (w : World) : Prop :=
 cl Pg 17 [] [kB] w fun (r1 : Bool × Unit) w2 =>
 cs (!r1.1) (
 R [.bool false] w2) (
 cs (decide ((w64 (1 + (w64 (Int.tmod a1 16))) : Int) ≥ (w64 (2 + (w64 (Int.tmod a0 14))) : Int))) (
 R [.bool true] w2) (
 al w2 3 [.int .i64 (w64 (2 + (w64 (Int.tmod a0 14)))), .int .i64 (w64 (1 + (w64 (Int.tmod a1 16))))] fun b3 w4 =>
 cl Pg 18 [vS ⟨some ⟨b3, 0, none⟩, 2, 2⟩] [.a [(.i .i64), .s, .s, .s, .s, .s, .s, .s, (.i .i64)]] w4 fun (r5 : (Int × Sl × Sl × Sl × Sl × Sl × Sl × Sl × Int × Unit) × Unit) w6 =>
 al w6 33 [.int .i64 0, .slice none 0 0, .slice none 0 0, .slice none 0 0, .slice none 0 0, .slice none 0 0, .slice none 0 0, .slice none 0 0, .int .i64 0] fun b7 w8 =>
 st1 w8 b7 0 (.int .i64 r5.1.1) fun w9 =>
 st1 w9 b7 (0 + 1) (vS r5.1.2.1) fun w10 =>
 st1 w10 b7 (0 + 2) (vS r5.1.2.2.1) fun w11 =>
 st1 w11 b7 (0 + 3) (vS r5.1.2.2.2.1) fun w12 =>
 st1 w12 b7 (0 + 4) (vS r5.1.2.2.2.2.1) fun w13 =>
 st1 w13 b7 (0 + 5) (vS r5.1.2.2.2.2.2.1) fun w14 =>
 st1 w14 b7 (0 + 6) (vS r5.1.2.2.2.2.2.2.1) fun w15 =>
 st1 w15 b7 (0 + 7) (vS r5.1.2.2.2.2.2.2.2.1) fun w16 =>
 st1 w16 b7 (0 + 8) (.int .i64 r5.1.2.2.2.2.2.2.2.2.1) fun w17 =>
 ldS w17 b7 (0 + 1) fun s18 =>
 ix s18 1 2 fun b19 o20 =>
 st1 w17 b19 (o20 + 1) (.bool false) fun w21 =>
 al w21 47 [.int .i64 2, .int .i64 0] fun b22 w23 =>
 st1 w23 b7 (0 + 5) (vS ⟨some ⟨b22, 0, none⟩, 1, 1⟩) fun w24 =>
 ldI w24 .i64 b7 0 fun n25 =>
 ldS w24 b7 (0 + 1) fun s26 =>
 ldS w24 b7 (0 + 2) fun s27 =>
 ldS w24 b7 (0 + 3) fun s28 =>
 ldS w24 b7 (0 + 4) fun s29 =>
 ldS w24 b7 (0 + 5) fun s30 =>
 ldS w24 b7 (0 + 6) fun s31 =>
 ldS w24 b7 (0 + 7) fun s32 =>
 ldI w24 .i64 b7 (0 + 8) fun n33 =>
 cl Pg 19 [.agg #[.int .i64 n25, vS s26, vS s27, vS s28, vS s29, vS s30, vS s31, vS s32, .int .i64 n33]] [kP] w24 fun (r34 : Option Addr × Unit) w35 =>
 cs r34.1.isNone (
 R [.bool false] w35) (
 al w35 2 [.int .i64 1] fun b36 w37 =>
 cl Pg 20 [.pointer r34.1, .int .i64 43, vS ⟨some ⟨b36, 0, none⟩, 1, 1⟩] [kI, kI] w37 fun (r38 : Int × Int × Unit) w39 =>
 al w39 2 [.int .i64 2] fun b40 w41 =>
 cl Pg 20 [.pointer r34.1, .int .i64 1, vS ⟨some ⟨b40, 0, none⟩, 1, 1⟩] [kI, kI] w41 fun (r42 : Int × Int × Unit) w43 =>
 jn [kB] w43 (fun (t45 : Bool × Unit) w46 =>
 jn [kB] w46 (fun (t49 : Bool × Unit) w50 =>
 cs t49.1 (
 R [.bool false] w50) (
 al w50 2 [.int .i64 1] fun b52 w53 =>
 cl Pg 20 [.pointer r34.1, .int .i64 43, vS ⟨some ⟨b52, 0, none⟩, 1, 1⟩] [kI, kI] w53 fun (r54 : Int × Int × Unit) w55 =>
 al w55 2 [.int .i64 1] fun b56 w57 =>
 cl Pg 20 [.pointer r34.1, .int .i64 7, vS ⟨some ⟨b56, 0, none⟩, 1, 1⟩] [kI, kI] w57 fun (r58 : Int × Int × Unit) w59 =>
 jn [kB] w59 (fun (t61 : Bool × Unit) w62 =>
 jn [kB] w62 (fun (t65 : Bool × Unit) w66 =>
 cs t65.1 (
 R [.bool false] w66) (
 al w66 2 [.int .i64 1] fun b68 w69 =>
 cl Pg 20 [.pointer r34.1, .int .i64 46, vS ⟨some ⟨b68, 0, none⟩, 1, 1⟩] [kI, kI] w69 fun (r70 : Int × Int × Unit) w71 =>
 al w71 2 [.int .i64 1] fun b72 w73 =>
 cl Pg 20 [.pointer r34.1, .int .i64 7, vS ⟨some ⟨b72, 0, none⟩, 1, 1⟩] [kI, kI] w73 fun (r74 : Int × Int × Unit) w75 =>
 cl Pg 29 [.pointer r34.1, .int .i64 1] [kI, kS, kI] w75 fun (r76 : Int × Sl × Int × Unit) w77 =>
 cl Pg 23 [.pointer r34.1, .int .i64 2] [kI, kI] w77 fun (r78 : Int × Int × Unit) w79 =>
 jn [kB] w79 (fun (t81 : Bool × Unit) w82 =>
 jn [kB] w82 (fun (t85 : Bool × Unit) w86 =>
 jn [kB] w86 (fun (t89 : Bool × Unit) w90 =>
 jn [kB] w90 (fun (t93 : Bool × Unit) w94 =>
 R [.bool t93.1] w94) fun J92 w95 =>
 cs t89.1 (
 J92 ((r78.1 : Int) == (0 : Int), ()) w95) (
 J92 (false, ()) w95)) fun J88 w91 =>
 cs t85.1 (
 J88 ((r76.1 : Int) == (2 : Int), ()) w91) (
 J88 (false, ()) w91)) fun J84 w87 =>
 cs t81.1 (
 J84 ((r74.2.1 : Int) == (w64 (2 + (w64 (Int.tmod a0 14))) : Int), ()) w87) (
 J84 (false, ()) w87)) fun J80 w83 =>
 cs ((r70.1 : Int) == (0 : Int)) (
 cl Pg 21 [.pointer r34.1] [kI] w83 fun (r96 : Int × Unit) w97 =>
 J80 ((r96.1 : Int) == (2 : Int), ()) w97) (
 J80 (false, ()) w83))) fun J64 w67 =>
 cs t61.1 (
 J64 (true, ()) w67) (
 J64 ((r58.2.1 : Int) != (w64 (1 + (w64 (Int.tmod a1 16))) : Int), ()) w67)) fun J60 w63 =>
 cs ((r54.1 : Int) != (1 : Int)) (
 J60 (true, ()) w63) (
 cl Pg 21 [.pointer r34.1] [kI] w63 fun (r98 : Int × Unit) w99 =>
 J60 ((r98.1 : Int) != (1 : Int), ()) w99))) fun J48 w51 =>
 cs t45.1 (
 J48 (true, ()) w51) (
 cl Pg 21 [.pointer r34.1] [kI] w51 fun (r100 : Int × Unit) w101 =>
 J48 ((r100.1 : Int) != (2 : Int), ()) w101)) fun J44 w47 =>
 cs ((r38.1 : Int) != (0 : Int)) (
 J44 (true, ()) w47) (
 J44 ((r42.1 : Int) != (0 : Int), ()) w47))))
theorem tie9 (a0 : Int) (a1 : Int) (R : List Value → World → Prop) (w : World) : compF Pg Tryz.f9 ⟨[], [], [], [(15, [(3, 3, ⟨[(71, kB)], [69, 70]⟩), (7, 4, ⟨[(76, kB)], [73, 74, 75]⟩)]), (19, [(3, 4, ⟨[(95, kB)], [92, 93, 94]⟩), (8, 4, ⟨[(100, kB)], [97, 98, 99]⟩)]), (25, [(3, 4, ⟨[(130, kB)], [127, 128, 129]⟩), (8, 4, ⟨[(135, kB)], [132, 133, 134]⟩), (13, 3, ⟨[(139, kB)], [137, 138]⟩), (17, 3, ⟨[(143, kB)], [141, 142]⟩)])]⟩ [.int .u8 a0, .int .u8 a1] R w = sh9 a0 a1 R w := by kernel_rfl
end Go.Proofs.YtenonfkfoedfmaaGreatDoor.B


/- Printed by sh.py: each Go function as a typed shallow program, and its tie to the code. -/
namespace Go.Proofs.YtenonfkfoedfmaaGreatDoor.B
open Go Go.Proofs
set_option linter.unusedVariables false
set_option maxRecDepth 100000
def sh10 (a0 : Int) (R : List Value → World → Prop) (w : World) : Prop :=
 cl Pg 17 [] [kB] w fun (r1 : Bool × Unit) w2 =>
 cs (!r1.1) (
 R [.bool false] w2) (
 al w2 3 [.int .i64 3, .int .i64 8] fun b3 w4 =>
 cl Pg 18 [vS ⟨some ⟨b3, 0, none⟩, 2, 2⟩] [.a [(.i .i64), .s, .s, .s, .s, .s, .s, .s, (.i .i64)]] w4 fun (r5 : (Int × Sl × Sl × Sl × Sl × Sl × Sl × Sl × Int × Unit) × Unit) w6 =>
 al w6 33 [.int .i64 0, .slice none 0 0, .slice none 0 0, .slice none 0 0, .slice none 0 0, .slice none 0 0, .slice none 0 0, .slice none 0 0, .int .i64 0] fun b7 w8 =>
 st1 w8 b7 0 (.int .i64 r5.1.1) fun w9 =>
 st1 w9 b7 (0 + 1) (vS r5.1.2.1) fun w10 =>
 st1 w10 b7 (0 + 2) (vS r5.1.2.2.1) fun w11 =>
 st1 w11 b7 (0 + 3) (vS r5.1.2.2.2.1) fun w12 =>
 st1 w12 b7 (0 + 4) (vS r5.1.2.2.2.2.1) fun w13 =>
 st1 w13 b7 (0 + 5) (vS r5.1.2.2.2.2.2.1) fun w14 =>
 st1 w14 b7 (0 + 6) (vS r5.1.2.2.2.2.2.2.1) fun w15 =>
 st1 w15 b7 (0 + 7) (vS r5.1.2.2.2.2.2.2.2.1) fun w16 =>
 st1 w16 b7 (0 + 8) (.int .i64 r5.1.2.2.2.2.2.2.2.2.1) fun w17 =>
 al w17 47 [.int .i64 0, .int .i64 0] fun b18 w19 =>
 st1 w19 b7 (0 + 5) (vS ⟨some ⟨b18, 0, none⟩, 1, 1⟩) fun w20 =>
 ldI w20 .i64 b7 0 fun n21 =>
 ldS w20 b7 (0 + 1) fun s22 =>
 ldS w20 b7 (0 + 2) fun s23 =>
 ldS w20 b7 (0 + 3) fun s24 =>
 ldS w20 b7 (0 + 4) fun s25 =>
 ldS w20 b7 (0 + 5) fun s26 =>
 ldS w20 b7 (0 + 6) fun s27 =>
 ldS w20 b7 (0 + 7) fun s28 =>
 ldI w20 .i64 b7 (0 + 8) fun n29 =>
 cl Pg 19 [.agg #[.int .i64 n21, vS s22, vS s23, vS s24, vS s25, vS s26, vS s27, vS s28, .int .i64 n29]] [kP] w20 fun (r30 : Option Addr × Unit) w31 =>
 cs r30.1.isNone (
 R [.bool false] w31) (
 al w31 2 [.int .i64 1] fun b32 w33 =>
 cl Pg 20 [.pointer r30.1, .int .i64 43, vS ⟨some ⟨b32, 0, none⟩, 1, 1⟩] [kI, kI] w33 fun (r34 : Int × Int × Unit) w35 =>
 al w35 2 [.int .i64 0] fun b36 w37 =>
 cl Pg 20 [.pointer r30.1, .int .i64 22, vS ⟨some ⟨b36, 0, none⟩, 1, 1⟩] [kI, kI] w37 fun (r38 : Int × Int × Unit) w39 =>
 al w39 2 [.int .i64 1] fun b40 w41 =>
 cl Pg 20 [.pointer r30.1, .int .i64 43, vS ⟨some ⟨b40, 0, none⟩, 1, 1⟩] [kI, kI] w41 fun (r42 : Int × Int × Unit) w43 =>
 jn [kB] w43 (fun (t45 : Bool × Unit) w46 =>
 cs t45.1 (
 R [.bool false] w46) (
 cl Pg 22 [.pointer r30.1] [kS] w46 fun (r48 : Sl × Unit) w49 =>
 cl Pg 21 [.pointer r30.1] [kI] w49 fun (r50 : Int × Unit) w51 =>
 cs ((r50.1 : Int) != (1 : Int)) (
 R [.bool false] w51) (
 al w51 2 [.int .i64 0, .int .i64 (w64 (1 + (w64 (Int.tmod a0 16))))] fun b52 w53 =>
 cl Pg 20 [.pointer r30.1, .int .i64 6, vS ⟨some ⟨b52, 0, none⟩, 2, 2⟩] [kI, kI] w53 fun (r54 : Int × Int × Unit) w55 =>
 cl Pg 20 [.pointer r30.1, .int .i64 4, .slice none 0 0] [kI, kI] w55 fun (r56 : Int × Int × Unit) w57 =>
 cl Pg 29 [.pointer r30.1, .int .i64 1] [kI, kS, kI] w57 fun (r58 : Int × Sl × Int × Unit) w59 =>
 cl Pg 24 [.pointer r30.1, .int .i64 1] [.a [(.i .i64), (.i .i64), (.i .i64), (.i .i64), (.i .i64), (.i .i64), (.i .i64), (.i .i64)], .a [(.i .i64), (.i .i64), (.i .i64)], kI] w59 fun (r60 : (Int × Int × Int × Int × Int × Int × Int × Int × Unit) × (Int × Int × Int × Unit) × Int × Unit) w61 =>
 al w61 59 [.int .i64 0, .int .i64 0, .int .i64 0, .int .i64 0, .int .i64 0, .int .i64 0, .int .i64 0, .int .i64 0] fun b62 w63 =>
 al w63 61 [.int .i64 0, .int .i64 0, .int .i64 0] fun b64 w65 =>
 st1 w65 b62 0 (.int .i64 r60.1.1) fun w66 =>
 st1 w66 b62 (0 + 1) (.int .i64 r60.1.2.1) fun w67 =>
 st1 w67 b62 (0 + 2) (.int .i64 r60.1.2.2.1) fun w68 =>
 st1 w68 b62 (0 + 3) (.int .i64 r60.1.2.2.2.1) fun w69 =>
 st1 w69 b62 (0 + 4) (.int .i64 r60.1.2.2.2.2.1) fun w70 =>
 st1 w70 b62 (0 + 5) (.int .i64 r60.1.2.2.2.2.2.1) fun w71 =>
 st1 w71 b62 (0 + 6) (.int .i64 r60.1.2.2.2.2.2.2.1) fun w72 =>
 st1 w72 b62 (0 + 7) (.int .i64 r60.1.2.2.2.2.2.2.2.1) fun w73 =>
 st1 w73 b64 0 (.int .i64 r60.2.1.1) fun w74 =>
 st1 w74 b64 (0 + 1) (.int .i64 r60.2.1.2.1) fun w75 =>
 st1 w75 b64 (0 + 2) (.int .i64 r60.2.1.2.2.1) fun w76 =>
 cl Pg 23 [.pointer r30.1, .int .i64 2] [kI, kI] w76 fun (r77 : Int × Int × Unit) w78 =>
 jn [kB] w78 (fun (t80 : Bool × Unit) w81 =>
 jn [kB] w81 (fun (t84 : Bool × Unit) w85 =>
 jn [kB] w85 (fun (t88 : Bool × Unit) w89 =>
 jn [kB] w89 (fun (t92 : Bool × Unit) w93 =>
 jn [kB] w93 (fun (t96 : Bool × Unit) w97 =>
 jn [kB] w97 (fun (t100 : Bool × Unit) w101 =>
 jn [kB] w101 (fun (t104 : Bool × Unit) w105 =>
 R [.bool t104.1] w105) fun J103 w106 =>
 cs t100.1 (
 cl Pg 21 [.pointer r30.1] [kI] w106 fun (r107 : Int × Unit) w108 =>
 J103 ((r107.1 : Int) == (2 : Int), ()) w108) (
 J103 (false, ()) w106)) fun J99 w102 =>
 cs t96.1 (
 J99 ((r77.1 : Int) == (0 : Int), ()) w102) (
 J99 (false, ()) w102)) fun J95 w98 =>
 cs t92.1 (
 ldI w98 .i64 b62 (0 + 2) fun n109 =>
 J95 ((n109 : Int) == (3 : Int), ()) w98) (
 J95 (false, ()) w98)) fun J91 w94 =>
 cs t88.1 (
 ldI w94 .i64 b62 (0 + 1) fun n110 =>
 J91 ((n110 : Int) == (3 : Int), ()) w94) (
 J91 (false, ()) w94)) fun J87 w90 =>
 cs t84.1 (
 ldI w90 .i64 b62 0 fun n111 =>
 J87 ((n111 : Int) == (16 : Int), ()) w90) (
 J87 (false, ()) w90)) fun J83 w86 =>
 cs t80.1 (
 J83 (((r58.2.1.len : Int) : Int) == (0 : Int), ()) w86) (
 J83 (false, ()) w86)) fun J79 w82 =>
 cs ((r56.1 : Int) == (0 : Int)) (
 J79 ((r58.1 : Int) == (2 : Int), ()) w82) (
 J79 (false, ()) w82)))) fun J44 w47 =>
 cs ((r42.1 : Int) != (1 : Int)) (
 J44 (true, ()) w47) (
 cl Pg 21 [.pointer r30.1] [kI] w47 fun (r112 : Int × Unit) w113 =>
 J44 ((r112.1 : Int) != (0 : Int), ()) w113)))
theorem tie10 (a0 : Int) (R : List Value → World → Prop) (w : World) : compF Pg Tryz.f10 ⟨[], [], [], [(12, [(3, 4, ⟨[(51, kB)], [48, 49, 50]⟩)]), (22, [(3, 3, ⟨[(88, kB)], [86, 87]⟩), (7, 4, ⟨[(93, kB)], [90, 91, 92]⟩), (12, 4, ⟨[(98, kB)], [95, 96, 97]⟩), (17, 4, ⟨[(103, kB)], [100, 101, 102]⟩), (22, 4, ⟨[(108, kB)], [105, 106, 107]⟩), (27, 3, ⟨[(112, kB)], [110, 111]⟩), (31, 4, ⟨[(117, kB)], [114, 115, 116]⟩)])]⟩ [.int .u8 a0] R w = sh10 a0 R w := by kernel_rfl
def sh11 (a0 : Int) (a1 : Int) (a2 : (Int × Int × Int × Unit)) (R : List Value → World → Prop) (w : World) : Prop :=
 al w 77 [.int .u8 a2.1, .int .u8 a2.2.1, .int .u8 a2.2.2.1] fun b1 w2 =>
 cl Pg 17 [] [kB] w2 fun (r3 : Bool × Unit) w4 =>
 cs (!r3.1) (
 R [.bool false] w4) (
 al w4 47 [.int .i64 (w64 (Int.tmod a0 3)), .int .i64 0, .int .i64 (w64 (Int.tmod a1 3)), .int .i64 0] fun b5 w6 =>
 ixA b1 0 3 0 1 fun b7 o8 =>
 ldI w6 .u8 b7 o8 fun n9 =>
 ixA b1 0 3 1 1 fun b10 o11 =>
 ldI w6 .u8 b10 o11 fun n12 =>
 ixA b1 0 3 2 1 fun b13 o14 =>
 ldI w6 .u8 b13 o14 fun n15 =>
 al w6 3 [.int .i64 (w64 (1 + (w64 (Int.tmod n9 16)))), .int .i64 (w64 (1 + (w64 (Int.tmod n12 16)))), .int .i64 (w64 (1 + (w64 (Int.tmod n15 16))))] fun b16 w17 =>
 cl Pg 18 [vS ⟨some ⟨b16, 0, none⟩, 3, 3⟩] [.a [(.i .i64), .s, .s, .s, .s, .s, .s, .s, (.i .i64)]] w17 fun (r18 : (Int × Sl × Sl × Sl × Sl × Sl × Sl × Sl × Int × Unit) × Unit) w19 =>
 al w19 33 [.int .i64 0, .slice none 0 0, .slice none 0 0, .slice none 0 0, .slice none 0 0, .slice none 0 0, .slice none 0 0, .slice none 0 0, .int .i64 0] fun b20 w21 =>
 st1 w21 b20 0 (.int .i64 r18.1.1) fun w22 =>
 st1 w22 b20 (0 + 1) (vS r18.1.2.1) fun w23 =>
 st1 w23 b20 (0 + 2) (vS r18.1.2.2.1) fun w24 =>
 st1 w24 b20 (0 + 3) (vS r18.1.2.2.2.1) fun w25 =>
 st1 w25 b20 (0 + 4) (vS r18.1.2.2.2.2.1) fun w26 =>
 st1 w26 b20 (0 + 5) (vS r18.1.2.2.2.2.2.1) fun w27 =>
 st1 w27 b20 (0 + 6) (vS r18.1.2.2.2.2.2.2.1) fun w28 =>
 st1 w28 b20 (0 + 7) (vS r18.1.2.2.2.2.2.2.2.1) fun w29 =>
 st1 w29 b20 (0 + 8) (.int .i64 r18.1.2.2.2.2.2.2.2.2.1) fun w30 =>
 st1 w30 b20 (0 + 5) (vS ⟨some ⟨b5, 0, none⟩, 2, 2⟩) fun w31 =>
 ldI w31 .i64 b20 0 fun n32 =>
 ldS w31 b20 (0 + 1) fun s33 =>
 ldS w31 b20 (0 + 2) fun s34 =>
 ldS w31 b20 (0 + 3) fun s35 =>
 ldS w31 b20 (0 + 4) fun s36 =>
 ldS w31 b20 (0 + 5) fun s37 =>
 ldS w31 b20 (0 + 6) fun s38 =>
 ldS w31 b20 (0 + 7) fun s39 =>
 ldI w31 .i64 b20 (0 + 8) fun n40 =>
 cl Pg 19 [.agg #[.int .i64 n32, vS s33, vS s34, vS s35, vS s36, vS s37, vS s38, vS s39, .int .i64 n40]] [kP] w31 fun (r41 : Option Addr × Unit) w42 =>
 cl Pg 30 [vS ⟨some ⟨b5, 0, none⟩, 2, 2⟩] [kP, kI] w42 fun (r43 : Option Addr × Int × Unit) w44 =>
 jn [kB] w44 (fun (t46 : Bool × Unit) w47 =>
 cs t46.1 (
 R [.bool false] w47) (
 lp [kI] w47 ((0 : Int), ()) fun (t49 : Int × Unit) J50 w51 =>
 cs (decide ((t49.1 : Int) < (3 : Int))) (
 ix ⟨some ⟨b16, 0, none⟩, 3, 3⟩ t49.1 1 fun b52 o53 =>
 ldI w51 .i64 b52 o53 fun n54 =>
 cl Pg 31 [.pointer r43.1, .int .i64 (w64 (t49.1 + 1)), .int .i64 n54] [kI] w51 fun (r55 : Int × Unit) w56 =>
 J50 (w64 (t49.1 + 1), ()) w56) (
 lp [kI] w51 ((0 : Int), ()) fun (t57 : Int × Unit) J58 w59 =>
 jn [kB] w59 (fun (t61 : Bool × Unit) w62 =>
 cs t61.1 (
 cl Pg 21 [.pointer r41.1] [kI] w62 fun (r64 : Int × Unit) w65 =>
 al w65 2 [.int .i64 (w64 (1 + (Int.tmod (w64 (Int.tdiv t57.1 2)) 2)))] fun b66 w67 =>
 cl Pg 20 [.pointer r41.1, .int .i64 43, vS ⟨some ⟨b66, 0, none⟩, 1, 1⟩] [kI, kI] w67 fun (r68 : Int × Int × Unit) w69 =>
 cl Pg 32 [.pointer r43.1, .int .i64 (w64 (1 + (Int.tmod (w64 (Int.tdiv t57.1 2)) 2))), .int .i64 r64.1] [kB, kI] w69 fun (r70 : Bool × Int × Unit) w71 =>
 jn [kB] w71 (fun (t73 : Bool × Unit) w74 =>
 jn [kB] w74 (fun (t77 : Bool × Unit) w78 =>
 cs t77.1 (
 R [.bool false] w78) (
 lp [kI] w78 ((1 : Int), ()) fun (t80 : Int × Unit) J81 w82 =>
 cs (decide ((t80.1 : Int) ≤ (2 : Int))) (
 cl Pg 29 [.pointer r41.1, .int .i64 t80.1] [kI, kS, kI] w82 fun (r83 : Int × Sl × Int × Unit) w84 =>
 cl Pg 33 [.pointer r43.1, .int .i64 t80.1] [kS] w84 fun (r85 : Sl × Unit) w86 =>
 cl Pg 34 [.pointer r43.1, .int .i64 t80.1] [kI] w86 fun (r87 : Int × Unit) w88 =>
 jn [kB] w88 (fun (t90 : Bool × Unit) w91 =>
 cs t90.1 (
 R [.bool false] w91) (
 lp [kI] w91 ((0 : Int), ()) fun (t93 : Int × Unit) J94 w95 =>
 cs (decide ((t93.1 : Int) < ((r83.2.1.len : Int) : Int))) (
 dr w95 fun w96 =>
 ix r83.2.1 t93.1 1 fun b97 o98 =>
 ldI w96 .i64 b97 o98 fun n99 =>
 ix r85.1 t93.1 1 fun b100 o101 =>
 ldI w96 .i64 b100 o101 fun n102 =>
 cs ((n99 : Int) != (n102 : Int)) (
 R [.bool false] w96) (
 J94 (w64 (t93.1 + 1), ()) w96)) (
 J81 (w64 (t80.1 + 1), ()) w95))) fun J89 w92 =>
 cs ((r83.1 : Int) != (r87.1 : Int)) (
 J89 (true, ()) w92) (
 J89 (((r83.2.1.len : Int) : Int) != ((r85.1.len : Int) : Int), ()) w92)) (
 lp [kI] w82 ((1 : Int), ()) fun (t103 : Int × Unit) J104 w105 =>
 cs (decide ((t103.1 : Int) ≤ (3 : Int))) (
 cl Pg 24 [.pointer r41.1, .int .i64 t103.1] [.a [(.i .i64), (.i .i64), (.i .i64), (.i .i64), (.i .i64), (.i .i64), (.i .i64), (.i .i64)], .a [(.i .i64), (.i .i64), (.i .i64)], kI] w105 fun (r106 : (Int × Int × Int × Int × Int × Int × Int × Int × Unit) × (Int × Int × Int × Unit) × Int × Unit) w107 =>
 al w107 59 [.int .i64 0, .int .i64 0, .int .i64 0, .int .i64 0, .int .i64 0, .int .i64 0, .int .i64 0, .int .i64 0] fun b108 w109 =>
 al w109 61 [.int .i64 0, .int .i64 0, .int .i64 0] fun b110 w111 =>
 st1 w111 b108 0 (.int .i64 r106.1.1) fun w112 =>
 st1 w112 b108 (0 + 1) (.int .i64 r106.1.2.1) fun w113 =>
 st1 w113 b108 (0 + 2) (.int .i64 r106.1.2.2.1) fun w114 =>
 st1 w114 b108 (0 + 3) (.int .i64 r106.1.2.2.2.1) fun w115 =>
 st1 w115 b108 (0 + 4) (.int .i64 r106.1.2.2.2.2.1) fun w116 =>
 st1 w116 b108 (0 + 5) (.int .i64 r106.1.2.2.2.2.2.1) fun w117 =>
 st1 w117 b108 (0 + 6) (.int .i64 r106.1.2.2.2.2.2.2.1) fun w118 =>
 st1 w118 b108 (0 + 7) (.int .i64 r106.1.2.2.2.2.2.2.2.1) fun w119 =>
 st1 w119 b110 0 (.int .i64 r106.2.1.1) fun w120 =>
 st1 w120 b110 (0 + 1) (.int .i64 r106.2.1.2.1) fun w121 =>
 st1 w121 b110 (0 + 2) (.int .i64 r106.2.1.2.2.1) fun w122 =>
 dr w122 fun w123 =>
 jn [kB] w123 (fun (t125 : Bool × Unit) w126 =>
 cs t125.1 (
 R [.bool false] w126) (
 J104 (w64 (t103.1 + 1), ()) w126)) fun J124 w127 =>
 ldI w127 .i64 b108 (0 + 1) fun n128 =>
 cl Pg 35 [.pointer r43.1, .int .i64 t103.1] [kI] w127 fun (r129 : Int × Unit) w130 =>
(w130.cell? ⟨b108, 0 + 1, none⟩ = some (.int .i64 n128)) ∧ (
 cs ((n128 : Int) != (r129.1 : Int)) (
 J124 (true, ()) w130) (
 ldI w130 .i64 b108 (0 + 2) fun n131 =>
 cl Pg 36 [.pointer r43.1, .int .i64 t103.1] [kI] w130 fun (r132 : Int × Unit) w133 =>
(w133.cell? ⟨b108, 0 + 2, none⟩ = some (.int .i64 n131)) ∧ (
 J124 ((n131 : Int) != (r132.1 : Int), ()) w133)))) (
 J58 (w64 (t57.1 + 1), ()) w105)))) fun J76 w79 =>
 cs t73.1 (
 J76 (true, ()) w79) (
 jn [kB] w79 (fun (t135 : Bool × Unit) w136 =>
 J76 (t135.1, ()) w136) fun J134 w137 =>
 cs ((r70.2.1 : Int) == (0 : Int)) (
 J134 (!(((r68.1 : Int) == (0 : Int)) == r70.1), ()) w137) (
 J134 (false, ()) w137))) fun J72 w75 =>
 cs ((r70.2.1 : Int) != (0 : Int)) (
 J72 ((r68.1 : Int) != (r70.2.1 : Int), ()) w75) (
 J72 (false, ()) w75)) (
 R [.bool true] w62)) fun J60 w63 =>
 cs (decide ((t57.1 : Int) < (8 : Int))) (
 cl Pg 21 [.pointer r41.1] [kI] w63 fun (r138 : Int × Unit) w139 =>
 J60 ((r138.1 : Int) != (0 : Int), ()) w139) (
 J60 (false, ()) w63)))) fun J45 w48 =>
 cs r41.1.isNone (
 J45 (true, ()) w48) (
 J45 ((r43.2.1 : Int) != (0 : Int), ()) w48))
theorem tie11 (a0 : Int) (a1 : Int) (a2 : (Int × Int × Int × Unit)) (R : List Value → World → Prop) (w : World) : compF Pg Tryz.f11 ⟨[(3, ⟨[(13, kI)], [75, 76, 77, 78, 79, 80, 81, 82, 83, 84, 85, 86]⟩), (7, ⟨[(14, kI)], [6, 15, 16, 17, 18, 19, 20, 21, 22, 23, 24, 25, 26, 27, 28, 29, 30, 87, 88, 89, 90, 91, 92, 93, 94, 95, 96, 97, 98, 99, 100, 101, 102, 103, 104, 105, 106, 107, 108, 109, 110, 111, 112, 113, 114, 115, 116, 117, 118, 119, 120, 121, 122, 123, 124, 125, 126, 127, 128, 129, 130, 131, 132, 133, 134, 135, 136, 137, 138, 139, 140, 141, 142, 143, 144, 145, 146, 147, 148, 149, 150, 151, 152, 153, 154, 155, 156, 157, 158, 159, 160, 161, 162, 163, 164, 165, 166, 167, 168, 169, 170, 171, 172, 173, 174, 175, 176, 177, 178, 179, 180, 181, 182, 183, 184, 185, 186, 187, 188, 189, 190, 191, 192, 193, 194, 195, 196, 197, 198]⟩), (12, ⟨[(21, kI)], [6, 22, 23, 24, 25, 26, 133, 134, 135, 136, 137, 138, 139, 140, 141, 142, 143, 144, 145, 146, 147, 148, 149, 150, 151, 152, 153, 154, 155, 156, 157, 158, 159, 160, 161, 162, 163, 164, 165, 166, 167, 168, 169, 170, 171, 172, 173]⟩), (17, ⟨[(26, kI)], [6, 159, 160, 161, 162, 163, 164, 165, 166, 167, 168, 169, 170, 171, 172, 173]⟩), (22, ⟨[(27, kI)], [6, 28, 29, 30, 174, 175, 176, 177, 178, 179, 180, 181, 182, 183, 184, 185, 186, 187, 188, 189, 190, 191, 192, 193, 194, 195, 196, 197, 198]⟩)], [(40, ⟨[(198, kB)], [185, 186, 187, 188, 189, 190, 191, 192, 193, 194, 195, 196, 197]⟩)], [(34, .l [(0, []), (1, []), (2, []), (3, []), (4, []), (5, []), (6, []), (7, []), (8, [])]), (40, .l [(0, []), (1, []), (2, []), (3, []), (4, [2, 3]), (5, []), (6, []), (7, []), (8, []), (9, []), (10, []), (11, [9, 10, 6, 5, 4, 1, 2, 3, 0]), (12, []), (13, [])])], [(9, [(3, 3, ⟨[(74, kB)], [72, 73]⟩)]), (16, [(3, 4, ⟨[(93, kB)], [90, 91, 92]⟩)]), (22, [(3, 4, ⟨[(122, kB)], [119, 120, 121]⟩), (8, 9, ⟨[(132, kB)], [124, 125, 126, 127, 128, 129, 130, 131]⟩), (11, 5, ⟨[(131, kB)], [127, 128, 129, 130]⟩)]), (29, [(6, 6, ⟨[(158, kB)], [153, 154, 155, 156, 157]⟩)])]⟩ [.int .u8 a0, .int .u8 a1, .agg #[.int .u8 a2.1, .int .u8 a2.2.1, .int .u8 a2.2.2.1]] R w = sh11 a0 a1 a2 R w := by kernel_rfl
def sh74 (a0 : Option Addr) (a1 : Int) (R : List Value → World → Prop) (w : World) : Prop :=
 jn [kB] w (fun (t2 : Bool × Unit) w3 =>
 cs t2.1 (
 R [.int .i64 (-17)] w3) (
 dr w3 fun w5 =>
 jn [kB] w5 (fun (t7 : Bool × Unit) w8 =>
 cs t7.1 (
 R [.int .i64 (-25)] w8) (
 nn a0 fun b10 o11 =>
 ldS w8 b10 o11 fun s12 =>
 al w8 3 [.int .i64 a1] fun b13 w14 =>
 ef Pg (Builtin.append_ #[72, 72] 72 #[vS s12, vS ⟨some ⟨b13, 0, none⟩, 1, 1⟩]) [kS] w14 fun (r15 : Sl × Unit) w16 =>
 nn a0 fun b17 o18 =>
 st1 w16 b17 o18 (vS r15.1) fun w19 =>
 R [.int .i64 0] w19)) fun J6 w9 =>
 nn a0 fun b20 o21 =>
 ldB w9 b20 (o21 + 1) fun b22 =>
 cs b22 (
 J6 (true, ()) w9) (
 nn a0 fun b23 o24 =>
 cl Pg 128 [.pointer (some ⟨b23, o24, none⟩)] [kB] w9 fun (r25 : Bool × Unit) w26 =>
 cs r25.1 (
 nn a0 fun b27 o28 =>
 ldS w26 b27 o28 fun s29 =>
 nn a0 fun b30 o31 =>
 ldS w26 b30 o31 fun s32 =>
 ix s29 (w64 ((s32.len : Int) - 1)) 1 fun b33 o34 =>
 ldI w26 .i64 b33 o34 fun n35 =>
 J6 (decide ((a1 : Int) ≤ (n35 : Int)), ()) w26) (
 J6 (false, ()) w26)))) fun J1 w4 =>
 cs (decide ((a1 : Int) < (1 : Int))) (
 J1 (true, ()) w4) (
 J1 (decide ((a1 : Int) > (15 : Int)), ()) w4)
theorem tie74 (a0 : Option Addr) (a1 : Int) (R : List Value → World → Prop) (w : World) : compF Pg Tryz.f74 ⟨[], [(3, ⟨[(12, kB)], [13, 14, 15, 16, 17, 18, 19, 20, 21, 22, 23, 24, 25, 26, 27, 28, 29, 30, 31, 32, 33, 34, 35, 36, 37, 38, 39, 40, 41]⟩)], [(3, .l [(0, []), (1, []), (2, []), (3, []), (4, []), (5, []), (6, []), (7, []), (8, []), (9, [8, 5, 7, 4, 6, 3, 2, 1, 0]), (10, []), (11, []), (12, []), (13, []), (14, []), (15, []), (16, []), (17, []), (18, []), (19, []), (20, []), (21, []), (22, []), (23, []), (24, []), (25, []), (26, []), (27, []), (28, []), (29, [])])], [(1, [(3, 3, ⟨[(11, kB)], [9, 10]⟩)])]⟩ [.pointer a0, .int .i64 a1] R w = sh74 a0 a1 R w := by kernel_rfl
theorem call74 {a0 : Option Addr} {a1 : Int} {w : World} {K : TK [kI] → World → Prop} (h : sh74 a0 a1 (fun vs w' => ∃ t, encK [kI] t = vs ∧ K t w') w) : cl Pg 74 [.pointer a0, .int .i64 a1] [kI] w K := cl_of Tryz.func74 (tie74 ..) h
def sh39 (a0 : Option Addr) (a1 : Int) (R : List Value → World → Prop) (w : World) : Prop :=
 nn a0 fun b1 o2 =>
 ldP w b1 (o2 + 6) fun p3 =>
 cl Pg 74 [.pointer p3, .int .i64 a1] [kI] w fun (r4 : Int × Unit) w5 =>
 cl Pg 57 [.pointer a0] [] w5 fun (r6 : Unit) w7 =>
 R [.int .i64 r4.1] w7
theorem tie39 (a0 : Option Addr) (a1 : Int) (R : List Value → World → Prop) (w : World) : compF Pg Tryz.f39 ⟨[], [], [], []⟩ [.pointer a0, .int .i64 a1] R w = sh39 a0 a1 R w := by kernel_rfl
theorem call39 {a0 : Option Addr} {a1 : Int} {w : World} {K : TK [kI] → World → Prop} (h : sh39 a0 a1 (fun vs w' => ∃ t, encK [kI] t = vs ∧ K t w') w) : cl Pg 39 [.pointer a0, .int .i64 a1] [kI] w K := cl_of Tryz.func39 (tie39 ..) h
def sh75 (a0 : Option Addr) (R : List Value → World → Prop) (w : World) : Prop :=
 nn a0 fun b1 o2 =>
 cl Pg 128 [.pointer (some ⟨b1, o2, none⟩)] [kB] w fun (r3 : Bool × Unit) w4 =>
 cs (!r3.1) (
 R [.int .i64 (-25)] w4) (
 dr w4 fun w5 =>
 nn a0 fun b6 o7 =>
 ldS w5 b6 o7 fun s8 =>
 nn a0 fun b9 o10 =>
 ldS w5 b9 o10 fun s11 =>
 sb s8 0 (w64 ((s11.len : Int) - 1)) s8.cap 1 fun s12 =>
 nn a0 fun b13 o14 =>
 st1 w5 b13 o14 (vS s12) fun w15 =>
 R [.int .i64 0] w15)
theorem tie75 (a0 : Option Addr) (R : List Value → World → Prop) (w : World) : compF Pg Tryz.f75 ⟨[], [], [(3, .l [(0, []), (1, []), (2, []), (3, []), (4, []), (5, []), (6, []), (7, []), (8, []), (9, []), (10, []), (11, []), (12, []), (13, []), (14, []), (15, []), (16, []), (17, [16, 13, 0, 1, 2, 3, 4, 5, 6, 7, 8, 9, 10, 11, 12, 15, 14])])], []⟩ [.pointer a0] R w = sh75 a0 R w := by kernel_rfl
theorem call75 {a0 : Option Addr} {w : World} {K : TK [kI] → World → Prop} (h : sh75 a0 (fun vs w' => ∃ t, encK [kI] t = vs ∧ K t w') w) : cl Pg 75 [.pointer a0] [kI] w K := cl_of Tryz.func75 (tie75 ..) h
def sh40 (a0 : Option Addr) (R : List Value → World → Prop) (w : World) : Prop :=
 nn a0 fun b1 o2 =>
 ldP w b1 (o2 + 6) fun p3 =>
 cl Pg 75 [.pointer p3] [kI] w fun (r4 : Int × Unit) w5 =>
 cl Pg 57 [.pointer a0] [] w5 fun (r6 : Unit) w7 =>
 R [.int .i64 r4.1] w7
theorem tie40 (a0 : Option Addr) (R : List Value → World → Prop) (w : World) : compF Pg Tryz.f40 ⟨[], [], [], []⟩ [.pointer a0] R w = sh40 a0 R w := by kernel_rfl
theorem call40 {a0 : Option Addr} {w : World} {K : TK [kI] → World → Prop} (h : sh40 a0 (fun vs w' => ∃ t, encK [kI] t = vs ∧ K t w') w) : cl Pg 40 [.pointer a0] [kI] w K := cl_of Tryz.func40 (tie40 ..) h
def sh13 (a0 : Sl) (a1 : Int) (R : List Value → World → Prop) (w : World) : Prop :=
 cl Pg 17 [] [kB] w fun (r1 : Bool × Unit) w2 =>
 cs (!r1.1) (
 R [.bool false] w2) (
 cs (decide (((a0.len : Int) : Int) > (15 : Int))) (
 R [.bool true] w2) (
 al w2 3 [.int .i64 (w64 (2 + (w64 (Int.tmod a1 15)))), .int .i64 1] fun b3 w4 =>
 cl Pg 18 [vS ⟨some ⟨b3, 0, none⟩, 2, 2⟩] [.a [(.i .i64), .s, .s, .s, .s, .s, .s, .s, (.i .i64)]] w4 fun (r5 : (Int × Sl × Sl × Sl × Sl × Sl × Sl × Sl × Int × Unit) × Unit) w6 =>
 al w6 33 [.int .i64 0, .slice none 0 0, .slice none 0 0, .slice none 0 0, .slice none 0 0, .slice none 0 0, .slice none 0 0, .slice none 0 0, .int .i64 0] fun b7 w8 =>
 st1 w8 b7 0 (.int .i64 r5.1.1) fun w9 =>
 st1 w9 b7 (0 + 1) (vS r5.1.2.1) fun w10 =>
 st1 w10 b7 (0 + 2) (vS r5.1.2.2.1) fun w11 =>
 st1 w11 b7 (0 + 3) (vS r5.1.2.2.2.1) fun w12 =>
 st1 w12 b7 (0 + 4) (vS r5.1.2.2.2.2.1) fun w13 =>
 st1 w13 b7 (0 + 5) (vS r5.1.2.2.2.2.2.1) fun w14 =>
 st1 w14 b7 (0 + 6) (vS r5.1.2.2.2.2.2.2.1) fun w15 =>
 st1 w15 b7 (0 + 7) (vS r5.1.2.2.2.2.2.2.2.1) fun w16 =>
 st1 w16 b7 (0 + 8) (.int .i64 r5.1.2.2.2.2.2.2.2.2.1) fun w17 =>
 ldI w17 .i64 b7 0 fun n18 =>
 ldS w17 b7 (0 + 1) fun s19 =>
 ldS w17 b7 (0 + 2) fun s20 =>
 ldS w17 b7 (0 + 3) fun s21 =>
 ldS w17 b7 (0 + 4) fun s22 =>
 ldS w17 b7 (0 + 5) fun s23 =>
 ldS w17 b7 (0 + 6) fun s24 =>
 ldS w17 b7 (0 + 7) fun s25 =>
 ldI w17 .i64 b7 (0 + 8) fun n26 =>
 cl Pg 19 [.agg #[.int .i64 n18, vS s19, vS s20, vS s21, vS s22, vS s23, vS s24, vS s25, .int .i64 n26]] [kP] w17 fun (r27 : Option Addr × Unit) w28 =>
 jn [kB] w28 (fun (t30 : Bool × Unit) w31 =>
 cs t30.1 (
 R [.bool false] w31) (
 cl Pg 20 [.pointer r27.1, .int .i64 12, .slice none 0 0] [kI, kI] w31 fun (r33 : Int × Int × Unit) w34 =>
 cl Pg 21 [.pointer r27.1] [kI] w34 fun (r35 : Int × Unit) w36 =>
 cs ((r35.1 : Int) != (1 : Int)) (
 R [.bool false] w36) (
 lp [kI, kI] w36 ((0 : Int), (0 : Int), ()) fun (t37 : Int × Int × Unit) J38 w39 =>
 cs (decide ((t37.2.1 : Int) < ((a0.len : Int) : Int))) (
 ix a0 t37.2.1 1 fun b40 o41 =>
 ldI w39 .u8 b40 o41 fun n42 =>
 cl Pg 39 [.pointer r27.1, .int .i64 (w64 (1 + (w64 (Int.tmod n42 15))))] [kI] w39 fun (r43 : Int × Unit) w44 =>
 cs ((r43.1 : Int) == (0 : Int)) (
 J38 (w64 (t37.1 + 1), w64 (t37.2.1 + 1), ()) w44) (
 J38 (t37.1, w64 (t37.2.1 + 1), ()) w44)) (
 cs ((t37.1 : Int) == (0 : Int)) (
 R [.bool true] w39) (
 al w39 2 [.int .i64 2] fun b45 w46 =>
 cl Pg 20 [.pointer r27.1, .int .i64 15, vS ⟨some ⟨b45, 0, none⟩, 1, 1⟩] [kI, kI] w46 fun (r47 : Int × Int × Unit) w48 =>
 jn [kB] w48 (fun (t50 : Bool × Unit) w51 =>
 jn [kB] w51 (fun (t54 : Bool × Unit) w55 =>
 cs t54.1 (
 R [.bool false] w55) (
 lp [kI] w55 ((0 : Int), ()) fun (t57 : Int × Unit) J58 w59 =>
 cs (decide ((t57.1 : Int) < (t37.1 : Int))) (
 cl Pg 21 [.pointer r27.1] [kI] w59 fun (r60 : Int × Unit) w61 =>
 jn [kB] w61 (fun (t63 : Bool × Unit) w65 =>
 cs t63.1 (
 R [.bool false] w65) (
 J58 (w64 (t57.1 + 1), ()) w65)) fun J62 w66 =>
 cs ((r60.1 : Int) != (1 : Int)) (
 J62 (true, ()) w66) (
 cl Pg 40 [.pointer r27.1] [kI] w66 fun (r67 : Int × Unit) w68 =>
 J62 ((r67.1 : Int) != (0 : Int), ()) w68)) (
 cl Pg 21 [.pointer r27.1] [kI] w59 fun (r69 : Int × Unit) w70 =>
 R [.bool ((r69.1 : Int) == (2 : Int))] w70))) fun J53 w56 =>
 cs t50.1 (
 J53 (true, ()) w56) (
 cl Pg 27 [.pointer r27.1, .int .i64 2] [kI] w56 fun (r71 : Int × Unit) w72 =>
 J53 ((r71.1 : Int) != (2 : Int), ()) w72)) fun J49 w52 =>
 cs ((r47.1 : Int) != (0 : Int)) (
 J49 (true, ()) w52) (
 cl Pg 21 [.pointer r27.1] [kI] w52 fun (r73 : Int × Unit) w74 =>
 J49 ((r73.1 : Int) != (1 : Int), ()) w74)))))) fun J29 w32 =>
 cs r27.1.isNone (
 J29 (true, ()) w32) (
 cl Pg 21 [.pointer r27.1] [kI] w32 fun (r75 : Int × Unit) w76 =>
 J29 ((r75.1 : Int) != (2 : Int), ()) w76)))
theorem tie13 (a0 : Sl) (a1 : Int) (R : List Value → World → Prop) (w : World) : compF Pg Tryz.f13 ⟨[(5, ⟨[(8, kI), (9, kI)], [39, 40, 41, 42, 43, 44, 45, 46, 47, 48, 49, 50, 51, 52, 53, 54, 55, 56]⟩), (12, ⟨[(12, kI)], [4, 77, 78, 79, 80, 81, 82, 83, 84, 85, 86, 87, 88, 89]⟩)], [], [], [(8, [(3, 4, ⟨[(33, kB)], [30, 31, 32]⟩)]), (22, [(3, 4, ⟨[(71, kB)], [68, 69, 70]⟩), (8, 4, ⟨[(76, kB)], [73, 74, 75]⟩)]), (27, [(4, 4, ⟨[(89, kB)], [86, 87, 88]⟩)])]⟩ [vS a0, .int .u8 a1] R w = sh13 a0 a1 R w := by kernel_rfl
def sh14 (a0 : Int) (a1 : Int) (R : List Value → World → Prop) (w : World) : Prop :=
 cl Pg 17 [] [kB] w fun (r1 : Bool × Unit) w2 =>
 cs (!r1.1) (
 R [.bool false] w2) (
 al w2 3 [.int .i64 (w64 (1 + (w64 (Int.tmod a0 16))))] fun b3 w4 =>
 cl Pg 18 [vS ⟨some ⟨b3, 0, none⟩, 1, 1⟩] [.a [(.i .i64), .s, .s, .s, .s, .s, .s, .s, (.i .i64)]] w4 fun (r5 : (Int × Sl × Sl × Sl × Sl × Sl × Sl × Sl × Int × Unit) × Unit) w6 =>
 cl Pg 19 [.agg #[.int .i64 r5.1.1, vS r5.1.2.1, vS r5.1.2.2.1, vS r5.1.2.2.2.1, vS r5.1.2.2.2.2.1, vS r5.1.2.2.2.2.2.1, vS r5.1.2.2.2.2.2.2.1, vS r5.1.2.2.2.2.2.2.2.1, .int .i64 r5.1.2.2.2.2.2.2.2.2.1]] [kP] w6 fun (r7 : Option Addr × Unit) w8 =>
 cs r7.1.isNone (
 R [.bool false] w8) (
 cl Pg 20 [.pointer r7.1, .int .i64 10, .slice none 0 0] [kI, kI] w8 fun (r9 : Int × Int × Unit) w10 =>
 al w10 2 [.int .i64 0] fun b11 w12 =>
 cl Pg 20 [.pointer r7.1, .int .i64 7, vS ⟨some ⟨b11, 0, none⟩, 1, 1⟩] [kI, kI] w12 fun (r13 : Int × Int × Unit) w14 =>
 cl Pg 20 [.pointer r7.1, .int .i64 61, .slice none 0 0] [kI, kI] w14 fun (r15 : Int × Int × Unit) w16 =>
 cl Pg 39 [.pointer r7.1, .int .i64 (w64 (1 + (w64 (Int.tmod a1 15))))] [kI] w16 fun (r17 : Int × Unit) w18 =>
 cl Pg 20 [.pointer r7.1, .int .i64 61, .slice none 0 0] [kI, kI] w18 fun (r19 : Int × Int × Unit) w20 =>
 cl Pg 20 [.pointer r7.1, .int .i64 11, .slice none 0 0] [kI, kI] w20 fun (r21 : Int × Int × Unit) w22 =>
 cl Pg 20 [.pointer r7.1, .int .i64 10, .slice none 0 0] [kI, kI] w22 fun (r23 : Int × Int × Unit) w24 =>
 cl Pg 40 [.pointer r7.1] [kI] w24 fun (r25 : Int × Unit) w26 =>
 jn [kB] w26 (fun (t28 : Bool × Unit) w29 =>
 jn [kB] w29 (fun (t32 : Bool × Unit) w33 =>
 jn [kB] w33 (fun (t36 : Bool × Unit) w37 =>
 jn [kB] w37 (fun (t40 : Bool × Unit) w41 =>
 jn [kB] w41 (fun (t44 : Bool × Unit) w45 =>
 jn [kB] w45 (fun (t48 : Bool × Unit) w49 =>
 jn [kB] w49 (fun (t52 : Bool × Unit) w53 =>
 jn [kB] w53 (fun (t56 : Bool × Unit) w57 =>
 jn [kB] w57 (fun (t60 : Bool × Unit) w61 =>
 R [.bool t60.1] w61) fun J59 w62 =>
 cs t56.1 (
 J59 ((r23.1 : Int) == ((-25) : Int), ()) w62) (
 J59 (false, ()) w62)) fun J55 w58 =>
 cs t52.1 (
 J55 ((r21.2.1 : Int) == (1 : Int), ()) w58) (
 J55 (false, ()) w58)) fun J51 w54 =>
 cs t48.1 (
 J51 ((r21.1 : Int) == (0 : Int), ()) w54) (
 J51 (false, ()) w54)) fun J47 w50 =>
 cs t44.1 (
 J47 ((r19.2.1 : Int) == (1 : Int), ()) w50) (
 J47 (false, ()) w50)) fun J43 w46 =>
 cs t40.1 (
 J43 ((r17.1 : Int) == (0 : Int), ()) w46) (
 J43 (false, ()) w46)) fun J39 w42 =>
 cs t36.1 (
 J39 ((r15.2.1 : Int) == (0 : Int), ()) w42) (
 J39 (false, ()) w42)) fun J35 w38 =>
 cs t32.1 (
 J35 ((r13.2.1 : Int) == (w64 (1 + (w64 (Int.tmod a0 16))) : Int), ()) w38) (
 J35 (false, ()) w38)) fun J31 w34 =>
 cs t28.1 (
 J31 ((r13.1 : Int) == (0 : Int), ()) w34) (
 J31 (false, ()) w34)) fun J27 w30 =>
 cs ((r9.1 : Int) == (0 : Int)) (
 J27 ((r9.2.1 : Int) == (1 : Int), ()) w30) (
 J27 (false, ()) w30)))
theorem tie14 (a0 : Int) (a1 : Int) (R : List Value → World → Prop) (w : World) : compF Pg Tryz.f14 ⟨[], [], [], [(15, [(3, 3, ⟨[(76, kB)], [74, 75]⟩), (7, 3, ⟨[(80, kB)], [78, 79]⟩), (11, 4, ⟨[(85, kB)], [82, 83, 84]⟩), (16, 3, ⟨[(89, kB)], [87, 88]⟩), (20, 3, ⟨[(93, kB)], [91, 92]⟩), (24, 3, ⟨[(97, kB)], [95, 96]⟩), (28, 3, ⟨[(101, kB)], [99, 100]⟩), (32, 3, ⟨[(105, kB)], [103, 104]⟩), (36, 3, ⟨[(109, kB)], [107, 108]⟩)])]⟩ [.int .u8 a0, .int .u8 a1] R w = sh14 a0 a1 R w := by kernel_rfl
end Go.Proofs.YtenonfkfoedfmaaGreatDoor.B


/- Contracts of the library's functions on []int, and of the laws' own comparison. -/
namespace Go.Proofs.YtenonfkfoedfmaaGreatDoor.B
open Go
set_option linter.unusedVariables false

abbrev ints (xs : List Int) : List Value := xs.map (Value.int .i64)

theorem ints_one (xs : List Int) : ∀ v ∈ ints xs, v.oneCell' = true := by
  intro v hv; obtain ⟨x, _, rfl⟩ := List.mem_map.1 hv; rfl

theorem ints_len (xs : List Int) : (ints xs).length = xs.length := List.length_map ..

theorem ints_get {xs : List Int} {i : Nat} {x : Int} (h : xs[i]? = some x) : (ints xs)[i]? = some (.int .i64 x) := by simp [ints, h]

/-- a wrap that does nothing -/
theorem w64_in {x : Int} (h1 : -9223372036854775808 ≤ x) (h2 : x ≤ 9223372036854775807) : w64 x = x := IntWalk.i64_in _ ⟨h1, h2⟩

theorem slT_int : SlT Pg 72 1 := .of (by kernel_rfl)

theorem Clone_int {e w L s vs R} (h : Ok e (slc 1 s vs :: L) w) (hb : s.len ≤ 2 ^ 31) (k : ∀ s' w', s'.len = s.len → Ok e (slc 1 s' vs :: slc 1 s vs :: L) w' → R [vS s'] w') : sh70 s R w := by
  unfold sh70
  obtain ⟨hl, hv, hc, hcase⟩ := h.slcE
  refine cs.mk (fun hn => ?_) (fun hn => ?_)
  · rcases hcase with ⟨ha, hcap, hL⟩ | ⟨b, post, ha, hp, hk⟩
    · have h0 : s.len = 0 := by omega
      have : vs = [] := List.eq_nil_of_length_eq_zero (by rw [hl, h0])
      subst this
      exact k ⟨none, 0, 0⟩ w h0.symm (h.slcNil 1)
    · rw [ha] at hn; cases hn
  · refine al.mk h fun b w1 h1 => ?_
    have h2 := h1.slcNew (n := 0) (sz := 1) rfl (by simp)
    refine ef.append2 slT_int (by decide) h2 (by simp only; omega) fun s' w2 hl2 h3 => ?_
    exact k s' w2 (by simpa using hl2) (by simpa using h3)

theorem Clip_int {e w L s vs R} (h : Ok e (slc 1 s vs :: L) w) (k : ∀ s' w', s'.len = s.len → Ok e (slc 1 s' vs :: L) w' → R [vS s'] w') : sh69 s R w := by
  unfold sh69
  exact sb.clip h fun s' hl h' => k s' w hl h'

/-- reading an element of an owned slice of ints -/
theorem ix_int {e w L s xs} {i : Int} {f} (h : Ok e (slc 1 s (ints xs) :: L) w) (h0 : 0 ≤ i) (h1 : i < s.len) (k : ∀ b o x, xs[i.toNat]? = some x → (∀ w', (∃ L', Ok e (slc 1 s (ints xs) :: L') w') → w'.cell? ⟨b, o, none⟩ = some (.int .i64 x)) → f b o) : ix s i 1 f := by
  obtain ⟨hl, hv, hc, hcase⟩ := h.slcE
  rcases hcase with ⟨ha, hcap, hL⟩ | ⟨b, post, ha, hp, hk⟩
  · omega
  · have hlt : i.toNat < xs.length := by rw [ints_len] at hl; omega
    refine ⟨b, 0, ha, h0, h1, k b _ _ (List.getElem?_eq_getElem hlt) ?_⟩
    rintro w' ⟨L', h'⟩
    have := h'.slc_cells ha (i.toNat * 1) (.int .i64 xs[i.toNat]) (by rw [Nat.mul_one]; exact ints_get (List.getElem?_eq_getElem hlt))
    rw [add_off] at this
    exact this

end Go.Proofs.YtenonfkfoedfmaaGreatDoor.B


/- Steps on memory that is owned: writing a stretch, 'copy', 'clear', 'append' that stays in its room, 'append' of made elements, 'slices.overlaps'. -/
namespace Go.Proofs.YtenonfkfoedfmaaGreatDoor.B
open Go
set_option linter.unusedVariables false
section
variable {e : World} {L : List SP} {w : World} {P : Program} {b o sz : Nat} {cs us vs post : List Value} {s d x : Sl}
theorem store_run (h : Ok e (pts b cs :: L) w) (hfit : o + us.length ≤ cs.length) (h1 : ∀ v ∈ us, v.oneCell' = true) :
    ∃ w', (storeCells ⟨b, o, none⟩ us).run P w = .ok () w' ∧ Ok e (pts b (cs.take o ++ us ++ cs.drop (o + us.length)) :: L) w' := by
  obtain ⟨tt, hblk⟩ := h.block
  have hst := run_storeCells_at P b o tt us 0 cs.toArray w hblk (by simpa using hfit) h1
  exact ⟨_, hst, by simpa using h.setRow _⟩
/-- 'copy' -/
theorem ef.copy {t ty : TypeId} {n : Nat} {K : TK [kI] → World → Prop} (T : SlT P t sz) (h : Ok e (pts b cs :: L) w) (hd : d.a = some ⟨b, o, none⟩) (hn : n = Nat.min x.len d.len) (hul : us.length = n * sz)
    (hxa : x.a = none → us = []) (hu : ∀ a, x.a = some a → ∀ j u, us[j]? = some u → w.cell? (a.add j) = some u) (h1 : ∀ v ∈ us, v.oneCell' = true) (hfit : o + us.length ≤ cs.length)
    (k : ∀ w', Ok e (pts b (cs.take o ++ us ++ cs.drop (o + us.length)) :: L) w' → K ((n : Int), ()) w') : ef P (Builtin.copy_ #[t, t] ty #[vS d, vS x]) [kI] w K := by
  obtain ⟨el, i, z, ht, hi, hz, hs, hby, hzs, _⟩ := T.ex
  obtain ⟨w', hst, hk⟩ := store_run (P := P) h hfit h1
  refine ⟨((n : Int), ()), w', ?_, k w' hk⟩
  obtain ⟨da, dlen, dcap⟩ := d
  obtain ⟨xa, xlen, xcap⟩ := x
  simp only at hd hn hxa hu
  subst hd
  cases xa with
  | none =>
    have hus := hxa rfl
    subst hus
    have hf : (Builtin.firstCells i.size n (vS ⟨none, xlen, xcap⟩)).run P w = .ok #[] w := by
      simp only [List.length_nil] at hul
      cases n with
      | zero => simp [vS, Builtin.firstCells]
      | succ n => simp [vS, Builtin.firstCells]
    simp only [vS] at hf
    simp [vS, Builtin.copy_, run_underlying ht, sizeOf, typeInfo, hi, Builtin.lenOf, ← hn, hf, hst, goInt, ret1, encK]
    rfl
  | some a =>
    have hf := run_firstCells_some (P := P) w i.size n a xlen xcap us (by rw [hs]; exact hul) (hu a rfl)
    simp [vS, Builtin.copy_, run_underlying ht, sizeOf, typeInfo, hi, Builtin.lenOf, ← hn, hf, hst, goInt, ret1, encK]
    rfl
theorem zeroCells_one {z : Array Value} (h : z.toList.all (·.oneCell') = true) (hz : 0 < z.size) (n : Nat) : ∀ v ∈ (Builtin.zeroCells z n).toList, v.oneCell' = true := by
  intro v hv
  obtain ⟨i, hi, rfl⟩ := List.getElem_of_mem hv
  rw [List.all_eq_true] at h
  refine h _ ?_
  simp only [Builtin.zeroCells]
  simp
  rw [getElem!_pos z _ (Nat.mod_lt _ hz)]
  exact Array.getElem_mem _
/-- 'clear' of a stretch -/
theorem ef.clear {t ty : TypeId} {K : TK [] → World → Prop} (T : SlT P t sz) (hsz : 0 < sz) (h : Ok e (pts b cs :: L) w) (hd : d.a = some ⟨b, o, none⟩) (hfit : d.len = 0 ∨ o + d.len * sz ≤ cs.length)
    (k : ∀ w' us, us.length = d.len * sz → Ok e (pts b (cs.take o ++ us ++ cs.drop (o + us.length)) :: L) w' → K () w') : ef P (Builtin.clear_ #[t] ty #[vS d]) [] w K := by
  obtain ⟨el, i, z, ht, hi, hz, hs, hby, hzs, hz1⟩ := T.ex
  obtain ⟨da, dlen, dcap⟩ := d
  simp only at hd hfit k
  subst hd
  cases dlen with
  | zero =>
    refine ⟨(), w, ?_, k w [] (by simp) (by simpa using h)⟩
    simp [vS, Builtin.clear_, run_underlying ht, ret1, encK]
  | succ n =>
    have hl : (Builtin.zeroCells z.cells (n + 1)).toList.length = (n + 1) * sz := by rw [zeroCells_len, hzs]
    obtain ⟨w', hst, hk⟩ := store_run (P := P) (o := o) (us := (Builtin.zeroCells z.cells (n + 1)).toList) h (by rw [hl]; omega) (zeroCells_one hz1 (by omega) _)
    refine ⟨(), w', ?_, k w' _ hl hk⟩
    simp [vS, Builtin.clear_, run_underlying ht, zeroValue, typeInfo, hi, hz, hst, ret1, encK]
/-- 'append(s, make(S, n)...)' that does not fit: the old row is kept, and told -/
theorem ef.appendMake {t ti : TypeId} {ki : IntKind} {n : Nat} {K : TK [kS] → World → Prop} (T : SlT P t sz) (hti : P.underlying ti = some (.int ki)) (hsz : 0 < sz) (h : Ok e (pts b (vs ++ post) :: L) w)
    (ha : s.a = some ⟨b, 0, none⟩) (hl : vs.length = s.len * sz) (hn : 0 < n) (hg : s.cap < s.len + n) (hb : s.len + n ≤ 2 ^ 32)
    (k : ∀ s' c w' zs ps, s'.a = some ⟨c, 0, none⟩ → s'.len = s.len + n → s'.len ≤ s'.cap → zs.length = n * sz → s'.cap * sz ≤ (vs ++ zs ++ ps).length → Ok e (pts c (vs ++ zs ++ ps) :: pts b (vs ++ post) :: L) w' → K (s', ()) w') :
    ef P (Builtin.append_ #[t, ti] t #[vS s, .int .i64 n]) [kS] w K := by
  obtain ⟨el, i, z, ht, hi, hz, hs, hby, hzs, hz1⟩ := T.ex
  obtain ⟨sa, slen, scap⟩ := s
  simp only at ha hl hg hb k
  subst ha
  have holds : ∀ j u, vs[j]? = some u → w.cell? ((⟨b, 0, none⟩ : Addr).add j) = some u := by
    intro j u hj
    rw [Addr.add_lit]
    have hlt := (List.getElem?_eq_some_iff.1 hj).1
    exact h.cell (by rw [Nat.zero_add, List.getElem?_append_left hlt]; exact hj)
  have h48 : (slen + n) * i.bytes ≤ 140737488355328 := Nat.le_trans (Nat.mul_le_mul hb hby) (by decide)
  have hfit := growslice_fits (need := slen + n) (old := scap) (bytes := i.bytes) (by omega) h48
  have hnn : ¬ (slen + n ≤ scap) := by omega
  have h63' : ¬ (9223372036854775807 < ((slen : Int) + (n : Int))) := by omega
  have h48' : ¬ (281474976710656 < Builtin.nextslicecap (slen + n) scap * i.bytes) := by omega
  have hw : IntKind.i64.wrap (n : Int) = n := IntWalk.i64_in _ ⟨by omega, by omega⟩
  have hnb : ¬ (281474976710656 < (n : Int) * (i.bytes : Int)) := by
    have : n * i.bytes ≤ 140737488355328 := Nat.le_trans (Nat.mul_le_mul_right _ (by omega)) h48
    have h2 : ((n * i.bytes : Nat) : Int) ≤ 140737488355328 := Int.ofNat_le.mpr this
    rw [Int.natCast_mul] at h2
    omega
  have hn0 : ¬ (n * i.size = 0) := by
    rw [hs, Nat.mul_eq_zero]; omega
  have hfo := run_firstCells_some (P := P) w.drew i.size slen ⟨b, 0, none⟩ slen scap vs (by rw [hs]; exact hl) (by simpa using holds)
  have hge := grownCap_ge w (slen + n) scap el
  have hrun : (Builtin.append_ #[t, ti] t #[.slice (some ⟨b, 0, none⟩) slen scap, .int .i64 n]).run P w =
      .ok (.slice (some ⟨w.heap.size, 0, none⟩) (slen + n) (grownCap w (slen + n) scap el))
        (w.drew.alloc (.cells (vs.toArray ++ Builtin.zeroCells z.cells n ++ Builtin.zeroCells z.cells (grownCap w (slen + n) scap el - (slen + n))) el)) := by
    have hnl : ¬ ((n : Int) < 0) := by omega
    simp [Builtin.append_, run_underlying ht, run_underlying hti, sizeOf, typeInfo, zeroValue, hi, hz, Builtin.lenOf, hnn, h63', h48', Question.forced, hfo, newRow, grownCap, asInt, asIntOf, hw, hnb, hn0, hnl]
  have hal := h.drew.alloc el (vs ++ (Builtin.zeroCells z.cells n).toList ++ (Builtin.zeroCells z.cells (grownCap w (slen + n) scap el - (slen + n))).toList)
  have e1 : (vs ++ (Builtin.zeroCells z.cells n).toList ++ (Builtin.zeroCells z.cells (grownCap w (slen + n) scap el - (slen + n))).toList).toArray = vs.toArray ++ Builtin.zeroCells z.cells n ++ Builtin.zeroCells z.cells (grownCap w (slen + n) scap el - (slen + n)) := by
    apply Array.ext'; simp
  rw [e1] at hal
  refine ⟨(⟨some ⟨w.heap.size, 0, none⟩, slen + n, grownCap w (slen + n) scap el⟩, ()), _, hrun, ?_⟩
  refine k _ w.heap.size _ _ _ rfl rfl hge (by rw [zeroCells_len, hzs]) ?_ hal
  simp only [List.length_append, zeroCells_len, hzs, hl]
  rw [← Nat.add_mul, ← Nat.add_mul]
  exact Nat.mul_le_mul_right _ (by omega)
/-- a cut of a slice whose block is known -/
theorem sb_at {lo hi mx : Int} {f : Sl → Prop} (ha : s.a = some ⟨b, 0, none⟩) (h0 : 0 ≤ lo) (h1 : lo ≤ hi) (h2 : hi ≤ mx) (h3 : mx ≤ s.cap)
    (k : ∀ (s' : Sl) o, s'.a = some ⟨b, o, none⟩ → s'.len = hi.toNat - lo.toNat → s'.cap = mx.toNat - lo.toNat → o ≤ lo.toNat * sz → (lo < mx → o = lo.toNat * sz) → f s') : sb s lo hi mx sz f := by
  refine ⟨h0, h1, h2, h3, ?_⟩
  by_cases hm : mx.toNat = lo.toNat
  · refine k _ 0 (by simp [Sl.sub, ha, hm]) (by simp [Sl.sub]) (by simp [Sl.sub]) (Nat.zero_le _) (fun h => by omega)
  · refine k _ (lo.toNat * sz) ?_ (by simp [Sl.sub]) (by simp [Sl.sub]) (Nat.le_refl _) (fun _ => rfl)
    simp only [Sl.sub, ha, hm, if_false, Option.map_some]
    rw [Addr.add_lit, Nat.zero_add]
/-- 'slices.overlaps' of what lies in two blocks -/
theorem xt.overlaps {f : FuncId} {fn : Func} {t tr : TypeId} {c : Nat} {ds : List Value} {oc : Nat} {K : TK [kB] → World → Prop} (hf : P.funcs[f]? = some fn) (hname : (fn.name == "runtime.NumGoroutine") = false)
    (hb : fn.body.isNone = true) (hn : Extern.findNext fn = none) (he : Extern.find fn = some (Extern.SlicesOverlaps.overlaps #[t, t] #[tr])) (T : SlT P t sz)
    (h : Ok e (pts c ds :: pts b cs :: L) w) (hx : x.a = some ⟨c, oc, none⟩) (hd : d.a = some ⟨b, o, none⟩) (hne : cs ≠ []) (k : K (false, ()) w) : xt P f [vS x, vS d] [kB] w K := by
  obtain ⟨el, i, z, ht, hi, hz, hs, hby, hzs, hz1⟩ := T.ex
  obtain ⟨tx, hbx⟩ := h.block
  obtain ⟨td, hbd⟩ := h.p1.block
  obtain ⟨xa, xlen, xcap⟩ := x
  obtain ⟨da, dlen, dcap⟩ := d
  simp only at hx hd
  subst hx hd
  have hsx : w.shape? c = some (tx, ds.toArray.size) := by simp [World.shape?, hbx]
  have hsd : w.shape? b = some (td, cs.toArray.size) := by simp [World.shape?, hbd]
  have hrun := Go.Lib.run_overlaps_apart (P := P) w t tr el ht i.size (by simp [sizeOf, typeInfo, hi]) ⟨c, oc, none⟩ ⟨b, o, none⟩ xlen xcap dlen dcap h.ne tx td ds.toArray.size cs.toArray.size hsx hsd
    (by simpa using hne) h.frozen h.frozen
  refine ⟨(false, ()), w, ?_, k⟩
  have := run_callFunc_extern hf hname hb hn he #[vS ⟨some ⟨c, oc, none⟩, xlen, xcap⟩, vS ⟨some ⟨b, o, none⟩, dlen, dcap⟩] w
  rw [show [vS ⟨some ⟨c, oc, none⟩, xlen, xcap⟩, vS ⟨some ⟨b, o, none⟩, dlen, dcap⟩].toArray = #[vS ⟨some ⟨c, oc, none⟩, xlen, xcap⟩, vS ⟨some ⟨b, o, none⟩, dlen, dcap⟩] from rfl, this]
  simp only [vS]
  rw [hrun]
  rfl
end
end Go.Proofs.YtenonfkfoedfmaaGreatDoor.B

