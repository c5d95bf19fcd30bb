/- Texts of ours, joined: Sh2, Ints, Sep2, Sep3, Sep4, Ctx, Sep5, Order, Order2, Order3, Sorted, Ids, Dtq, Dtq2, Up, Mpf. -/
import Derived.IntWalk
import Derived.Laws.Externs
import Derived.Lib.Overlaps
import Derived.MapKept
import Derived.Test.YtenonfkfoedfmaaGreatDoorJTop33
set_option linter.unusedSimpArgs false
set_option linter.unusedVariables false
/- Printed by sh.py: each Go function as a typed shallow program, and its tie to the code. -/
namespace Go.Proofs.YtenonfkfoedfmaaGreatDoor.B
open Go Go.Proofs
set_option linter.unusedVariables false
set_option maxRecDepth 100000
def sh11 (a0 : Int) (a1 : Int) (a2 : (Int × Int × Int × Unit)) (R : List Value → World → Prop) (w : World) : Prop :=
al w 77 [.int .u8 a2.1, .int .u8 a2.2.1, .int .u8 a2.2.2.1] fun b1 w2 =>
cl Pg 17 [] [kB] w2 fun (r3 : Bool × Unit) w4 =>
cs (!r3.1) (
R [.bool false] w4) (
al w4 47 [.int .i64 (w64 (Int.tmod a0 3)), .int .i64 0, .int .i64 (w64 (Int.tmod a1 3)), .int .i64 0] fun b5 w6 =>
ixA b1 0 3 0 1 fun b7 o8 =>
ldI w6 .u8 b7 o8 fun n9 =>
ixA b1 0 3 1 1 fun b10 o11 =>
ldI w6 .u8 b10 o11 fun n12 =>
ixA b1 0 3 2 1 fun b13 o14 =>
ldI w6 .u8 b13 o14 fun n15 =>
al w6 3 [.int .i64 (w64 (1 + (w64 (Int.tmod n9 16)))), .int .i64 (w64 (1 + (w64 (Int.tmod n12 16)))), .int .i64 (w64 (1 + (w64 (Int.tmod n15 16))))] fun b16 w17 =>
cl Pg 18 [vS ⟨some ⟨b16, 0, none⟩, 3, 3⟩] [.a [(.i .i64), .s, .s, .s, .s, .s, .s, .s, (.i .i64)]] w17 fun (r18 : (Int × Sl × Sl × Sl × Sl × Sl × Sl × Sl × Int × Unit) × Unit) w19 =>
al w19 33 [.int .i64 0, .slice none 0 0, .slice none 0 0, .slice none 0 0, .slice none 0 0, .slice none 0 0, .slice none 0 0, .slice none 0 0, .int .i64 0] fun b20 w21 =>
st1 w21 b20 0 (.int .i64 r18.1.1) fun w22 =>
st1 w22 b20 (0 + 1) (vS r18.1.2.1) fun w23 =>
st1 w23 b20 (0 + 2) (vS r18.1.2.2.1) fun w24 =>
st1 w24 b20 (0 + 3) (vS r18.1.2.2.2.1) fun w25 =>
st1 w25 b20 (0 + 4) (vS r18.1.2.2.2.2.1) fun w26 =>
st1 w26 b20 (0 + 5) (vS r18.1.2.2.2.2.2.1) fun w27 =>
st1 w27 b20 (0 + 6) (vS r18.1.2.2.2.2.2.2.1) fun w28 =>
st1 w28 b20 (0 + 7) (vS r18.1.2.2.2.2.2.2.2.1) fun w29 =>
st1 w29 b20 (0 + 8) (.int .i64 r18.1.2.2.2.2.2.2.2.2.1) fun w30 =>
st1 w30 b20 (0 + 5) (vS ⟨some ⟨b5, 0, none⟩, 2, 2⟩) fun w31 =>
ldI w31 .i64 b20 0 fun n32 =>
ldS w31 b20 (0 + 1) fun s33 =>
ldS w31 b20 (0 + 2) fun s34 =>
ldS w31 b20 (0 + 3) fun s35 =>
ldS w31 b20 (0 + 4) fun s36 =>
ldS w31 b20 (0 + 5) fun s37 =>
ldS w31 b20 (0 + 6) fun s38 =>
ldS w31 b20 (0 + 7) fun s39 =>
ldI w31 .i64 b20 (0 + 8) fun n40 =>
cl Pg 19 [.agg #[.int .i64 n32, vS s33, vS s34, vS s35, vS s36, vS s37, vS s38, vS s39, .int .i64 n40]] [kP] w31 fun (r41 : Option Addr × Unit) w42 =>
cl Pg 30 [vS ⟨some ⟨b5, 0, none⟩, 2, 2⟩] [kP, kI] w42 fun (r43 : Option Addr × Int × Unit) w44 =>
jn [kB] w44 (fun (t46 : Bool × Unit) w47 =>
cs t46.1 (
R [.bool false] w47) (
lp [kI] w47 ((0 : Int), ()) fun (t49 : Int × Unit) J50 w51 =>
cs (decide ((t49.1 : Int) < (3 : Int))) (
ix ⟨some ⟨b16, 0, none⟩, 3, 3⟩ t49.1 1 fun b52 o53 =>
ldI w51 .i64 b52 o53 fun n54 =>
cl Pg 31 [.pointer r43.1, .int .i64 (w64 (t49.1 + 1)), .int .i64 n54] [kI] w51 fun (r55 : Int × Unit) w56 =>
J50 (w64 (t49.1 + 1), ()) w56) (
lp [kI] w51 ((0 : Int), ()) fun (t57 : Int × Unit) J58 w59 =>
jn [kB] w59 (fun (t61 : Bool × Unit) w62 =>
cs t61.1 (
cl Pg 21 [.pointer r41.1] [kI] w62 fun (r64 : Int × Unit) w65 =>
al w65 2 [.int .i64 (w64 (1 + (Int.tmod (w64 (Int.tdiv t57.1 2)) 2)))] fun b66 w67 =>
cl Pg 20 [.pointer r41.1, .int .i64 43, vS ⟨some ⟨b66, 0, none⟩, 1, 1⟩] [kI, kI] w67 fun (r68 : Int × Int × Unit) w69 =>
cl Pg 32 [.pointer r43.1, .int .i64 (w64 (1 + (Int.tmod (w64 (Int.tdiv t57.1 2)) 2))), .int .i64 r64.1] [kB, kI] w69 fun (r70 : Bool × Int × Unit) w71 =>
jn [kB] w71 (fun (t73 : Bool × Unit) w74 =>
jn [kB] w74 (fun (t77 : Bool × Unit) w78 =>
cs t77.1 (
R [.bool false] w78) (
lp [kI] w78 ((1 : Int), ()) fun (t80 : Int × Unit) J81 w82 =>
cs (decide ((t80.1 : Int) ≤ (2 : Int))) (
cl Pg 29 [.pointer r41.1, .int .i64 t80.1] [kI, kS, kI] w82 fun (r83 : Int × Sl × Int × Unit) w84 =>
cl Pg 33 [.pointer r43.1, .int .i64 t80.1] [kS] w84 fun (r85 : Sl × Unit) w86 =>
cl Pg 34 [.pointer r43.1, .int .i64 t80.1] [kI] w86 fun (r87 : Int × Unit) w88 =>
jn [kB] w88 (fun (t90 : Bool × Unit) w91 =>
cs t90.1 (
R [.bool false] w91) (
lp [kI] w91 ((0 : Int), ()) fun (t93 : Int × Unit) J94 w95 =>
cs (decide ((t93.1 : Int) < ((r83.2.1.len : Int) : Int))) (
dr w95 fun w96 =>
ix r83.2.1 t93.1 1 fun b97 o98 =>
ldI w96 .i64 b97 o98 fun n99 =>
ix r85.1 t93.1 1 fun b100 o101 =>
ldI w96 .i64 b100 o101 fun n102 =>
cs ((n99 : Int) != (n102 : Int)) (
R [.bool false] w96) (
J94 (w64 (t93.1 + 1), ()) w96)) (
J81 (w64 (t80.1 + 1), ()) w95))) fun J89 w92 =>
cs ((r83.1 : Int) != (r87.1 : Int)) (
J89 (true, ()) w92) (
J89 (((r83.2.1.len : Int) : Int) != ((r85.1.len : Int) : Int), ()) w92)) (
lp [kI] w82 ((1 : Int), ()) fun (t103 : Int × Unit) J104 w105 =>
cs (decide ((t103.1 : Int) ≤ (3 : Int))) (
cl Pg 24 [.pointer r41.1, .int .i64 t103.1] [.a [(.i .i64), (.i .i64), (.i .i64), (.i .i64), (.i .i64), (.i .i64), (.i .i64), (.i .i64)], .a [(.i .i64), (.i .i64), (.i .i64)], kI] w105 fun (r106 : (Int × Int × Int × Int × Int × Int × Int × Int × Unit) × (Int × Int × Int × Unit) × Int × Unit) w107 =>
al w107 59 [.int .i64 0, .int .i64 0, .int .i64 0, .int .i64 0, .int .i64 0, .int .i64 0, .int .i64 0, .int .i64 0] fun b108 w109 =>
al w109 61 [.int .i64 0, .int .i64 0, .int .i64 0] fun b110 w111 =>
st1 w111 b108 0 (.int .i64 r106.1.1) fun w112 =>
st1 w112 b108 (0 + 1) (.int .i64 r106.1.2.1) fun w113 =>
st1 w113 b108 (0 + 2) (.int .i64 r106.1.2.2.1) fun w114 =>
st1 w114 b108 (0 + 3) (.int .i64 r106.1.2.2.2.1) fun w115 =>
st1 w115 b108 (0 + 4) (.int .i64 r106.1.2.2.2.2.1) fun w116 =>
st1 w116 b108 (0 + 5) (.int .i64 r106.1.2.2.2.2.2.1) fun w117 =>
st1 w117 b108 (0 + 6) (.int .i64 r106.1.2.2.2.2.2.2.1) fun w118 =>
st1 w118 b108 (0 + 7) (.int .i64 r106.1.2.2.2.2.2.2.2.1) fun w119 =>
st1 w119 b110 0 (.int .i64 r106.2.1.1) fun w120 =>
st1 w120 b110 (0 + 1) (.int .i64 r106.2.1.2.1) fun w121 =>
st1 w121 b110 (0 + 2) (.int .i64 r106.2.1.2.2.1) fun w122 =>
dr w122 fun w123 =>
jn [kB] w123 (fun (t125 : Bool × Unit) w126 =>
cs t125.1 (
R [.bool false] w126) (
J104 (w64 (t103.1 + 1), ()) w126)) fun J124 w127 =>
ldI w127 .i64 b108 (0 + 1) fun n128 =>
cl Pg 35 [.pointer r43.1, .int .i64 t103.1] [kI] w127 fun (r129 : Int × Unit) w130 =>
(w130.cell? ⟨b108, 0 + 1, none⟩ = some (.int .i64 n128)) ∧ (
cs ((n128 : Int) != (r129.1 : Int)) (
J124 (true, ()) w130) (
ldI w130 .i64 b108 (0 + 2) fun n131 =>
cl Pg 36 [.pointer r43.1, .int .i64 t103.1] [kI] w130 fun (r132 : Int × Unit) w133 =>
(w133.cell? ⟨b108, 0 + 2, none⟩ = some (.int .i64 n131)) ∧ (
J124 ((n131 : Int) != (r132.1 : Int), ()) w133)))) (
J58 (w64 (t57.1 + 1), ()) w105)))) fun J76 w79 =>
cs t73.1 (
J76 (true, ()) w79) (
jn [kB] w79 (fun (t135 : Bool × Unit) w136 =>
J76 (t135.1, ()) w136) fun J134 w137 =>
cs ((r70.2.1 : Int) == (0 : Int)) (
J134 (!(((r68.1 : Int) == (0 : Int)) == r70.1), ()) w137) (
J134 (false, ()) w137))) fun J72 w75 =>
cs ((r70.2.1 : Int) != (0 : Int)) (
J72 ((r68.1 : Int) != (r70.2.1 : Int), ()) w75) (
J72 (false, ()) w75)) (
R [.bool true] w62)) fun J60 w63 =>
cs (decide ((t57.1 : Int) < (8 : Int))) (
cl Pg 21 [.pointer r41.1] [kI] w63 fun (r138 : Int × Unit) w139 =>
J60 ((r138.1 : Int) != (0 : Int), ()) w139) (
J60 (false, ()) w63)))) fun J45 w48 =>
cs r41.1.isNone (
J45 (true, ()) w48) (
J45 ((r43.2.1 : Int) != (0 : Int), ()) w48))
theorem tie11 (a0 : Int) (a1 : Int) (a2 : (Int × Int × Int × Unit)) (R : List Value → World → Prop) (w : World) : compF Pg Tryz.f11 ⟨[(3, ⟨[(13, kI)], [75, 76, 77, 78, 79, 80, 81, 82, 83, 84, 85, 86]⟩), (7, ⟨[(14, kI)], [6, 15, 16, 17, 18, 19, 20, 21, 22, 23, 24, 25, 26, 27, 28, 29, 30, 87, 88, 89, 90, 91, 92, 93, 94, 95, 96, 97, 98, 99, 100, 101, 102, 103, 104, 105, 106, 107, 108, 109, 110, 111, 112, 113, 114, 115, 116, 117, 118, 119, 120, 121, 122, 123, 124, 125, 126, 127, 128, 129, 130, 131, 132, 133, 134, 135, 136, 137, 138, 139, 140, 141, 142, 143, 144, 145, 146, 147, 148, 149, 150, 151, 152, 153, 154, 155, 156, 157, 158, 159, 160, 161, 162, 163, 164, 165, 166, 167, 168, 169, 170, 171, 172, 173, 174, 175, 176, 177, 178, 179, 180, 181, 182, 183, 184, 185, 186, 187, 188, 189, 190, 191, 192, 193, 194, 195, 196, 197, 198]⟩), (12, ⟨[(21, kI)], [6, 22, 23, 24, 25, 26, 133, 134, 135, 136, 137, 138, 139, 140, 141, 142, 143, 144, 145, 146, 147, 148, 149, 150, 151, 152, 153, 154, 155, 156, 157, 158, 159, 160, 161, 162, 163, 164, 165, 166, 167, 168, 169, 170, 171, 172, 173]⟩), (17, ⟨[(26, kI)], [6, 159, 160, 161, 162, 163, 164, 165, 166, 167, 168, 169, 170, 171, 172, 173]⟩), (22, ⟨[(27, kI)], [6, 28, 29, 30, 174, 175, 176, 177, 178, 179, 180, 181, 182, 183, 184, 185, 186, 187, 188, 189, 190, 191, 192, 193, 194, 195, 196, 197, 198]⟩)], [(40, ⟨[(198, kB)], [185, 186, 187, 188, 189, 190, 191, 192, 193, 194, 195, 196, 197]⟩)], [(34, .l [(0, []), (1, []), (2, []), (3, []), (4, []), (5, []), (6, []), (7, []), (8, [])]), (40, .l [(0, []), (1, []), (2, []), (3, []), (4, [2, 3]), (5, []), (6, []), (7, []), (8, []), (9, []), (10, []), (11, [9, 10, 6, 5, 4, 1, 2, 3, 0]), (12, []), (13, [])])], [(9, [(3, 3, ⟨[(74, kB)], [72, 73]⟩)]), (16, [(3, 4, ⟨[(93, kB)], [90, 91, 92]⟩)]), (22, [(3, 4, ⟨[(122, kB)], [119, 120, 121]⟩), (8, 9, ⟨[(132, kB)], [124, 125, 126, 127, 128, 129, 130, 131]⟩), (11, 5, ⟨[(131, kB)], [127, 128, 129, 130]⟩)]), (29, [(6, 6, ⟨[(158, kB)], [153, 154, 155, 156, 157]⟩)])]⟩ [.int .u8 a0, .int .u8 a1, .agg #[.int .u8 a2.1, .int .u8 a2.2.1, .int .u8 a2.2.2.1]] R w = sh11 a0 a1 a2 R w := by kernel_rfl
def sh37 (a0 : (Int × Sl × Sl × Sl × Sl × Sl × Sl × Sl × Int × Unit)) (R : List Value → World → Prop) (w : World) : Prop :=
al w 33 [.int .i64 a0.1, vS a0.2.1, vS a0.2.2.1, vS a0.2.2.2.1, vS a0.2.2.2.2.1, vS a0.2.2.2.2.2.1, vS a0.2.2.2.2.2.2.1, vS a0.2.2.2.2.2.2.2.1, .int .i64 a0.2.2.2.2.2.2.2.2.1] fun b1 w2 =>
ldS w2 b1 (0 + 6) fun s3 =>
lp [kI, kI] w2 ((0 : Int), (0 : Int), ()) fun (t4 : Int × Int × Unit) J5 w6 =>
cs (decide ((t4.2.1 : Int) < ((s3.len : Int) : Int))) (
ix s3 t4.2.1 3 fun b7 o8 =>
ldB w6 b7 o8 fun b9 =>
ldI w6 .i64 b7 (o8 + 1) fun n10 =>
ldI w6 .i64 b7 (o8 + 2) fun n11 =>
al w6 88 [.bool false, .int .i64 0, .int .i64 0] fun b12 w13 =>
st1 w13 b12 0 (.bool b9) fun w14 =>
st1 w14 b12 (0 + 1) (.int .i64 n10) fun w15 =>
st1 w15 b12 (0 + 2) (.int .i64 n11) fun w16 =>
ldB w16 b12 0 fun b17 =>
ldI w16 .i64 b12 (0 + 1) fun n18 =>
ldI w16 .i64 b12 (0 + 2) fun n19 =>
cl Pg 71 [.int .i64 t4.1, .agg #[.bool b17, .int .i64 n18, .int .i64 n19]] [kI, kI] w16 fun (r20 : Int × Int × Unit) w21 =>
J5 (r20.2.1, w64 (t4.2.1 + 1), ()) w21) (
R [.int .i64 t4.1] w6)
theorem tie37 (a0 : (Int × Sl × Sl × Sl × Sl × Sl × Sl × Sl × Int × Unit)) (R : List Value → World → Prop) (w : World) : compF Pg Tryz.f37 ⟨[(1, ⟨[(3, kI), (9, kI)], [5, 10, 11, 12, 13, 14, 15, 16, 17, 18, 19]⟩)], [], [], []⟩ [.agg #[.int .i64 a0.1, vS a0.2.1, vS a0.2.2.1, vS a0.2.2.2.1, vS a0.2.2.2.2.1, vS a0.2.2.2.2.2.1, vS a0.2.2.2.2.2.2.1, vS a0.2.2.2.2.2.2.2.1, .int .i64 a0.2.2.2.2.2.2.2.2.1]] R w = sh37 a0 R w := by kernel_rfl
theorem call37 {a0 : (Int × Sl × Sl × Sl × Sl × Sl × Sl × Sl × Int × Unit)} {w : World} {K : TK [kI] → World → Prop} (h : sh37 a0 (fun vs w' => ∃ t, encK [kI] t = vs ∧ K t w') w) : cl Pg 37 [.agg #[.int .i64 a0.1, vS a0.2.1, vS a0.2.2.1, vS a0.2.2.2.1, vS a0.2.2.2.2.1, vS a0.2.2.2.2.2.1, vS a0.2.2.2.2.2.2.1, vS a0.2.2.2.2.2.2.2.1, .int .i64 a0.2.2.2.2.2.2.2.2.1]] [kI] w K := cl_of Tryz.func37 (tie37 ..) h
def sh73 (a0 : Option Addr) (R : List Value → World → Prop) (w : World) : Prop :=
dr w fun w1 =>
nn a0 fun b2 o3 =>
ldI w1 .i64 b2 (o3 + 2) fun n4 =>
nn a0 fun b5 o6 =>
ldS w1 b5 (o6 + 6) fun s7 =>
R [.int .i64 (w64 (n4 - (s7.len : Int)))] w1
theorem tie73 (a0 : Option Addr) (R : List Value → World → Prop) (w : World) : compF Pg Tryz.f73 ⟨[], [], [(1, .l [(0, []), (1, []), (2, []), (3, []), (4, []), (5, []), (6, []), (7, []), (8, []), (9, []), (10, [])])], []⟩ [.pointer a0] R w = sh73 a0 R w := by kernel_rfl
theorem call73 {a0 : Option Addr} {w : World} {K : TK [kI] → World → Prop} (h : sh73 a0 (fun vs w' => ∃ t, encK [kI] t = vs ∧ K t w') w) : cl Pg 73 [.pointer a0] [kI] w K := cl_of Tryz.func73 (tie73 ..) h
def sh38 (a0 : Option Addr) (a1 : Int) (R : List Value → World → Prop) (w : World) : Prop :=
nn a0 fun b1 o2 =>
ldS w b1 (o2 + 3) fun s3 =>
cl Pg 72 [vS s3, .int .i64 a1] [kP, kB] w fun (r4 : Option Addr × Bool × Unit) w5 =>
cs (!r4.2.1) (
R [.int .i64 0, .slice none 0 0, .int .i64 (-18)] w5) (
dr w5 fun w6 =>
nn r4.1 fun b7 o8 =>
ldP w6 b7 o8 fun p9 =>
cl Pg 73 [.pointer r4.1] [kI] w6 fun (r10 : Int × Unit) w11 =>
(w11.cell? ⟨b7, o8, none⟩ = some (.pointer p9)) ∧ (
cl Pg 60 [.pointer p9] [kS] w11 fun (r12 : Sl × Unit) w13 =>
R [.int .i64 r10.1, vS r12.1, .int .i64 0] w13))
theorem tie38 (a0 : Option Addr) (a1 : Int) (R : List Value → World → Prop) (w : World) : compF Pg Tryz.f38 ⟨[], [], [(4, .l [(0, []), (2, []), (3, []), (4, []), (5, []), (1, [0]), (6, [5, 1, 4, 0, 3, 2]), (7, []), (8, []), (9, [])])], []⟩ [.pointer a0, .int .i64 a1] R w = sh38 a0 a1 R w := by kernel_rfl
theorem call38 {a0 : Option Addr} {a1 : Int} {w : World} {K : TK [kI, kS, kI] → World → Prop} (h : sh38 a0 a1 (fun vs w' => ∃ t, encK [kI, kS, kI] t = vs ∧ K t w') w) : cl Pg 38 [.pointer a0, .int .i64 a1] [kI, kS, kI] w K := cl_of Tryz.func38 (tie38 ..) h
def sh12 (a0 : Sl) (a1 : Sl) (a2 : Int) (R : List Value → World → Prop) (w : World) : Prop :=
cl Pg 17 [] [kB] w fun (r1 : Bool × Unit) w2 =>
cs (!r1.1) (
R [.bool false] w2) (
jn [kB] w2 (fun (t4 : Bool × Unit) w5 =>
jn [kB] w5 (fun (t8 : Bool × Unit) w9 =>
cs t8.1 (
R [.bool true] w9) (
al w9 3 [.int .i64 1] fun b11 w12 =>
cl Pg 18 [vS ⟨some ⟨b11, 0, none⟩, 1, 1⟩] [.a [(.i .i64), .s, .s, .s, .s, .s, .s, .s, (.i .i64)]] w12 fun (r13 : (Int × Sl × Sl × Sl × Sl × Sl × Sl × Sl × Int × Unit) × Unit) w14 =>
al w14 33 [.int .i64 0, .slice none 0 0, .slice none 0 0, .slice none 0 0, .slice none 0 0, .slice none 0 0, .slice none 0 0, .slice none 0 0, .int .i64 0] fun b15 w16 =>
st1 w16 b15 0 (.int .i64 r13.1.1) fun w17 =>
st1 w17 b15 (0 + 1) (vS r13.1.2.1) fun w18 =>
st1 w18 b15 (0 + 2) (vS r13.1.2.2.1) fun w19 =>
st1 w19 b15 (0 + 3) (vS r13.1.2.2.2.1) fun w20 =>
st1 w20 b15 (0 + 4) (vS r13.1.2.2.2.2.1) fun w21 =>
st1 w21 b15 (0 + 5) (vS r13.1.2.2.2.2.2.1) fun w22 =>
st1 w22 b15 (0 + 6) (vS r13.1.2.2.2.2.2.2.1) fun w23 =>
st1 w23 b15 (0 + 7) (vS r13.1.2.2.2.2.2.2.2.1) fun w24 =>
st1 w24 b15 (0 + 8) (.int .i64 r13.1.2.2.2.2.2.2.2.2.1) fun w25 =>
lp [kI] w25 ((0 : Int), ()) fun (t26 : Int × Unit) J27 w28 =>
cs (decide ((t26.1 : Int) < ((a0.len : Int) : Int))) (
dr w28 fun w29 =>
ldS w29 b15 (0 + 6) fun s30 =>
ix a0 t26.1 1 fun b31 o32 =>
ldI w29 .u8 b31 o32 fun n33 =>
ix a1 t26.1 1 fun b34 o35 =>
ldI w29 .u8 b34 o35 fun n36 =>
al w29 88 [.bool false, .int .i64 (w64 (1 + (w64 (Int.tmod n33 6)))), .int .i64 (w64 (1 + (w64 (Int.tmod n36 40))))] fun b37 w38 =>
(w38.cell? ⟨b15, 0 + 6, none⟩ = some (vS s30)) ∧ (
ef Pg (Builtin.append_ #[30, 30] 30 #[vS s30, vS ⟨some ⟨b37, 0, none⟩, 1, 1⟩]) [kS] w38 fun (r39 : Sl × Unit) w40 =>
st1 w40 b15 (0 + 6) (vS r39.1) fun w41 =>
J27 (w64 (t26.1 + 1), ()) w41)) (
ldI w28 .i64 b15 0 fun n42 =>
ldS w28 b15 (0 + 1) fun s43 =>
ldS w28 b15 (0 + 2) fun s44 =>
ldS w28 b15 (0 + 3) fun s45 =>
ldS w28 b15 (0 + 4) fun s46 =>
ldS w28 b15 (0 + 5) fun s47 =>
ldS w28 b15 (0 + 6) fun s48 =>
ldS w28 b15 (0 + 7) fun s49 =>
ldI w28 .i64 b15 (0 + 8) fun n50 =>
cl Pg 19 [.agg #[.int .i64 n42, vS s43, vS s44, vS s45, vS s46, vS s47, vS s48, vS s49, .int .i64 n50]] [kP] w28 fun (r51 : Option Addr × Unit) w52 =>
cs r51.1.isNone (
R [.bool false] w52) (
lp [kS, kS, kS, kI] w52 (⟨none, 0, 0⟩, ⟨none, 0, 0⟩, ⟨none, 0, 0⟩, (0 : Int), ()) fun (t53 : Sl × Sl × Sl × Int × Unit) J54 w55 =>
cs (decide ((t53.2.2.2.1 : Int) < (w64 (a2) : Int))) (
ob ((a0.len : Int) ≠ 0) (
al w55 2 [.int .i64 (w64 ((Int.tmod t53.2.2.2.1 (a0.len : Int)) + 1))] fun b56 w57 =>
cl Pg 20 [.pointer r51.1, .int .i64 48, vS ⟨some ⟨b56, 0, none⟩, 1, 1⟩] [kI, kI] w57 fun (r58 : Int × Int × Unit) w59 =>
cs ((r58.1 : Int) == ((-50) : Int)) (
J54 (t53.1, t53.2.1, t53.2.2.1, w64 (t53.2.2.2.1 + 1), ()) w59) (
ldS w59 b15 (0 + 6) fun s60 =>
ix s60 (Int.tmod t53.2.2.2.1 (a0.len : Int)) 3 fun b61 o62 =>
ldI w59 .i64 b61 (o62 + 2) fun n63 =>
jn [kB] w59 (fun (t65 : Bool × Unit) w66 =>
jn [kB] w66 (fun (t69 : Bool × Unit) w70 =>
jn [kB] w70 (fun (t73 : Bool × Unit) w74 =>
cs t73.1 (
R [.bool false] w74) (
lp [kI] w74 ((0 : Int), ()) fun (t76 : Int × Unit) J77 w78 =>
cs (decide ((t76.1 : Int) < ((t53.1.len : Int) : Int))) (
dr w78 fun w79 =>
jn [kB] w79 (fun (t81 : Bool × Unit) w82 =>
cs t81.1 (
R [.bool false] w82) (
J77 (w64 (t76.1 + 1), ()) w82)) fun J80 w83 =>
ix t53.1 t76.1 1 fun b84 o85 =>
ldI w83 .i64 b84 o85 fun n86 =>
ix t53.2.1 t76.1 1 fun b87 o88 =>
ldI w83 .i64 b87 o88 fun n89 =>
cs (decide ((r58.2.1 : Int) < (w64 (n86 + n89) : Int))) (
ix t53.1 t76.1 1 fun b90 o91 =>
ldI w83 .i64 b90 o91 fun n92 =>
J80 (decide ((n92 : Int) < (w64 (r58.2.1 + n63) : Int)), ()) w83) (
J80 (false, ()) w83)) (
al w78 3 [.int .i64 r58.2.1] fun b93 w94 =>
ef Pg (Builtin.append_ #[72, 72] 72 #[vS t53.1, vS ⟨some ⟨b93, 0, none⟩, 1, 1⟩]) [kS] w94 fun (r95 : Sl × Unit) w96 =>
al w96 3 [.int .i64 n63] fun b97 w98 =>
ef Pg (Builtin.append_ #[72, 72] 72 #[vS t53.2.1, vS ⟨some ⟨b97, 0, none⟩, 1, 1⟩]) [kS] w98 fun (r99 : Sl × Unit) w100 =>
al w100 3 [.int .i64 (Int.tmod t53.2.2.2.1 (a0.len : Int))] fun b101 w102 =>
ef Pg (Builtin.append_ #[72, 72] 72 #[vS t53.2.2.1, vS ⟨some ⟨b101, 0, none⟩, 1, 1⟩]) [kS] w102 fun (r103 : Sl × Unit) w104 =>
J54 (r95.1, r99.1, r103.1, w64 (t53.2.2.2.1 + 1), ()) w104))) fun J72 w75 =>
cs t69.1 (
J72 (true, ()) w75) (
ldI w75 .i64 b15 0 fun n105 =>
ldS w75 b15 (0 + 1) fun s106 =>
ldS w75 b15 (0 + 2) fun s107 =>
ldS w75 b15 (0 + 3) fun s108 =>
ldS w75 b15 (0 + 4) fun s109 =>
ldS w75 b15 (0 + 5) fun s110 =>
ldS w75 b15 (0 + 6) fun s111 =>
ldS w75 b15 (0 + 7) fun s112 =>
ldI w75 .i64 b15 (0 + 8) fun n113 =>
cl Pg 37 [.agg #[.int .i64 n105, vS s106, vS s107, vS s108, vS s109, vS s110, vS s111, vS s112, .int .i64 n113]] [kI] w75 fun (r114 : Int × Unit) w115 =>
J72 (decide ((w64 (r58.2.1 + n63) : Int) > (r114.1 : Int)), ()) w115)) fun J68 w71 =>
cs t65.1 (
J68 (true, ()) w71) (
J68 ((Int.tmod r58.2.1 4 : Int) != (0 : Int), ()) w71)) fun J64 w67 =>
cs ((r58.1 : Int) != (0 : Int)) (
J64 (true, ()) w67) (
J64 (decide ((r58.2.1 : Int) < (0 : Int)), ()) w67)))) (
lp [kI] w55 ((0 : Int), ()) fun (t116 : Int × Unit) J117 w118 =>
cs (decide ((t116.1 : Int) < ((t53.1.len : Int) : Int))) (
dr w118 fun w119 =>
ix t53.2.2.1 t116.1 1 fun b120 o121 =>
ldI w119 .i64 b120 o121 fun n122 =>
ix t53.1 t116.1 1 fun b123 o124 =>
ldI w119 .i64 b123 o124 fun n125 =>
al w119 2 [.int .i64 (w64 (n122 + 1)), .int .i64 n125] fun b126 w127 =>
cl Pg 20 [.pointer r51.1, .int .i64 50, vS ⟨some ⟨b126, 0, none⟩, 2, 2⟩] [kI, kI] w127 fun (r128 : Int × Int × Unit) w129 =>
dr w129 fun w130 =>
ix t53.2.2.1 t116.1 1 fun b131 o132 =>
ldI w130 .i64 b131 o132 fun n133 =>
ix t53.1 t116.1 1 fun b134 o135 =>
ldI w130 .i64 b134 o135 fun n136 =>
al w130 2 [.int .i64 (w64 (n133 + 1)), .int .i64 n136] fun b137 w138 =>
cl Pg 20 [.pointer r51.1, .int .i64 50, vS ⟨some ⟨b137, 0, none⟩, 2, 2⟩] [kI, kI] w138 fun (r139 : Int × Int × Unit) w140 =>
jn [kB] w140 (fun (t142 : Bool × Unit) w143 =>
cs t142.1 (
R [.bool false] w143) (
J117 (w64 (t116.1 + 1), ()) w143)) fun J141 w144 =>
cs ((r128.1 : Int) != (0 : Int)) (
J141 (true, ()) w144) (
J141 ((r139.1 : Int) != ((-17) : Int), ()) w144)) (
lp [kI] w118 ((0 : Int), ()) fun (t145 : Int × Unit) J146 w147 =>
cs (decide ((t145.1 : Int) < ((a0.len : Int) : Int))) (
cl Pg 38 [.pointer r51.1, .int .i64 (w64 (t145.1 + 1))] [kI, kS, kI] w147 fun (r148 : Int × Sl × Int × Unit) w149 =>
ldS w149 b15 (0 + 6) fun s150 =>
ix s150 t145.1 3 fun b151 o152 =>
ldI w149 .i64 b151 (o152 + 1) fun n153 =>
jn [kB] w149 (fun (t155 : Bool × Unit) w156 =>
cs t155.1 (
R [.bool false] w156) (
J146 (w64 (t145.1 + 1), ()) w156)) fun J154 w157 =>
cs ((r148.1 : Int) != (n153 : Int)) (
J154 (true, ()) w157) (
J154 (((r148.2.1.len : Int) : Int) != (0 : Int), ()) w157)) (
R [.bool true] w147))))))) fun J7 w10 =>
cs t4.1 (
J7 (true, ()) w10) (
J7 (decide (((a1.len : Int) : Int) < ((a0.len : Int) : Int)), ()) w10)) fun J3 w6 =>
cs (((a0.len : Int) : Int) == (0 : Int)) (
J3 (true, ()) w6) (
J3 (decide (((a0.len : Int) : Int) > (8 : Int)), ()) w6))
theorem tie12 (a0 : Sl) (a1 : Sl) (a2 : Int) (R : List Value → World → Prop) (w : World) : compF Pg Tryz.f12 ⟨[(3, ⟨[(8, kI)], [47, 48, 49, 50, 51, 52, 53, 54, 55, 56, 57, 58, 59, 60, 61, 62, 63, 64, 65, 66, 67, 68, 69, 70, 71, 72]⟩), (8, ⟨[(10, kS), (11, kS), (12, kS), (13, kI)], [6, 14, 15, 16, 17, 18, 77, 78, 79, 80, 81, 82, 83, 84, 85, 86, 87, 88, 89, 90, 91, 92, 93, 94, 95, 96, 97, 98, 99, 100, 101, 102, 103, 104, 105, 106, 107, 108, 109, 110, 111, 112, 113, 114, 115, 116, 117, 118, 119, 120, 121, 122, 123, 124, 125, 126, 127, 128, 129, 130, 131, 132, 133, 134, 135, 136, 137, 138, 139, 140, 141, 142, 143, 144, 145, 146, 147, 148, 149, 150, 151, 152, 153, 154, 155, 156, 157, 158, 159, 160]⟩), (14, ⟨[(18, kI)], [6, 122, 123, 124, 125, 126, 127, 128, 129, 130, 131, 132, 133, 134, 135, 136, 137, 138, 139, 140, 141, 142, 143, 144, 145, 146, 147, 148]⟩), (19, ⟨[(19, kI)], [6, 20, 21, 22, 23, 161, 162, 163, 164, 165, 166, 167, 168, 169, 170, 171, 172, 173, 174, 175, 176, 177, 178, 179, 180, 181, 182, 183, 184, 185, 186, 187, 188, 189, 190, 191, 192, 193, 194, 195, 196, 197, 198, 199, 200, 201, 202]⟩), (24, ⟨[(24, kI)], [6, 25, 26, 27, 203, 204, 205, 206, 207, 208, 209, 210, 211, 212, 213, 214, 215, 216, 217, 218, 219, 220, 221, 222, 223, 224, 225, 226, 227, 228, 229]⟩)], [(26, ⟨[(148, kB)], [128, 129, 130, 131, 132, 133, 134, 135, 136, 137, 138, 139, 140, 141, 142, 143, 144, 145, 146, 147]⟩)], [(9, .l [(0, []), (1, []), (2, []), (3, []), (4, []), (5, []), (6, []), (7, []), (8, []), (9, []), (10, []), (11, []), (12, []), (13, []), (14, []), (15, []), (16, []), (17, [16, 8, 15, 7, 14, 6, 13, 5, 12, 4, 11, 2, 3, 9, 10]), (18, [1, 17, 0, 16, 8, 15, 7, 14, 6, 13, 5, 12, 4, 11, 2, 3, 9, 10]), (19, []), (20, [19, 18, 0, 1, 2, 3, 4, 5, 6, 7, 8, 9, 10, 11, 12, 13, 14, 15, 16, 17])]), (26, .l [(0, []), (1, []), (2, []), (3, []), (4, []), (5, []), (6, []), (7, []), (8, []), (9, []), (10, []), (11, []), (12, []), (13, []), (14, []), (15, []), (16, []), (17, []), (18, []), (19, []), (20, [])]), (34, .l [(0, []), (1, []), (2, []), (3, []), (4, []), (5, []), (6, []), (7, []), (8, []), (9, []), (10, [5, 9, 4, 8, 3, 6, 7, 1, 2]), (11, [0, 10, 5, 9, 4, 8, 3, 6, 7, 1, 2]), (12, []), (13, []), (14, []), (15, []), (16, [])]), (35, .l [(0, []), (1, []), (2, []), (3, []), (4, []), (5, []), (6, []), (7, []), (8, []), (9, []), (10, [5, 9, 4, 8, 3, 6, 7, 1, 2]), (11, [0, 10, 5, 9, 4, 8, 3, 6, 7, 1, 2]), (12, []), (13, []), (14, []), (15, []), (16, [])])], [(3, [(4, 4, ⟨[(37, kB)], [34, 35, 36]⟩), (9, 6, ⟨[(44, kB)], [39, 40, 41, 42, 43]⟩)]), (21, [(3, 3, ⟨[(108, kB)], [106, 107]⟩), (7, 4, ⟨[(113, kB)], [110, 111, 112]⟩), (12, 7, ⟨[(121, kB)], [115, 116, 117, 118, 119, 120]⟩)]), (36, [(3, 3, ⟨[(202, kB)], [200, 201]⟩)]), (42, [(9, 4, ⟨[(229, kB)], [226, 227, 228]⟩)])]⟩ [vS a0, vS a1, .int .u8 a2] R w = sh12 a0 a1 a2 R w := by kernel_rfl
def sh91 (a0 : Option Addr) (R : List Value → World → Prop) (w : World) : Prop :=
cl Pg 169 [.pointer a0] [kI, kB] w fun (r1 : Int × Bool × Unit) w2 =>
lp [kS, kI, kB] w2 (⟨none, 0, 0⟩, r1.1, r1.2.1, ()) fun (t3 : Sl × Int × Bool × Unit) J4 w5 =>
cs t3.2.2.1 (
al w5 3 [.int .i64 t3.2.1] fun b6 w7 =>
ef Pg (Builtin.append_ #[72, 72] 72 #[vS t3.1, vS ⟨some ⟨b6, 0, none⟩, 1, 1⟩]) [kS] w7 fun (r8 : Sl × Unit) w9 =>
cl Pg 170 [.pointer a0, .int .i64 t3.2.1] [kI, kB] w9 fun (r10 : Int × Bool × Unit) w11 =>
J4 (r8.1, r10.1, r10.2.1, ()) w11) (
R [vS t3.1] w5)
theorem tie91 (a0 : Option Addr) (R : List Value → World → Prop) (w : World) : compF Pg Tryz.f91 ⟨[(1, ⟨[(3, kS), (4, kI), (5, kB)], [11, 12, 13, 14, 15, 16, 17, 18, 19, 20, 21]⟩)], [], [], []⟩ [.pointer a0] R w = sh91 a0 R w := by kernel_rfl
theorem call91 {a0 : Option Addr} {w : World} {K : TK [kS] → World → Prop} (h : sh91 a0 (fun vs w' => ∃ t, encK [kS] t = vs ∧ K t w') w) : cl Pg 91 [.pointer a0] [kS] w K := cl_of Tryz.func91 (tie91 ..) h
def sh47 (a0 : Option Addr) (R : List Value → World → Prop) (w : World) : Prop :=
nn a0 fun b1 o2 =>
cl Pg 91 [.pointer (some ⟨b1, o2, none⟩)] [kS] w fun (r3 : Sl × Unit) w4 =>
lp [kS, kI] w4 (⟨none, 0, 0⟩, (0 : Int), ()) fun (t5 : Sl × Int × Unit) J6 w7 =>
cs (decide ((t5.2.1 : Int) < ((r3.1.len : Int) : Int))) (
ix r3.1 t5.2.1 1 fun b8 o9 =>
ldI w7 .i64 b8 o9 fun n10 =>
nn a0 fun b11 o12 =>
ixA b11 (o12 + 4) 17 n10 1 fun b13 o14 =>
ldS w7 b13 o14 fun s15 =>
ef Pg (Builtin.append_ #[72, 72] 72 #[vS t5.1, vS s15]) [kS] w7 fun (r16 : Sl × Unit) w17 =>
J6 (r16.1, w64 (t5.2.1 + 1), ()) w17) (
cl Pg 69 [vS t5.1] [kS] w7 fun (r18 : Sl × Unit) w19 =>
R [vS r18.1] w19)
theorem tie47 (a0 : Option Addr) (R : List Value → World → Prop) (w : World) : compF Pg Tryz.f47 ⟨[(1, ⟨[(3, kS), (11, kI)], [5, 12, 13, 14, 15, 16, 17, 18, 19, 20, 21, 22, 23]⟩)], [], [], []⟩ [.pointer a0] R w = sh47 a0 R w := by kernel_rfl
theorem call47 {a0 : Option Addr} {w : World} {K : TK [kS] → World → Prop} (h : sh47 a0 (fun vs w' => ∃ t, encK [kS] t = vs ∧ K t w') w) : cl Pg 47 [.pointer a0] [kS] w K := cl_of Tryz.func47 (tie47 ..) h
def sh16 (a0 : Bool) (a1 : Sl) (R : List Value → World → Prop) (w : World) : Prop :=
cl Pg 17 [] [kB] w fun (r1 : Bool × Unit) w2 =>
cs (!r1.1) (
R [.bool false] w2) (
jn [kB] w2 (fun (t4 : Bool × Unit) w5 =>
cs t4.1 (
R [.bool true] w5) (
al w5 71 [.bool a0, .int .i64 0, .int .i64 1] fun b7 w8 =>
al w8 33 [.int .i64 0, .slice none 0 0, .slice none 0 0, .slice none 0 0, .slice none 0 0, .slice none 0 0, .slice none 0 0, .slice none 0 0, .int .i64 0] fun b9 w10 =>
st1 w10 b9 0 (.int .i64 1) fun w11 =>
st1 w11 b9 (0 + 1) (.slice none 0 0) fun w12 =>
st1 w12 b9 (0 + 2) (vS ⟨some ⟨b7, 0, none⟩, 1, 1⟩) fun w13 =>
st1 w13 b9 (0 + 3) (.slice none 0 0) fun w14 =>
st1 w14 b9 (0 + 4) (.slice none 0 0) fun w15 =>
st1 w15 b9 (0 + 5) (.slice none 0 0) fun w16 =>
st1 w16 b9 (0 + 6) (.slice none 0 0) fun w17 =>
st1 w17 b9 (0 + 7) (.slice none 0 0) fun w18 =>
st1 w18 b9 (0 + 8) (.int .i64 0) fun w19 =>
cl Pg 43 [.bool a0, .int .i64 0, .int .i64 1] [kP, kI] w19 fun (r20 : Option Addr × Int × Unit) w21 =>
cl Pg 44 [.bool a0] [kP] w21 fun (r22 : Option Addr × Unit) w23 =>
cl Pg 45 [] [kP] w23 fun (r24 : Option Addr × Unit) w25 =>
lp [kI] w25 ((0 : Int), ()) fun (t26 : Int × Unit) J27 w28 =>
cs (decide ((t26.1 : Int) < ((a1.len : Int) : Int))) (
ix a1 t26.1 1 fun b29 o30 =>
ldI w28 .u8 b29 o30 fun n31 =>
ldS w28 b9 (0 + 1) fun s32 =>
al w28 45 [.int .i64 (w64 (1 + (w64 (Int.tmod n31 16)))), .bool true] fun b33 w34 =>
ef Pg (Builtin.append_ #[25, 25] 25 #[vS s32, vS ⟨some ⟨b33, 0, none⟩, 1, 1⟩]) [kS] w34 fun (r35 : Sl × Unit) w36 =>
st1 w36 b9 (0 + 1) (vS r35.1) fun w37 =>
cl Pg 46 [.pointer r24.1, .int .i64 (w64 (t26.1 + 1)), .int .i64 (w64 (1 + (w64 (Int.tmod n31 16))))] [kI] w37 fun (r38 : Int × Unit) w39 =>
J27 (w64 (t26.1 + 1), ()) w39) (
ldI w28 .i64 b9 0 fun n40 =>
ldS w28 b9 (0 + 1) fun s41 =>
ldS w28 b9 (0 + 2) fun s42 =>
ldS w28 b9 (0 + 3) fun s43 =>
ldS w28 b9 (0 + 4) fun s44 =>
ldS w28 b9 (0 + 5) fun s45 =>
ldS w28 b9 (0 + 6) fun s46 =>
ldS w28 b9 (0 + 7) fun s47 =>
ldI w28 .i64 b9 (0 + 8) fun n48 =>
cl Pg 19 [.agg #[.int .i64 n40, vS s41, vS s42, vS s43, vS s44, vS s45, vS s46, vS s47, .int .i64 n48]] [kP] w28 fun (r49 : Option Addr × Unit) w50 =>
cs r49.1.isNone (
R [.bool false] w50) (
cl Pg 47 [.pointer r24.1] [kS] w50 fun (r51 : Sl × Unit) w52 =>
lp [kI] w52 ((0 : Int), ()) fun (t53 : Int × Unit) J54 w55 =>
cs (decide ((t53.1 : Int) < ((r51.1.len : Int) : Int))) (
ix r51.1 t53.1 1 fun b56 o57 =>
ldI w55 .i64 b56 o57 fun n58 =>
ix a1 (w64 (n58 - 1)) 1 fun b59 o60 =>
ldI w55 .u8 b59 o60 fun n61 =>
cl Pg 21 [.pointer r49.1] [kI] w55 fun (r62 : Int × Unit) w63 =>
cs ((r62.1 : Int) != (n58 : Int)) (
R [.bool false] w63) (
al w63 2 [.int .i64 1] fun b64 w65 =>
cl Pg 20 [.pointer r49.1, .int .i64 25, vS ⟨some ⟨b64, 0, none⟩, 1, 1⟩] [kI, kI] w65 fun (r66 : Int × Int × Unit) w67 =>
cs ((r66.1 : Int) != (1 : Int)) (
R [.bool false] w67) (
cl Pg 48 [.pointer r20.1, .int .i64 n58, .int .i64 (w64 (1 + (w64 (Int.tmod n61 16))))] [kB, kI] w67 fun (r68 : Bool × Int × Unit) w69 =>
cl Pg 49 [.pointer r22.1, .int .i64 n58, .int .i64 (w64 (1 + (w64 (Int.tmod n61 16))))] [kI] w69 fun (r70 : Int × Unit) w71 =>
J54 (w64 (t53.1 + 1), ()) w71))) (
cl Pg 28 [.pointer r49.1, .int .i64 1] [kI, kS, kI] w55 fun (r72 : Int × Sl × Int × Unit) w73 =>
nn r20.1 fun b74 o75 =>
ldP w73 b74 o75 fun p76 =>
nn p76 fun b77 o78 =>
cl Pg 50 [.pointer (some ⟨b77, o78, none⟩)] [kS] w73 fun (r79 : Sl × Unit) w80 =>
nn r22.1 fun b81 o82 =>
cl Pg 50 [.pointer (some ⟨b81, o82, none⟩)] [kS] w80 fun (r83 : Sl × Unit) w84 =>
jn [kB] w84 (fun (t86 : Bool × Unit) w87 =>
cs t86.1 (
R [.bool false] w87) (
lp [kI] w87 ((0 : Int), ()) fun (t89 : Int × Unit) J90 w91 =>
cs (decide ((t89.1 : Int) < ((r72.2.1.len : Int) : Int))) (
dr w91 fun w92 =>
jn [kB] w92 (fun (t94 : Bool × Unit) w95 =>
cs t94.1 (
R [.bool false] w95) (
J90 (w64 (t89.1 + 1), ()) w95)) fun J93 w96 =>
ix r72.2.1 t89.1 1 fun b97 o98 =>
ldI w96 .i64 b97 o98 fun n99 =>
ix r79.1 t89.1 2 fun b100 o101 =>
ldI w96 .i64 b100 o101 fun n102 =>
cs ((n99 : Int) != (n102 : Int)) (
J93 (true, ()) w96) (
ix r79.1 t89.1 2 fun b103 o104 =>
ldI w96 .i64 b103 o104 fun n105 =>
ldI w96 .i64 b103 (o104 + 1) fun n106 =>
ix r83.1 t89.1 2 fun b107 o108 =>
ldI w96 .i64 b107 o108 fun n109 =>
ldI w96 .i64 b107 (o108 + 1) fun n110 =>
J93 (!((n105 : Int) == (n109 : Int) && (n106 : Int) == (n110 : Int)), ()) w96)) (
R [.bool true] w91))) fun J85 w88 =>
cs (((r72.2.1.len : Int) : Int) != ((r79.1.len : Int) : Int)) (
J85 (true, ()) w88) (
J85 (((r79.1.len : Int) : Int) != ((r83.1.len : Int) : Int), ()) w88)))))) fun J3 w6 =>
cs (((a1.len : Int) : Int) == (0 : Int)) (
J3 (true, ()) w6) (
J3 (decide (((a1.len : Int) : Int) > (15 : Int)), ()) w6))
theorem tie16 (a0 : Bool) (a1 : Sl) (R : List Value → World → Prop) (w : World) : compF Pg Tryz.f16 ⟨[(3, ⟨[(10, kI)], [11, 47, 48, 49, 50, 51, 52, 53, 54, 55, 56, 57, 58, 59, 60, 61, 62, 63, 64, 65, 66, 67, 68, 69, 70, 71]⟩), (8, ⟨[(14, kI)], [4, 15, 16, 17, 18, 78, 79, 80, 81, 82, 83, 84, 85, 86, 87, 88, 89, 90, 91, 92, 93, 94, 95, 96, 97, 98, 99, 100, 101, 102, 103, 104, 105, 106, 107, 108, 109, 110, 111, 112, 113, 114, 115]⟩), (15, ⟨[(24, kI)], [4, 145, 146, 147, 148, 149, 150, 151, 152, 153, 154, 155, 156, 157, 158, 159, 160, 161, 162, 163, 164, 165, 166, 167, 168, 169, 170, 171]⟩)], [(39, ⟨[(171, kB)], [151, 152, 153, 154, 155, 156, 157, 158, 159, 160, 161, 162, 163, 164, 165, 166, 167, 168, 169, 170]⟩)], [(39, .l [(0, []), (1, []), (2, []), (3, []), (4, []), (5, []), (6, []), (7, []), (8, []), (9, []), (10, []), (11, []), (12, []), (13, []), (14, []), (15, []), (16, []), (17, []), (18, []), (19, []), (20, [])])], [(3, [(4, 4, ⟨[(34, kB)], [31, 32, 33]⟩)]), (34, [(6, 6, ⟨[(144, kB)], [139, 140, 141, 142, 143]⟩)])]⟩ [.bool a0, vS a1] R w = sh16 a0 a1 R w := by kernel_rfl
end Go.Proofs.YtenonfkfoedfmaaGreatDoor.B


/- Contracts of the library's functions on []int, and of the laws' own comparison. -/
namespace Go.Proofs.YtenonfkfoedfmaaGreatDoor.B
open Go
set_option linter.unusedVariables false

abbrev ints (xs : List Int) : List Value := xs.map (Value.int .i64)

theorem ints_one (xs : List Int) : ∀ v ∈ ints xs, v.oneCell' = true := by
  intro v hv; obtain ⟨x, _, rfl⟩ := List.mem_map.1 hv; rfl

theorem ints_len (xs : List Int) : (ints xs).length = xs.length := List.length_map ..

theorem ints_get {xs : List Int} {i : Nat} {x : Int} (h : xs[i]? = some x) : (ints xs)[i]? = some (.int .i64 x) := by simp [ints, h]

/-- a wrap that does nothing -/
theorem w64_in {x : Int} (h1 : -9223372036854775808 ≤ x) (h2 : x ≤ 9223372036854775807) : w64 x = x := IntWalk.i64_in _ ⟨h1, h2⟩

theorem slT_int : SlT Pg 72 1 := .of (by kernel_rfl)

theorem Clone_int {e w L s vs R} (h : Ok e (slc 1 s vs :: L) w) (hb : s.len ≤ 2 ^ 31) (k : ∀ s' w', s'.len = s.len → Ok e (slc 1 s' vs :: slc 1 s vs :: L) w' → R [vS s'] w') : sh70 s R w := by
  unfold sh70
  obtain ⟨hl, hv, hc, hcase⟩ := h.slcE
  refine cs.mk (fun hn => ?_) (fun hn => ?_)
  · rcases hcase with ⟨ha, hcap, hL⟩ | ⟨b, post, ha, hp, hk⟩
    · have h0 : s.len = 0 := by omega
      have : vs = [] := List.eq_nil_of_length_eq_zero (by rw [hl, h0])
      subst this
      exact k ⟨none, 0, 0⟩ w h0.symm (h.slcNil 1)
    · rw [ha] at hn; cases hn
  · refine al.mk h fun b w1 h1 => ?_
    have h2 := h1.slcNew (n := 0) (sz := 1) rfl (by simp)
    refine ef.append2 slT_int (by decide) h2 (by simp only; omega) fun s' w2 hl2 h3 => ?_
    exact k s' w2 (by simpa using hl2) (by simpa using h3)

theorem Clip_int {e w L s vs R} (h : Ok e (slc 1 s vs :: L) w) (k : ∀ s' w', s'.len = s.len → Ok e (slc 1 s' vs :: L) w' → R [vS s'] w') : sh69 s R w := by
  unfold sh69
  exact sb.clip h fun s' hl h' => k s' w hl h'

/-- reading an element of an owned slice of ints -/
theorem ix_int {e w L s xs} {i : Int} {f} (h : Ok e (slc 1 s (ints xs) :: L) w) (h0 : 0 ≤ i) (h1 : i < s.len) (k : ∀ b o x, xs[i.toNat]? = some x → (∀ w', (∃ L', Ok e (slc 1 s (ints xs) :: L') w') → w'.cell? ⟨b, o, none⟩ = some (.int .i64 x)) → f b o) : ix s i 1 f := by
  obtain ⟨hl, hv, hc, hcase⟩ := h.slcE
  rcases hcase with ⟨ha, hcap, hL⟩ | ⟨b, post, ha, hp, hk⟩
  · omega
  · have hlt : i.toNat < xs.length := by rw [ints_len] at hl; omega
    refine ⟨b, 0, ha, h0, h1, k b _ _ (List.getElem?_eq_getElem hlt) ?_⟩
    rintro w' ⟨L', h'⟩
    have := h'.slc_cells ha (i.toNat * 1) (.int .i64 xs[i.toNat]) (by rw [Nat.mul_one]; exact ints_get (List.getElem?_eq_getElem hlt))
    rw [add_off] at this
    exact this

end Go.Proofs.YtenonfkfoedfmaaGreatDoor.B


/- Steps on memory that is owned: writing a stretch, 'copy', 'clear', 'append' that stays in its room, 'append' of made elements, 'slices.overlaps'. -/
namespace Go.Proofs.YtenonfkfoedfmaaGreatDoor.B
open Go
set_option linter.unusedVariables false
section
variable {e : World} {L : List SP} {w : World} {P : Program} {b o sz : Nat} {cs us vs post : List Value} {s d x : Sl}
theorem store_run (h : Ok e (pts b cs :: L) w) (hfit : o + us.length ≤ cs.length) (h1 : ∀ v ∈ us, v.oneCell' = true) :
    ∃ w', (storeCells ⟨b, o, none⟩ us).run P w = .ok () w' ∧ Ok e (pts b (cs.take o ++ us ++ cs.drop (o + us.length)) :: L) w' := by
  obtain ⟨tt, hblk⟩ := h.block
  have hst := run_storeCells_at P b o tt us 0 cs.toArray w hblk (by simpa using hfit) h1
  exact ⟨_, hst, by simpa using h.setRow _⟩
/-- 'copy' -/
theorem ef.copy {t ty : TypeId} {n : Nat} {K : TK [kI] → World → Prop} (T : SlT P t sz) (h : Ok e (pts b cs :: L) w) (hd : d.a = some ⟨b, o, none⟩) (hn : n = Nat.min x.len d.len) (hul : us.length = n * sz)
    (hxa : x.a = none → us = []) (hu : ∀ a, x.a = some a → ∀ j u, us[j]? = some u → w.cell? (a.add j) = some u) (h1 : ∀ v ∈ us, v.oneCell' = true) (hfit : o + us.length ≤ cs.length)
    (k : ∀ w', Ok e (pts b (cs.take o ++ us ++ cs.drop (o + us.length)) :: L) w' → K ((n : Int), ()) w') : ef P (Builtin.copy_ #[t, t] ty #[vS d, vS x]) [kI] w K := by
  obtain ⟨el, i, z, ht, hi, hz, hs, hby, hzs, _⟩ := T.ex
  obtain ⟨w', hst, hk⟩ := store_run (P := P) h hfit h1
  refine ⟨((n : Int), ()), w', ?_, k w' hk⟩
  obtain ⟨da, dlen, dcap⟩ := d
  obtain ⟨xa, xlen, xcap⟩ := x
  simp only at hd hn hxa hu
  subst hd
  cases xa with
  | none =>
    have hus := hxa rfl
    subst hus
    have hf : (Builtin.firstCells i.size n (vS ⟨none, xlen, xcap⟩)).run P w = .ok #[] w := by
      simp only [List.length_nil] at hul
      cases n with
      | zero => simp [vS, Builtin.firstCells]
      | succ n => simp [vS, Builtin.firstCells]
    simp only [vS] at hf
    simp [vS, Builtin.copy_, run_underlying ht, sizeOf, typeInfo, hi, Builtin.lenOf, ← hn, hf, hst, goInt, ret1, encK]
    rfl
  | some a =>
    have hf := run_firstCells_some (P := P) w i.size n a xlen xcap us (by rw [hs]; exact hul) (hu a rfl)
    simp [vS, Builtin.copy_, run_underlying ht, sizeOf, typeInfo, hi, Builtin.lenOf, ← hn, hf, hst, goInt, ret1, encK]
    rfl
theorem zeroCells_one {z : Array Value} (h : z.toList.all (·.oneCell') = true) (hz : 0 < z.size) (n : Nat) : ∀ v ∈ (Builtin.zeroCells z n).toList, v.oneCell' = true := by
  intro v hv
  obtain ⟨i, hi, rfl⟩ := List.getElem_of_mem hv
  rw [List.all_eq_true] at h
  refine h _ ?_
  simp only [Builtin.zeroCells]
  simp
  rw [getElem!_pos z _ (Nat.mod_lt _ hz)]
  exact Array.getElem_mem _
/-- 'clear' of a stretch -/
theorem ef.clear {t ty : TypeId} {K : TK [] → World → Prop} (T : SlT P t sz) (hsz : 0 < sz) (h : Ok e (pts b cs :: L) w) (hd : d.a = some ⟨b, o, none⟩) (hfit : d.len = 0 ∨ o + d.len * sz ≤ cs.length)
    (k : ∀ w' us, us.length = d.len * sz → Ok e (pts b (cs.take o ++ us ++ cs.drop (o + us.length)) :: L) w' → K () w') : ef P (Builtin.clear_ #[t] ty #[vS d]) [] w K := by
  obtain ⟨el, i, z, ht, hi, hz, hs, hby, hzs, hz1⟩ := T.ex
  obtain ⟨da, dlen, dcap⟩ := d
  simp only at hd hfit k
  subst hd
  cases dlen with
  | zero =>
    refine ⟨(), w, ?_, k w [] (by simp) (by simpa using h)⟩
    simp [vS, Builtin.clear_, run_underlying ht, ret1, encK]
  | succ n =>
    have hl : (Builtin.zeroCells z.cells (n + 1)).toList.length = (n + 1) * sz := by rw [zeroCells_len, hzs]
    obtain ⟨w', hst, hk⟩ := store_run (P := P) (o := o) (us := (Builtin.zeroCells z.cells (n + 1)).toList) h (by rw [hl]; omega) (zeroCells_one hz1 (by omega) _)
    refine ⟨(), w', ?_, k w' _ hl hk⟩
    simp [vS, Builtin.clear_, run_underlying ht, zeroValue, typeInfo, hi, hz, hst, ret1, encK]
/-- 'append(s, make(S, n)...)' that does not fit: the old row is kept, and told -/
theorem ef.appendMake {t ti : TypeId} {ki : IntKind} {n : Nat} {K : TK [kS] → World → Prop} (T : SlT P t sz) (hti : P.underlying ti = some (.int ki)) (hsz : 0 < sz) (h : Ok e (pts b (vs ++ post) :: L) w)
    (ha : s.a = some ⟨b, 0, none⟩) (hl : vs.length = s.len * sz) (hn : 0 < n) (hg : s.cap < s.len + n) (hb : s.len + n ≤ 2 ^ 32)
    (k : ∀ s' c w' zs ps, s'.a = some ⟨c, 0, none⟩ → s'.len = s.len + n → s'.len ≤ s'.cap → zs.length = n * sz → s'.cap * sz ≤ (vs ++ zs ++ ps).length → Ok e (pts c (vs ++ zs ++ ps) :: pts b (vs ++ post) :: L) w' → K (s', ()) w') :
    ef P (Builtin.append_ #[t, ti] t #[vS s, .int .i64 n]) [kS] w K := by
  obtain ⟨el, i, z, ht, hi, hz, hs, hby, hzs, hz1⟩ := T.ex
  obtain ⟨sa, slen, scap⟩ := s
  simp only at ha hl hg hb k
  subst ha
  have holds : ∀ j u, vs[j]? = some u → w.cell? ((⟨b, 0, none⟩ : Addr).add j) = some u := by
    intro j u hj
    rw [Addr.add_lit]
    have hlt := (List.getElem?_eq_some_iff.1 hj).1
    exact h.cell (by rw [Nat.zero_add, List.getElem?_append_left hlt]; exact hj)
  have h48 : (slen + n) * i.bytes ≤ 140737488355328 := Nat.le_trans (Nat.mul_le_mul hb hby) (by decide)
  have hfit := growslice_fits (need := slen + n) (old := scap) (bytes := i.bytes) (by omega) h48
  have hnn : ¬ (slen + n ≤ scap) := by omega
  have h63' : ¬ (9223372036854775807 < ((slen : Int) + (n : Int))) := by omega
  have h48' : ¬ (281474976710656 < Builtin.nextslicecap (slen + n) scap * i.bytes) := by omega
  have hw : IntKind.i64.wrap (n : Int) = n := IntWalk.i64_in _ ⟨by omega, by omega⟩
  have hnb : ¬ (281474976710656 < (n : Int) * (i.bytes : Int)) := by
    have : n * i.bytes ≤ 140737488355328 := Nat.le_trans (Nat.mul_le_mul_right _ (by omega)) h48
    have h2 : ((n * i.bytes : Nat) : Int) ≤ 140737488355328 := Int.ofNat_le.mpr this
    rw [Int.natCast_mul] at h2
    omega
  have hn0 : ¬ (n * i.size = 0) := by
    rw [hs, Nat.mul_eq_zero]; omega
  have hfo := run_firstCells_some (P := P) w.drew i.size slen ⟨b, 0, none⟩ slen scap vs (by rw [hs]; exact hl) (by simpa using holds)
  have hge := grownCap_ge w (slen + n) scap el
  have hrun : (Builtin.append_ #[t, ti] t #[.slice (some ⟨b, 0, none⟩) slen scap, .int .i64 n]).run P w =
      .ok (.slice (some ⟨w.heap.size, 0, none⟩) (slen + n) (grownCap w (slen + n) scap el))
        (w.drew.alloc (.cells (vs.toArray ++ Builtin.zeroCells z.cells n ++ Builtin.zeroCells z.cells (grownCap w (slen + n) scap el - (slen + n))) el)) := by
    have hnl : ¬ ((n : Int) < 0) := by omega
    simp [Builtin.append_, run_underlying ht, run_underlying hti, sizeOf, typeInfo, zeroValue, hi, hz, Builtin.lenOf, hnn, h63', h48', Question.forced, hfo, newRow, grownCap, asInt, asIntOf, hw, hnb, hn0, hnl]
  have hal := h.drew.alloc el (vs ++ (Builtin.zeroCells z.cells n).toList ++ (Builtin.zeroCells z.cells (grownCap w (slen + n) scap el - (slen + n))).toList)
  have e1 : (vs ++ (Builtin.zeroCells z.cells n).toList ++ (Builtin.zeroCells z.cells (grownCap w (slen + n) scap el - (slen + n))).toList).toArray = vs.toArray ++ Builtin.zeroCells z.cells n ++ Builtin.zeroCells z.cells (grownCap w (slen + n) scap el - (slen + n)) := by
    apply Array.ext'; simp
  rw [e1] at hal
  refine ⟨(⟨some ⟨w.heap.size, 0, none⟩, slen + n, grownCap w (slen + n) scap el⟩, ()), _, hrun, ?_⟩
  refine k _ w.heap.size _ _ _ rfl rfl hge (by rw [zeroCells_len, hzs]) ?_ hal
  simp only [List.length_append, zeroCells_len, hzs, hl]
  rw [← Nat.add_mul, ← Nat.add_mul]
  exact Nat.mul_le_mul_right _ (by omega)
/-- a cut of a slice whose block is known -/
theorem sb_at {lo hi mx : Int} {f : Sl → Prop} (ha : s.a = some ⟨b, 0, none⟩) (h0 : 0 ≤ lo) (h1 : lo ≤ hi) (h2 : hi ≤ mx) (h3 : mx ≤ s.cap)
    (k : ∀ (s' : Sl) o, s'.a = some ⟨b, o, none⟩ → s'.len = hi.toNat - lo.toNat → s'.cap = mx.toNat - lo.toNat → o ≤ lo.toNat * sz → (lo < mx → o = lo.toNat * sz) → f s') : sb s lo hi mx sz f := by
  refine ⟨h0, h1, h2, h3, ?_⟩
  by_cases hm : mx.toNat = lo.toNat
  · refine k _ 0 (by simp [Sl.sub, ha, hm]) (by simp [Sl.sub]) (by simp [Sl.sub]) (Nat.zero_le _) (fun h => by omega)
  · refine k _ (lo.toNat * sz) ?_ (by simp [Sl.sub]) (by simp [Sl.sub]) (Nat.le_refl _) (fun _ => rfl)
    simp only [Sl.sub, ha, hm, if_false, Option.map_some]
    rw [Addr.add_lit, Nat.zero_add]
/-- 'slices.overlaps' of what lies in two blocks -/
theorem xt.overlaps {f : FuncId} {fn : Func} {t tr : TypeId} {c : Nat} {ds : List Value} {oc : Nat} {K : TK [kB] → World → Prop} (hf : P.funcs[f]? = some fn) (hname : (fn.name == "runtime.NumGoroutine") = false)
    (hb : fn.body.isNone = true) (hn : Extern.findNext fn = none) (he : Extern.find fn = some (Extern.SlicesOverlaps.overlaps #[t, t] #[tr])) (T : SlT P t sz)
    (h : Ok e (pts c ds :: pts b cs :: L) w) (hx : x.a = some ⟨c, oc, none⟩) (hd : d.a = some ⟨b, o, none⟩) (hne : cs ≠ []) (k : K (false, ()) w) : xt P f [vS x, vS d] [kB] w K := by
  obtain ⟨el, i, z, ht, hi, hz, hs, hby, hzs, hz1⟩ := T.ex
  obtain ⟨tx, hbx⟩ := h.block
  obtain ⟨td, hbd⟩ := h.p1.block
  obtain ⟨xa, xlen, xcap⟩ := x
  obtain ⟨da, dlen, dcap⟩ := d
  simp only at hx hd
  subst hx hd
  have hsx : w.shape? c = some (tx, ds.toArray.size) := by simp [World.shape?, hbx]
  have hsd : w.shape? b = some (td, cs.toArray.size) := by simp [World.shape?, hbd]
  have hrun := Go.Lib.run_overlaps_apart (P := P) w t tr el ht i.size (by simp [sizeOf, typeInfo, hi]) ⟨c, oc, none⟩ ⟨b, o, none⟩ xlen xcap dlen dcap h.ne tx td ds.toArray.size cs.toArray.size hsx hsd
    (by simpa using hne) h.frozen h.frozen
  refine ⟨(false, ()), w, ?_, k⟩
  have := run_callFunc_extern hf hname hb hn he #[vS ⟨some ⟨c, oc, none⟩, xlen, xcap⟩, vS ⟨some ⟨b, o, none⟩, dlen, dcap⟩] w
  rw [show [vS ⟨some ⟨c, oc, none⟩, xlen, xcap⟩, vS ⟨some ⟨b, o, none⟩, dlen, dcap⟩].toArray = #[vS ⟨some ⟨c, oc, none⟩, xlen, xcap⟩, vS ⟨some ⟨b, o, none⟩, dlen, dcap⟩] from rfl, this]
  simp only [vS]
  rw [hrun]
  rfl
end
end Go.Proofs.YtenonfkfoedfmaaGreatDoor.B


/- slices.Delete, slices.Insert and slices.Clone as shallow programs, for elements of any size. -/
namespace Go.Proofs.YtenonfkfoedfmaaGreatDoor.B
open Go
set_option linter.unusedVariables false
/-- what is known of slices.overlaps -/
structure OvT (P : Program) (f : FuncId) (t : TypeId) : Prop where
  ex : ∃ fn tr, P.funcs[f]? = some fn ∧ (fn.name == "runtime.NumGoroutine") = false ∧ fn.body.isNone = true ∧ Extern.findNext fn = none ∧ Extern.find fn = some (Extern.SlicesOverlaps.overlaps #[t, t] #[tr])
section
variable {e : World} {L : List SP} {w : World} {P : Program} {b o sz : Nat} {cs us vs post : List Value} {s d x : Sl} {R : List Value → World → Prop}
theorem Ok.slc_block (h : Ok e (slc sz s vs :: L) w) (h0 : 0 < s.cap) : ∃ b post, s.a = some ⟨b, 0, none⟩ ∧ s.cap * sz ≤ vs.length + post.length ∧ Ok e (pts b (vs ++ post) :: L) w := by
  rcases h.slcE.2.2.2 with ⟨_, hc, _⟩ | h
  · omega
  · exact h
set_option maxHeartbeats 2000000 in
theorem del_body {t : TypeId} {i j : Int} (T : SlT P t sz) (hsz : 0 < sz) (h : Ok e (slc sz s vs :: L) w) (hi : 0 ≤ i) (hij : i < j) (hj : j ≤ s.len) (hb : s.len ≤ 2 ^ 31)
    (k : ∀ s' w', s'.len = s.len - (j.toNat - i.toNat) → Ok e (slc sz s' (vs.take (i.toNat * sz) ++ vs.drop (j.toNat * sz)) :: L) w' → R [vS s'] w') :
    sb s i j (s.len : Int) sz fun s1 =>
    B.cs (i == j) (R [vS s] w) (
    dr w fun w2 =>
    sb s 0 i s.cap sz fun s3 =>
    sb s j s.len s.cap sz fun s4 =>
    ef P (Builtin.append_ #[t, t] t #[vS s3, vS s4]) [kS] w2 fun (r5 : Sl × Unit) w6 =>
    sb r5.1 (r5.1.len : Int) (s.len : Int) r5.1.cap sz fun s7 =>
    ef P (Builtin.clear_ #[t] 0 #[vS s7]) [] w6 fun (r8 : Unit) w9 =>
    R [vS r5.1] w9) := by
  obtain ⟨hl, hv, hc, -⟩ := h.slcE
  obtain ⟨b, post, ha, hp, hk⟩ := h.slc_block (by omega)
  refine ⟨hi, by omega, hj, by omega, ?_⟩
  refine cs.no (by simp; omega) ?_
  refine dr.mk hk fun w2 hk => ?_
  refine sb_at ha (by omega) hi (by omega) (Int.le_refl _) fun s3 o3 ha3 hl3 hc3 ho3 _ => ?_
  have ho3 : o3 = 0 := by simpa using ho3
  subst ho3
  refine sb_at ha (by omega) hj (by omega) (Int.le_refl _) fun s4 o4 ha4 hl4 hc4 ho4 ho4' => ?_
  have hin : i.toNat * sz ≤ vs.length := by rw [hl]; exact Nat.mul_le_mul_right _ (by omega)
  have hjn : j.toNat * sz ≤ vs.length := by rw [hl]; exact Nat.mul_le_mul_right _ (by omega)
  have h3 : Ok e (slc sz s3 (vs.take (i.toNat * sz)) :: L) w2 := by
    have hk' : Ok e (pts b (vs.take (i.toNat * sz) ++ (vs.drop (i.toNat * sz) ++ post)) :: L) w2 := by
      rw [← List.append_assoc, List.take_append_drop]; exact hk
    refine hk'.slcI ha3 (by simp [hl3, hin]) (fun v hm => hv v (List.mem_of_mem_take hm)) (by omega) ?_
    simp only [List.length_take, List.length_drop, List.length_append, hc3]
    simp only [Int.toNat_natCast, Int.toNat_zero, Nat.sub_zero]
    omega
  have hus : (vs.drop (j.toNat * sz)).length = s4.len * sz := by
    rw [List.length_drop, hl, hl4, ← Nat.sub_mul]; simp
  obtain ⟨s5, w6, hr, hl5, h5, hroom⟩ := append_run (P := P) (ty := t) (x := s4) (us := vs.drop (j.toNat * sz)) T hsz h3 hus (fun h => by rw [ha4] at h; cases h) (fun a ha j' u hu => by
      rw [ha4] at ha
      cases ha
      rw [Addr.add_lit]
      rw [List.getElem?_drop] at hu
      have hlt := (List.getElem?_eq_some_iff.1 hu).1
      have : j.toNat < s.len := by
        rcases Nat.lt_or_ge j.toNat s.len with h | h
        · exact h
        · have : s.len * sz ≤ j.toNat * sz := Nat.mul_le_mul_right _ h
          omega
      rw [ho4' (by omega)]
      exact hk.cell (by rw [List.getElem?_append_left hlt]; exact hu)) (fun v hm => hv v (List.mem_of_mem_drop hm)) (by omega)
  obtain ⟨ha5, hc5⟩ := hroom (by rw [ha3]; rfl) (by omega)
  rw [ha3] at ha5
  refine ⟨(s5, ()), w6, hr, ?_⟩
  dsimp only
  have hl5' : s5.len = s.len - (j.toNat - i.toNat) := by omega
  refine sb_at ha5 (by omega) (by omega) (by omega) (Int.le_refl _) fun s7 o7 ha7 hl7 hc7 ho7 ho7' => ?_
  have ho7 := ho7' (by omega)
  obtain ⟨hll5, hv5, hcc5, -⟩ := h5.slcE
  obtain ⟨b', post5, hb', hp5, hk5⟩ := h5.slc_block (by omega)
  rw [ha5] at hb'
  cases hb'
  have hfit : o7 + s7.len * sz ≤ (vs.take (i.toNat * sz) ++ vs.drop (j.toNat * sz) ++ post5).length := by
    rw [List.length_append]
    refine Nat.le_trans ?_ hp5
    rw [ho7, ← Nat.add_mul]
    exact Nat.mul_le_mul_right _ (by simp at hl7 ⊢; omega)
  refine ef.clear T hsz hk5 ha7 (.inr hfit) fun w9 zs hzs h9 => ?_
  refine k s5 w9 hl5' ?_
  have ho7l : o7 = (vs.take (i.toNat * sz) ++ vs.drop (j.toNat * sz)).length := by rw [ho7, hll5]; simp
  have e1 : (vs.take (i.toNat * sz) ++ vs.drop (j.toNat * sz) ++ post5).take o7 = vs.take (i.toNat * sz) ++ vs.drop (j.toNat * sz) := by
    rw [ho7l, List.take_left]
  rw [e1, List.append_assoc] at h9
  refine h9.slcI ha5 hll5 hv5 hcc5 ?_
  refine Nat.le_trans hp5 ?_
  have hf : o7 + zs.length ≤ (vs.take (i.toNat * sz) ++ vs.drop (j.toNat * sz) ++ post5).length := by rw [hzs]; exact hfit
  clear hk5 h9 h5 hr hroom hus h3 hk hp hp5 hin hjn
  revert ho7l hf
  generalize vs.take (i.toNat * sz) ++ vs.drop (j.toNat * sz) = A
  intro ho7l hf
  rw [List.length_append] at hf
  rw [List.length_append, List.length_drop, List.length_append]
  clear hzs hll5 hfit ho7 hl hl7 e1
  omega
theorem splice {α : Type} {A Z us post : List α} {o : Nat} (ho : o = A.length) (h : us.length ≤ Z.length) : (A ++ Z ++ post).take o ++ us ++ (A ++ Z ++ post).drop (o + us.length) = A ++ us ++ (Z.drop us.length ++ post) := by
  subst ho
  rw [List.append_assoc A Z post, List.take_left, ← List.drop_drop, List.drop_left, List.drop_append_of_le_length h]
theorem ef.copyAt {t ty : TypeId} {n : Nat} {A Z : List Value} {K : TK [kI] → World → Prop} (T : SlT P t sz) (h : Ok e (pts b (A ++ Z ++ post) :: L) w) (hd : d.a = some ⟨b, o, none⟩) (hn : n = Nat.min x.len d.len) (hul : us.length = n * sz)
    (hxa : x.a = none → us = []) (hu : ∀ a, x.a = some a → ∀ j u, us[j]? = some u → w.cell? (a.add j) = some u) (h1 : ∀ v ∈ us, v.oneCell' = true) (ho : o = A.length) (hfit : us.length ≤ Z.length)
    (k : ∀ w', Ok e (pts b (A ++ us ++ (Z.drop us.length ++ post)) :: L) w' → K ((n : Int), ()) w') : ef P (Builtin.copy_ #[t, t] ty #[vS d, vS x]) [kI] w K := by
  refine ef.copy T h hd hn hul hxa hu h1 ?_ fun w' h' => k w' ?_
  · rw [ho, List.length_append, List.length_append]; omega
  · rw [splice ho hfit] at h'; exact h'
theorem w64_i (n : Nat) (h : n ≤ 2 ^ 32) : w64 ((n : Nat) : Int) = (n : Int) := IntWalk.i64_in _ ⟨by omega, by omega⟩
set_option maxHeartbeats 2000000 in
theorem ins_body {t ti : TypeId} {ki : IntKind} {fo : FuncId} {i : Int} {Z : Sl → TK [kB] → World → Prop} (T : SlT P t sz) (hti : P.underlying ti = some (.int ki)) (O : OvT P fo t) (hsz : 0 < sz)
    (h : Ok e (slc sz x us :: slc sz s vs :: L) w) (hi : 0 ≤ i) (hin : i ≤ s.len) (hm : 0 < x.len) (hb : s.len + x.len ≤ 2 ^ 31)
    (k : ∀ s' w', s'.len = s.len + x.len → Ok e (slc sz s' (vs.take (i.toNat * sz) ++ us ++ vs.drop (i.toNat * sz)) :: L) w' → R [vS s'] w') :
    sb s i s.len s.cap sz fun s1 =>
    B.cs (((x.len : Int) : Int) == (0 : Int)) (R [vS s] w) (
    B.cs (i == ((s.len : Int) : Int)) (
    ef P (Builtin.append_ #[t, t] t #[vS s, vS x]) [kS] w fun (r2 : Sl × Unit) w3 =>
    R [vS r2.1] w3) (
    B.cs (decide ((w64 ((s.len : Int) + (x.len : Int)) : Int) > ((s.cap : Int) : Int))) (
    sb s 0 i s.cap sz fun s4 =>
    ef P (Builtin.append_ #[t, ti] t #[vS s4, .int .i64 (w64 ((w64 ((s.len : Int) + (x.len : Int))) - i))]) [kS] w fun (r5 : Sl × Unit) w6 =>
    sb r5.1 i r5.1.len r5.1.cap sz fun s7 =>
    ef P (Builtin.copy_ #[t, t] ti #[vS s7, vS x]) [kI] w6 fun (r8 : Int × Unit) w9 =>
    dr w9 fun w10 =>
    sb r5.1 (w64 (i + (x.len : Int))) r5.1.len r5.1.cap sz fun s11 =>
    sb s i s.len s.cap sz fun s12 =>
    ef P (Builtin.copy_ #[t, t] ti #[vS s11, vS s12]) [kI] w10 fun (r13 : Int × Unit) w14 =>
    R [vS r5.1] w14) (
    sb s 0 (w64 ((s.len : Int) + (x.len : Int))) s.cap sz fun s15 =>
    sb s15 (w64 (i + (x.len : Int))) s15.len s15.cap sz fun s16 =>
    xt P fo [vS x, vS s16] [kB] w fun (r17 : Bool × Unit) w18 =>
    B.cs (!r17.1) (
    dr w18 fun w19 =>
    sb s15 (w64 (i + (x.len : Int))) s15.len s15.cap sz fun s20 =>
    sb s15 i s15.len s15.cap sz fun s21 =>
    ef P (Builtin.copy_ #[t, t] ti #[vS s20, vS s21]) [kI] w19 fun (r22 : Int × Unit) w23 =>
    sb s15 i s15.len s15.cap sz fun s24 =>
    ef P (Builtin.copy_ #[t, t] ti #[vS s24, vS x]) [kI] w23 fun (r25 : Int × Unit) w26 =>
    R [vS s15] w26) (Z s15 r17 w18)))) := by
  obtain ⟨hlx, hvx, hcx, -⟩ := h.slcE
  obtain ⟨hl, hv, hc, -⟩ := h.p1.slcE
  obtain ⟨n, rfl⟩ : ∃ n : Nat, i = n := ⟨i.toNat, by omega⟩
  simp only [Int.toNat_natCast] at k ⊢
  have hn : n ≤ s.len := by omega
  have e1 : w64 ((s.len : Int) + (x.len : Int)) = ((s.len + x.len : Nat) : Int) := by rw [← Int.natCast_add]; exact w64_i _ (by omega)
  have e2 : w64 ((n : Int) + (x.len : Int)) = ((n + x.len : Nat) : Int) := by rw [← Int.natCast_add]; exact w64_i _ (by omega)
  rw [e1, e2]
  refine ⟨hi, hin, by omega, Int.le_refl _, ?_⟩
  refine cs.no (by simp; omega) ?_
  refine cs.mk (fun he => ?_) (fun hne => ?_)
  · have he : n = s.len := by have := eq_of_beq he; omega
    refine ef.append2 T hsz h.p1 (by omega) fun s' w' hl' hk => k s' w' hl' ?_
    rw [he, ← hl, List.take_length, List.drop_length, List.append_nil]
    exact hk.p1.drop
  have hlt : n < s.len := by
    have : n ≠ s.len := by intro h; simp [h] at hne
    omega
  obtain ⟨c, post2, hxa, hpx, hkx⟩ := h.slc_block (by omega)
  obtain ⟨b, post, ha, hp, hk⟩ := hkx.p1.slc_block (by omega)
  have hin : n * sz ≤ vs.length := by rw [hl]; exact Nat.mul_le_mul_right _ hn
  have htl : (vs.take (n * sz)).length = n * sz := by rw [List.length_take]; omega
  have hdl : (vs.drop (n * sz)).length = (s.len - n) * sz := by rw [List.length_drop, hl, ← Nat.sub_mul]
  have hd1 : ∀ v ∈ vs.drop (n * sz), v.oneCell' = true := fun v hm => hv v (List.mem_of_mem_drop hm)
  have hall : ∀ v ∈ vs.take (n * sz) ++ us ++ vs.drop (n * sz), v.oneCell' = true := by
    intro v hm
    rcases List.mem_append.1 hm with hm | hm
    · rcases List.mem_append.1 hm with hm | hm
      · exact hv v (List.mem_of_mem_take hm)
      · exact hvx v hm
    · exact hd1 v hm
  have hflen : (vs.take (n * sz) ++ us ++ vs.drop (n * sz)).length = (s.len + x.len) * sz := by
    rw [List.length_append, List.length_append, htl, hdl, hlx, ← Nat.add_mul, ← Nat.add_mul]
    congr 1
    omega
  have hread : ∀ {w0 : World} {L0 : List SP} {o0 : Nat}, Ok e (pts b (vs ++ post) :: L0) w0 → o0 = n * sz → ∀ a, (some ⟨b, o0, none⟩ : Option Addr) = some a → ∀ j u, (vs.drop (n * sz))[j]? = some u → w0.cell? (a.add j) = some u := by
    intro w0 L0 o0 hk0 ho a ha' j u hu
    cases ha'
    rw [Addr.add_lit, ho]
    rw [List.getElem?_drop] at hu
    have hlt := (List.getElem?_eq_some_iff.1 hu).1
    exact hk0.cell (by rw [List.getElem?_append_left hlt]; exact hu)
  refine cs.mk (fun hg => ?_) (fun hroom => ?_)
  · have hg : s.cap < s.len + x.len := by
      have := of_decide_eq_true hg
      omega
    refine sb_at ha (by omega) (by omega) (by omega) (Int.le_refl _) fun s4 o4 ha4 hl4 hc4 ho4 _ => ?_
    have ho4 : o4 = 0 := by simpa using ho4
    subst ho4
    have hcnt : w64 (((s.len + x.len : Nat) : Int) - (n : Int)) = ((s.len + x.len - n : Nat) : Int) := by
      rw [show ((s.len + x.len : Nat) : Int) - (n : Int) = ((s.len + x.len - n : Nat) : Int) by omega]
      exact w64_i _ (by omega)
    rw [hcnt]
    have hk' : Ok e (pts b (vs.take (n * sz) ++ (vs.drop (n * sz) ++ post)) :: pts c (us ++ post2) :: L) w := by
      rw [← List.append_assoc, List.take_append_drop]; exact hk
    simp only [Int.toNat_natCast, Int.toNat_zero, Nat.sub_zero] at hl4 hc4
    refine ef.appendMake T hti hsz hk' ha4 (by rw [htl, hl4]) (by omega) (by omega) (by omega) fun s5 c5 w6 zs ps ha5 hl5 hc5 hzs hcap5 h6 => ?_
    dsimp only
    rw [← List.append_assoc (vs.take (n * sz)), List.take_append_drop] at h6
    have hl5 : s5.len = s.len + x.len := by omega
    refine sb_at ha5 (by omega) (by omega) (by omega) (Int.le_refl _) fun s7 o7 ha7 hl7 hc7 _ ho7 => ?_
    have ho7 := ho7 (by omega)
    simp only [Int.toNat_natCast] at ho7 hl7
    have hzl : zs.length = x.len * sz + (s.len - n) * sz := by
      rw [hzs, ← Nat.add_mul]
      congr 1
      omega
    refine ef.copyAt (us := us) (n := x.len) T h6 ha7 (by rw [show Nat.min x.len s7.len = min x.len s7.len from rfl]; omega) hlx (fun h => by rw [hxa] at h; cases h) (fun a ha' j u hu => ?_) hvx (by rw [ho7, htl]) (by omega) fun w9 h9 => ?_
    · rw [hxa] at ha'
      cases ha'
      rw [Addr.add_lit]
      have hlt := (List.getElem?_eq_some_iff.1 hu).1
      exact h6.p2.cell (by rw [Nat.zero_add, List.getElem?_append_left hlt]; exact hu)
    rw [← List.append_assoc] at h9
    refine dr.mk h9 fun w10 h9 => ?_
    refine sb_at ha5 (by omega) (by omega) (by omega) (Int.le_refl _) fun s11 o11 ha11 hl11 hc11 _ ho11 => ?_
    have ho11 := ho11 (by omega)
    simp only [Int.toNat_natCast] at ho11 hl11
    refine sb_at ha (by omega) (by omega) (by omega) (Int.le_refl _) fun s12 o12 ha12 hl12 hc12 _ ho12 => ?_
    have ho12 := ho12 (by omega)
    simp only [Int.toNat_natCast] at ho12 hl12
    have hzd : (zs.drop us.length).length = (s.len - n) * sz := by rw [List.length_drop, hzl, hlx]; omega
    have hA : (vs.take (n * sz) ++ us).length = o11 := by rw [List.length_append, htl, hlx, ho11, Nat.add_mul]
    refine ef.copyAt (us := vs.drop (n * sz)) (n := s.len - n) T h9 ha11 (by rw [show Nat.min s12.len s11.len = min s12.len s11.len from rfl]; omega) hdl (fun h => by rw [ha12] at h; cases h) (by rw [ha12]; exact hread h9.p1 ho12) hd1 hA.symm (by rw [hzd, hdl]; exact Nat.le_refl _) fun w14 h14 => ?_
    refine k s5 w14 hl5 ?_
    have hps : s5.cap * sz ≤ (s.len + x.len) * sz + ps.length := by
      refine Nat.le_trans hcap5 ?_
      rw [List.length_append, List.length_append, htl, hzl, Nat.add_mul, Nat.sub_mul]
      have : n * sz ≤ s.len * sz := Nat.mul_le_mul_right _ hn
      omega
    refine Ok.slcI (h14.p1.drop.p1.drop) ha5 (by rw [hflen, hl5]) hall hc5 ?_
    refine Nat.le_trans hps ?_
    rw [hflen, List.length_append]
    omega
  · have hroom : s.len + x.len ≤ s.cap := by
      have := of_decide_eq_false hroom
      omega
    refine sb_at ha (by omega) (by omega) (by omega) (Int.le_refl _) fun s15 o15 ha15 hl15 hc15 ho15 _ => ?_
    have ho15 : o15 = 0 := by simpa using ho15
    subst ho15
    simp only [Int.toNat_natCast, Int.toNat_zero, Nat.sub_zero] at hl15 hc15
    refine sb_at ha15 (by omega) (by omega) (by omega) (Int.le_refl _) fun s16 o16 ha16 hl16 hc16 _ ho16 => ?_
    have hne : vs ++ post ≠ [] := by
      intro h0
      have h1 := (List.append_eq_nil_iff.1 h0).1
      rw [h1] at hl
      have : 0 < s.len * sz := Nat.mul_pos (by omega) hsz
      simp only [List.length_nil] at hl
      omega
    obtain ⟨fn, tr, hf1, hf2, hf3, hf4, hf5⟩ := O.ex
    refine xt.overlaps hf1 hf2 hf3 hf4 hf5 T hk.p1 hxa ha16 hne ?_
    refine cs.yes rfl ?_
    refine dr.mk hk fun w19 hk => ?_
    refine sb_at ha15 (by omega) (by omega) (by omega) (Int.le_refl _) fun s20 o20 ha20 hl20 hc20 _ ho20 => ?_
    refine sb_at ha15 (by omega) (by omega) (by omega) (Int.le_refl _) fun s21 o21 ha21 hl21 hc21 _ ho21 => ?_
    have ho20 := ho20 (by omega)
    have ho21 := ho21 (by omega)
    simp only [Int.toNat_natCast] at ho20 hl20 ho21 hl21
    have htot : (s.len + x.len) * sz ≤ vs.length + post.length := Nat.le_trans (Nat.mul_le_mul_right _ hroom) hp
    have hsp : ((vs ++ post).take o20).length = o20 := by
      rw [List.length_take, List.length_append]
      have : o20 ≤ (s.len + x.len) * sz := by rw [ho20]; exact Nat.mul_le_mul_right _ (by omega)
      omega
    have hk2 : Ok e (pts b ((vs ++ post).take o20 ++ (vs ++ post).drop o20 ++ []) :: pts c (us ++ post2) :: L) w19 := by
      rw [List.append_nil, List.take_append_drop]; exact hk
    refine ef.copyAt (us := vs.drop (n * sz)) (n := s.len - n) T hk2 ha20 (by rw [show Nat.min s21.len s20.len = min s21.len s20.len from rfl]; omega) hdl (fun h => by rw [ha21] at h; cases h) (by rw [ha21]; exact hread hk ho21) hd1 hsp.symm ?_ fun w23 h23 => ?_
    · rw [hdl, List.length_drop, List.length_append, ho20, Nat.sub_mul, Nat.add_mul]
      rw [Nat.add_mul] at htot
      omega
    refine sb_at ha15 (by omega) (by omega) (by omega) (Int.le_refl _) fun s24 o24 ha24 hl24 hc24 _ ho24 => ?_
    have ho24 := ho24 (by omega)
    simp only [Int.toNat_natCast] at ho24 hl24
    have htk : (vs ++ post).take o20 = vs.take (n * sz) ++ ((vs ++ post).take o20).drop (n * sz) := by
      have h1 : ((vs ++ post).take o20).take (n * sz) = vs.take (n * sz) := by
        rw [List.take_take, Nat.min_eq_left (by rw [ho20, Nat.add_mul]; omega), List.take_append_of_le_length hin]
      rw [← h1, List.take_append_drop]
    have hdl2 : (((vs ++ post).take o20).drop (n * sz)).length = us.length := by
      rw [List.length_drop, hsp, ho20, hlx, Nat.add_mul]; omega
    rw [htk, List.append_assoc (vs.take (n * sz) ++ _)] at h23
    refine ef.copyAt (us := us) (n := x.len) T h23 ha24 (by rw [show Nat.min x.len s24.len = min x.len s24.len from rfl]; omega) hlx (fun h => by rw [hxa] at h; cases h) (fun a ha' j u hu => ?_) hvx (by rw [ho24, htl]) (by omega) fun w26 h26 => ?_
    · rw [hxa] at ha'
      cases ha'
      rw [Addr.add_lit]
      have hlt := (List.getElem?_eq_some_iff.1 hu).1
      exact h23.p1.cell (by rw [Nat.zero_add, List.getElem?_append_left hlt]; exact hu)
    refine k s15 w26 hl15 ?_
    rw [List.drop_eq_nil_of_le (Nat.le_of_eq hdl2), List.nil_append, ← List.append_assoc] at h26
    refine Ok.slcI (h26.p1.drop) ha15 (by rw [hflen, hl15]) hall (by omega) ?_
    rw [hflen, hc15]
    refine Nat.le_trans hp ?_
    simp only [List.length_append, List.length_drop, List.append_nil, hdl]
    have h5 : (s.len + x.len) * sz = s.len * sz + x.len * sz := Nat.add_mul ..
    have h6 : (s.len - n) * sz = s.len * sz - n * sz := Nat.sub_mul ..
    have h7 : o20 = n * sz + x.len * sz := by rw [ho20, Nat.add_mul]
    omega
end
end Go.Proofs.YtenonfkfoedfmaaGreatDoor.B


/- Parts of owned slices as what is appended. -/
namespace Go.Proofs.YtenonfkfoedfmaaGreatDoor.B
open Go
set_option linter.unusedVariables false
section
variable {e : World} {L : List SP} {w : World} {P : Program} {b o sz : Nat} {cs us vs ds post : List Value} {s d x : Sl}
theorem Ok.dropAll {L : List SP} : ∀ {M : List SP}, Ok e (M ++ L) w → Ok e L w
  | [], h => h
  | _ :: M, h => Ok.dropAll (M := M) (Ok.drop h)
theorem Ok.only {A : SP} {L : List SP} (h : Ok e (A :: L) w) : Ok e [A] w := (h.perm (List.perm_append_comm (l₁ := [A]) (l₂ := L))).dropAll
/-- a part of a slice -/
structure SubOf (s : Sl) (sz i j : Nat) (x : Sl) : Prop where
  len : x.len = j - i
  at' : i < j → ∃ b, s.a = some ⟨b, 0, none⟩ ∧ x.a = some ⟨b, i * sz, none⟩
theorem sb_sub {lo hi : Int} {f : Sl → Prop} (h : Ok e (slc sz s vs :: L) w) (h0 : 0 ≤ lo) (h1 : lo ≤ hi) (h2 : hi ≤ s.len) (k : ∀ x, SubOf s sz lo.toNat hi.toNat x → f x) : sb s lo hi s.cap sz f := by
  obtain ⟨-, -, hc, hcase⟩ := h.slcE
  rcases hcase with ⟨ha, hcap, -⟩ | ⟨b, post, ha, -, -⟩
  · refine ⟨h0, h1, by omega, Int.le_refl _, k _ ⟨by simp [Sl.sub], fun h => by omega⟩⟩
  · refine sb_at ha h0 h1 (by omega) (Int.le_refl _) fun s' o hs' hl hcp _ ho => k s' ⟨hl, fun hlt => ⟨b, ha, ?_⟩⟩
    rw [hs', ho (by omega)]
theorem ef.appendSub {t : TypeId} {i j : Nat} {K : TK [kS] → World → Prop} (T : SlT P t sz) (hsz : 0 < sz) (h : Ok e (slc sz d ds :: slc sz s vs :: L) w) (hx : SubOf s sz i j x) (hj : j ≤ s.len) (hb : d.len + s.len ≤ 2 ^ 31)
    (k : ∀ s' w', s'.len = d.len + (j - i) → Ok e (slc sz s' (ds ++ (vs.take (j * sz)).drop (i * sz)) :: slc sz s vs :: L) w' → K (s', ()) w') : ef P (Builtin.append_ #[t, t] t #[vS d, vS x]) [kS] w K := by
  have hl := h.p1.slc_len
  have hjs : j * sz ≤ vs.length := by rw [hl]; exact Nat.mul_le_mul_right _ hj
  have hul : ((vs.take (j * sz)).drop (i * sz)).length = x.len * sz := by
    rw [List.length_drop, List.length_take, hx.len, Nat.sub_mul]
    omega
  have hnil : ¬ i < j → (vs.take (j * sz)).drop (i * sz) = [] := fun h => List.eq_nil_of_length_eq_zero (by rw [hul, hx.len, show j - i = 0 by omega]; simp)
  refine ef.append T hsz h hul (fun ha => ?_) (fun a ha q u hu => ?_) (fun v hm => h.p1.slcE.2.1 v (List.mem_of_mem_take (List.mem_of_mem_drop hm))) (by rw [hx.len]; omega) fun s' w' hl' hk => k s' w' (by rw [hl', hx.len]) hk
  · refine hnil fun hlt => ?_
    obtain ⟨b, _, h2⟩ := hx.at' hlt
    rw [h2] at ha
    cases ha
  · by_cases hlt : i < j
    · obtain ⟨b, h1, h2⟩ := hx.at' hlt
      rw [h2] at ha
      cases ha
      rw [List.getElem?_drop] at hu
      have hq : i * sz + q < j * sz := by
        have := (List.getElem?_eq_some_iff.1 hu).1
        rw [List.length_take] at this
        omega
      rw [List.getElem?_take_of_lt hq] at hu
      have := h.p1.slc_cells h1 _ _ hu
      rw [Addr.add_lit] at this ⊢
      rw [Nat.zero_add] at this
      exact this
    · rw [hnil hlt] at hu
      simp at hu
end
/-! ### a list of parts out of another one: some are left out, the others stand in another order -/
inductive Sel (A : SP) : List SP → List SP → Prop
  | here (L : List SP) : Sel A (A :: L) L
  | there {B : SP} {L L' : List SP} (h : Sel A L L') : Sel A (B :: L) (B :: L')
theorem Sel.perm {A : SP} {L L' : List SP} (h : Sel A L L') : L.Perm (A :: L') := by
  induction h with
  | here L => exact List.Perm.refl _
  | there h ih => exact (ih.cons _).trans (List.Perm.swap ..)
inductive Emb : List SP → List SP → Prop
  | same (L : List SP) : Emb L L
  | nil (L : List SP) : Emb L []
  | cons {A : SP} {L L' M : List SP} (hs : Sel A L L') (h : Emb L' M) : Emb L (A :: M)
  | skip {A : SP} {L M : List SP} (h : Emb L M) : Emb (A :: L) M
theorem Emb.ok {L M : List SP} (m : Emb L M) : ∀ {h : Hp}, oksH L h → oksH M h := by
  induction m with
  | same L => intro h H; exact H
  | nil L => intro h _; trivial
  | cons hs _ ih =>
    intro h H
    obtain ⟨h1, h2, hd, e, hA, hL⟩ := oksH_perm hs.perm H
    exact ⟨h1, h2, hd, e, hA, ih hL⟩
  | skip _ ih =>
    intro h H
    obtain ⟨h1, h2, hd, rfl, hA, hL⟩ := H
    exact ih (oksH_le hL fun b o hb => by
      simp only [Hp.un]
      rcases hd b with e | e
      · simp [e, hb]
      · rw [hb] at e; cases e)
theorem Ok.emb {e : World} {L M : List SP} {w : World} (h : Ok e L w) (m : Emb L M) : Ok e M w := ⟨h.os, h.tape, h.output, m.ok h.heap⟩
theorem Ok.bring {e : World} {A : SP} {L L' : List SP} {w : World} (h : Ok e L w) (s : Sel A L L') : Ok e (A :: L') w := h.perm s.perm
theorem Ok.cellS {e : World} {L L' : List SP} {w : World} {b i : Nat} {cs : List Value} {v : Value} (h : Ok e L w) (s : Sel (pts b cs) L L') (hv : cs[i]? = some v) : w.cell? ⟨b, i, none⟩ = some v := (h.bring s).cell hv
theorem sl0 {A : SP} {L : List SP} : Sel A (A :: L) (L) := .here _
theorem sl1 {A B0 : SP} {L : List SP} : Sel A (B0 :: A :: L) (B0 :: L) := .there (.here _)
theorem sl2 {A B0 B1 : SP} {L : List SP} : Sel A (B0 :: B1 :: A :: L) (B0 :: B1 :: L) := .there (.there (.here _))
theorem sl3 {A B0 B1 B2 : SP} {L : List SP} : Sel A (B0 :: B1 :: B2 :: A :: L) (B0 :: B1 :: B2 :: L) := .there (.there (.there (.here _)))
theorem sl4 {A B0 B1 B2 B3 : SP} {L : List SP} : Sel A (B0 :: B1 :: B2 :: B3 :: A :: L) (B0 :: B1 :: B2 :: B3 :: L) := .there (.there (.there (.there (.here _))))
theorem sl5 {A B0 B1 B2 B3 B4 : SP} {L : List SP} : Sel A (B0 :: B1 :: B2 :: B3 :: B4 :: A :: L) (B0 :: B1 :: B2 :: B3 :: B4 :: L) := .there (.there (.there (.there (.there (.here _)))))
theorem sl6 {A B0 B1 B2 B3 B4 B5 : SP} {L : List SP} : Sel A (B0 :: B1 :: B2 :: B3 :: B4 :: B5 :: A :: L) (B0 :: B1 :: B2 :: B3 :: B4 :: B5 :: L) := .there (.there (.there (.there (.there (.there (.here _))))))
theorem sl7 {A B0 B1 B2 B3 B4 B5 B6 : SP} {L : List SP} : Sel A (B0 :: B1 :: B2 :: B3 :: B4 :: B5 :: B6 :: A :: L) (B0 :: B1 :: B2 :: B3 :: B4 :: B5 :: B6 :: L) := .there (.there (.there (.there (.there (.there (.there (.here _)))))))
theorem sl8 {A B0 B1 B2 B3 B4 B5 B6 B7 : SP} {L : List SP} : Sel A (B0 :: B1 :: B2 :: B3 :: B4 :: B5 :: B6 :: B7 :: A :: L) (B0 :: B1 :: B2 :: B3 :: B4 :: B5 :: B6 :: B7 :: L) := .there (.there (.there (.there (.there (.there (.there (.there (.here _))))))))
theorem sl9 {A B0 B1 B2 B3 B4 B5 B6 B7 B8 : SP} {L : List SP} : Sel A (B0 :: B1 :: B2 :: B3 :: B4 :: B5 :: B6 :: B7 :: B8 :: A :: L) (B0 :: B1 :: B2 :: B3 :: B4 :: B5 :: B6 :: B7 :: B8 :: L) := .there (.there (.there (.there (.there (.there (.there (.there (.there (.here _)))))))))
theorem sl10 {A B0 B1 B2 B3 B4 B5 B6 B7 B8 B9 : SP} {L : List SP} : Sel A (B0 :: B1 :: B2 :: B3 :: B4 :: B5 :: B6 :: B7 :: B8 :: B9 :: A :: L) (B0 :: B1 :: B2 :: B3 :: B4 :: B5 :: B6 :: B7 :: B8 :: B9 :: L) := .there (.there (.there (.there (.there (.there (.there (.there (.there (.there (.here _))))))))))
theorem sl11 {A B0 B1 B2 B3 B4 B5 B6 B7 B8 B9 B10 : SP} {L : List SP} : Sel A (B0 :: B1 :: B2 :: B3 :: B4 :: B5 :: B6 :: B7 :: B8 :: B9 :: B10 :: A :: L) (B0 :: B1 :: B2 :: B3 :: B4 :: B5 :: B6 :: B7 :: B8 :: B9 :: B10 :: L) := .there (.there (.there (.there (.there (.there (.there (.there (.there (.there (.there (.here _)))))))))))
theorem sl12 {A B0 B1 B2 B3 B4 B5 B6 B7 B8 B9 B10 B11 : SP} {L : List SP} : Sel A (B0 :: B1 :: B2 :: B3 :: B4 :: B5 :: B6 :: B7 :: B8 :: B9 :: B10 :: B11 :: A :: L) (B0 :: B1 :: B2 :: B3 :: B4 :: B5 :: B6 :: B7 :: B8 :: B9 :: B10 :: B11 :: L) := .there (.there (.there (.there (.there (.there (.there (.there (.there (.there (.there (.there (.here _))))))))))))
theorem sl13 {A B0 B1 B2 B3 B4 B5 B6 B7 B8 B9 B10 B11 B12 : SP} {L : List SP} : Sel A (B0 :: B1 :: B2 :: B3 :: B4 :: B5 :: B6 :: B7 :: B8 :: B9 :: B10 :: B11 :: B12 :: A :: L) (B0 :: B1 :: B2 :: B3 :: B4 :: B5 :: B6 :: B7 :: B8 :: B9 :: B10 :: B11 :: B12 :: L) := .there (.there (.there (.there (.there (.there (.there (.there (.there (.there (.there (.there (.there (.here _)))))))))))))
end Go.Proofs.YtenonfkfoedfmaaGreatDoor.B


/- Contracts of the package ctx. -/
namespace Go.Proofs.YtenonfkfoedfmaaGreatDoor.B
open Go
set_option linter.unusedVariables false

/-- where the kernel is -/
structure PlaceM where
  lv : List Int
  locked : Bool
  disabled : Bool
  deriving DecidableEq

namespace PlaceM

def inn (m : PlaceM) : Bool := decide ((m.lv.length : Int) > 0)

def dispatch (m : PlaceM) : Bool := !m.inn && !m.locked && !m.disabled

/-- the top level -/
def top (m : PlaceM) : Int := m.lv.getLast?.getD 0

def enter (m : PlaceM) (l : Int) : Int × PlaceM :=
  if l < 1 ∨ l > 15 then (-17, m)
  else if m.locked ∨ (m.inn ∧ l ≤ m.top) then (-25, m)
  else (0, { m with lv := m.lv ++ [l] })

def exit (m : PlaceM) : Int × PlaceM :=
  if m.inn then (0, { m with lv := m.lv.take (m.lv.length - 1) }) else (-25, m)

def ok3 (m : PlaceM) (k : Int) : Bool := if k = 3 then m.inn && !m.locked else false

def ok2 (m : PlaceM) (k : Int) (idle : Bool) : Bool := if k = 2 then ((!m.inn && !idle) && !m.locked) && !m.disabled else m.ok3 k

def ok1 (m : PlaceM) (k : Int) (idle : Bool) : Bool := if k = 1 then (!m.inn && !idle) && !m.locked else m.ok2 k idle

def ok4 (m : PlaceM) (k : Int) (idle : Bool) : Bool := if k = 4 then !m.inn && !idle else m.ok1 k idle

def ok (m : PlaceM) (k : Int) (idle : Bool) : Bool := if k = 0 then true else m.ok4 k idle

def may (m : PlaceM) (k : Int) (idle : Bool) : Int := if m.ok k idle then 0 else -25

end PlaceM

def placeP (p : Nat) (m : PlaceM) : SP := fun h => ∃ s, oksH [pts p [vS s, .bool m.locked, .bool m.disabled], slc 1 s (ints m.lv)] h

theorem placeE {e w L p m} (h : Ok e (placeP p m :: L) w) : ∃ s, s.len = m.lv.length ∧ Ok e (pts p [vS s, .bool m.locked, .bool m.disabled] :: slc 1 s (ints m.lv) :: L) w := by
  obtain ⟨s, h⟩ := h.exE
  have h := h.unpack
  refine ⟨s, ?_, h⟩
  have := h.p1.slc_len
  rw [ints_len] at this
  omega

theorem placeI {e w L p m s} (h : Ok e (pts p [vS s, .bool m.locked, .bool m.disabled] :: slc 1 s (ints m.lv) :: L) w) : Ok e (placeP p m :: L) w :=
  (Ok.pack (M := [pts p [vS s, .bool m.locked, .bool m.disabled], slc 1 s (ints m.lv)]) h).imp fun k hk => ⟨s, hk⟩

theorem New_ctx {e w L R} (h : Ok e L w) (k : ∀ p w', Ok e (placeP p ⟨[], false, false⟩ :: L) w' → R [.pointer (some ⟨p, 0, none⟩)] w') : sh99 R w := by
  unfold sh99
  refine al.mk h fun p w1 h => k p w1 ?_
  exact placeI (s := ⟨none, 0, 0⟩) (m := ⟨[], false, false⟩) (h.slcNil 1).p1

theorem In_ctx {e w L p m R} (h : Ok e (placeP p m :: L) w) (k : R [.bool m.inn] w) : sh128 (some ⟨p, 0, none⟩) R w := by
  obtain ⟨s, hs, h⟩ := placeE h
  unfold sh128
  (repeat (first | with_reducible refine nn.mk ?_ | ((first | with_reducible apply ldI.mk | with_reducible apply ldB.mk | with_reducible apply ldP.mk | with_reducible apply ldS.mk | with_reducible apply ldM.mk | with_reducible apply ldF.mk | with_reducible apply ldG.mk); (· exact (by refine Ok.cellS h (by with_reducible first | exact sl0 | exact .there sl0 | exact .there sl1 | exact .there sl2 | exact .there sl3 | exact .there sl4 | exact .there sl5 | exact .there sl6 | exact .there sl7 | exact .there sl8 | exact .there sl9 | exact .there sl10 | exact .there sl11 | exact .there sl12) ?_; rfl)))))
  rw [hs]; exact k

theorem Disabled_ctx {e w L p m R} (h : Ok e (placeP p m :: L) w) (k : R [.bool m.disabled] w) : sh166 (some ⟨p, 0, none⟩) R w := by
  obtain ⟨s, hs, h⟩ := placeE h
  unfold sh166
  (repeat (first | with_reducible refine nn.mk ?_ | ((first | with_reducible apply ldI.mk | with_reducible apply ldB.mk | with_reducible apply ldP.mk | with_reducible apply ldS.mk | with_reducible apply ldM.mk | with_reducible apply ldF.mk | with_reducible apply ldG.mk); (· exact (by refine Ok.cellS h (by with_reducible first | exact sl0 | exact .there sl0 | exact .there sl1 | exact .there sl2 | exact .there sl3 | exact .there sl4 | exact .there sl5 | exact .there sl6 | exact .there sl7 | exact .there sl8 | exact .there sl9 | exact .there sl10 | exact .there sl11 | exact .there sl12) ?_; rfl)))))
  exact k

theorem Dispatch_ctx {e w L p m R} (h : Ok e (placeP p m :: L) w) (k : R [.bool m.dispatch] w) : sh120 (some ⟨p, 0, none⟩) R w := by
  unfold sh120
  refine call128 (In_ctx h ⟨(m.inn, ()), rfl, ?_⟩)
  dsimp only
  obtain ⟨s, hs, h⟩ := placeE h
  refine jn.bool (!m.inn && !m.locked) (fun J hJ => cs.mk (fun h1 => ?_) (fun h1 => ?_)) ?_
  · (repeat (first | with_reducible refine nn.mk ?_ | ((first | with_reducible apply ldI.mk | with_reducible apply ldB.mk | with_reducible apply ldP.mk | with_reducible apply ldS.mk | with_reducible apply ldM.mk | with_reducible apply ldF.mk | with_reducible apply ldG.mk); (· exact (by refine Ok.cellS h (by with_reducible first | exact sl0 | exact .there sl0 | exact .there sl1 | exact .there sl2 | exact .there sl3 | exact .there sl4 | exact .there sl5 | exact .there sl6 | exact .there sl7 | exact .there sl8 | exact .there sl9 | exact .there sl10 | exact .there sl11 | exact .there sl12) ?_; rfl)))))
    simpa [show m.inn = false by simpa using h1] using hJ
  · simpa [show m.inn = true by simpa using h1] using hJ
  dsimp only
  refine jn.bool m.dispatch (fun J hJ => cs.mk (fun h1 => ?_) (fun h1 => ?_)) k
  · (repeat (first | with_reducible refine nn.mk ?_ | ((first | with_reducible apply ldI.mk | with_reducible apply ldB.mk | with_reducible apply ldP.mk | with_reducible apply ldS.mk | with_reducible apply ldM.mk | with_reducible apply ldF.mk | with_reducible apply ldG.mk); (· exact (by refine Ok.cellS h (by with_reducible first | exact sl0 | exact .there sl0 | exact .there sl1 | exact .there sl2 | exact .there sl3 | exact .there sl4 | exact .there sl5 | exact .there sl6 | exact .there sl7 | exact .there sl8 | exact .there sl9 | exact .there sl10 | exact .there sl11 | exact .there sl12) ?_; rfl)))))
    simpa [PlaceM.dispatch, h1] using hJ
  · simpa [PlaceM.dispatch, h1] using hJ

theorem may_ctx {e w L p m kd idle R} (h : Ok e (placeP p m :: L) w) (k : R [.bool (m.ok kd idle)] w) : sh129 (some ⟨p, 0, none⟩) kd idle R w := by
  unfold sh129
  refine call128 (In_ctx h ⟨(m.inn, ()), rfl, ?_⟩)
  dsimp only
  have h0 := h
  obtain ⟨s, hs, h⟩ := placeE h
  refine jn.bool (!m.inn && !idle) (fun J hJ => cs.mk (fun h1 => ?_) (fun h1 => ?_)) ?_
  · simpa [show m.inn = false by simpa using h1] using hJ
  · simpa [show m.inn = true by simpa using h1] using hJ
  dsimp only
  simp only [PlaceM.ok, PlaceM.ok4, PlaceM.ok1, PlaceM.ok2, PlaceM.ok3] at k
  refine cs.mk (fun h0 => ?_) (fun n0 => ?_)
  · rw [if_pos (by simpa using h0)] at k; exact k
  rw [if_neg (by simpa using n0)] at k
  refine cs.mk (fun h0 => ?_) (fun n1 => ?_)
  · rw [if_pos (by simpa using h0)] at k; exact k
  rw [if_neg (by simpa using n1)] at k
  refine cs.mk (fun h0 => ?_) (fun n2 => ?_)
  · rw [if_pos (by simpa using h0)] at k
    refine jn.bool ((!m.inn && !idle) && !m.locked) (fun J hJ => cs.mk (fun h1 => ?_) (fun h1 => ?_)) k
    · (repeat (first | with_reducible refine nn.mk ?_ | ((first | with_reducible apply ldI.mk | with_reducible apply ldB.mk | with_reducible apply ldP.mk | with_reducible apply ldS.mk | with_reducible apply ldM.mk | with_reducible apply ldF.mk | with_reducible apply ldG.mk); (· exact (by refine Ok.cellS h (by with_reducible first | exact sl0 | exact .there sl0 | exact .there sl1 | exact .there sl2 | exact .there sl3 | exact .there sl4 | exact .there sl5 | exact .there sl6 | exact .there sl7 | exact .there sl8 | exact .there sl9 | exact .there sl10 | exact .there sl11 | exact .there sl12) ?_; rfl)))))
      simpa [h1] using hJ
    · simpa [h1] using hJ
  rw [if_neg (by simpa using n2)] at k
  refine cs.mk (fun h0 => ?_) (fun n3 => ?_)
  · rw [if_pos (by simpa using h0)] at k
    refine jn.bool ((!m.inn && !idle) && !m.locked) (fun J hJ => cs.mk (fun h1 => ?_) (fun h1 => ?_)) ?_
    · (repeat (first | with_reducible refine nn.mk ?_ | ((first | with_reducible apply ldI.mk | with_reducible apply ldB.mk | with_reducible apply ldP.mk | with_reducible apply ldS.mk | with_reducible apply ldM.mk | with_reducible apply ldF.mk | with_reducible apply ldG.mk); (· exact (by refine Ok.cellS h (by with_reducible first | exact sl0 | exact .there sl0 | exact .there sl1 | exact .there sl2 | exact .there sl3 | exact .there sl4 | exact .there sl5 | exact .there sl6 | exact .there sl7 | exact .there sl8 | exact .there sl9 | exact .there sl10 | exact .there sl11 | exact .there sl12) ?_; rfl)))))
      simpa [h1] using hJ
    · simpa [h1] using hJ
    dsimp only
    refine jn.bool (((!m.inn && !idle) && !m.locked) && !m.disabled) (fun J hJ => cs.mk (fun h1 => ?_) (fun h1 => ?_)) k
    · (repeat (first | with_reducible refine nn.mk ?_ | ((first | with_reducible apply ldI.mk | with_reducible apply ldB.mk | with_reducible apply ldP.mk | with_reducible apply ldS.mk | with_reducible apply ldM.mk | with_reducible apply ldF.mk | with_reducible apply ldG.mk); (· exact (by refine Ok.cellS h (by with_reducible first | exact sl0 | exact .there sl0 | exact .there sl1 | exact .there sl2 | exact .there sl3 | exact .there sl4 | exact .there sl5 | exact .there sl6 | exact .there sl7 | exact .there sl8 | exact .there sl9 | exact .there sl10 | exact .there sl11 | exact .there sl12) ?_; rfl)))))
      simpa [h1] using hJ
    · simpa [h1] using hJ
  rw [if_neg (by simpa using n3)] at k
  refine cs.mk (fun h1 => ?_) (fun n4 => ?_)
  · rw [if_pos (by simpa using h1)] at k
    refine call128 (In_ctx h0 ⟨(m.inn, ()), rfl, ?_⟩)
    dsimp only
    refine jn.bool (m.inn && !m.locked) (fun J hJ => cs.mk (fun h1 => ?_) (fun h1 => ?_)) k
    · (repeat (first | with_reducible refine nn.mk ?_ | ((first | with_reducible apply ldI.mk | with_reducible apply ldB.mk | with_reducible apply ldP.mk | with_reducible apply ldS.mk | with_reducible apply ldM.mk | with_reducible apply ldF.mk | with_reducible apply ldG.mk); (· exact (by refine Ok.cellS h (by with_reducible first | exact sl0 | exact .there sl0 | exact .there sl1 | exact .there sl2 | exact .there sl3 | exact .there sl4 | exact .there sl5 | exact .there sl6 | exact .there sl7 | exact .there sl8 | exact .there sl9 | exact .there sl10 | exact .there sl11 | exact .there sl12) ?_; rfl)))))
      simpa [h1] using hJ
    · simpa [h1] using hJ
  · rw [if_neg (by simpa using n4)] at k; exact k

theorem May_ctx {e w L p m kd idle R} (h : Ok e (placeP p m :: L) w) (k : R [.int .i64 (m.may kd idle)] w) : sh78 (some ⟨p, 0, none⟩) kd idle R w := by
  unfold sh78
  (repeat (first | with_reducible refine nn.mk ?_ | ((first | with_reducible apply ldI.mk | with_reducible apply ldB.mk | with_reducible apply ldP.mk | with_reducible apply ldS.mk | with_reducible apply ldM.mk | with_reducible apply ldF.mk | with_reducible apply ldG.mk); (· exact (by refine Ok.cellS h (by with_reducible first | exact sl0 | exact .there sl0 | exact .there sl1 | exact .there sl2 | exact .there sl3 | exact .there sl4 | exact .there sl5 | exact .there sl6 | exact .there sl7 | exact .there sl8 | exact .there sl9 | exact .there sl10 | exact .there sl11 | exact .there sl12) ?_; rfl)))))
  refine call129 (may_ctx h ⟨(m.ok kd idle, ()), rfl, ?_⟩)
  dsimp only
  unfold PlaceM.may at k
  refine cs.mk (fun h1 => ?_) (fun h1 => ?_)
  · have h1 : m.ok kd idle = false := by simpa using h1
    rw [h1] at k; exact k
  · have h1 : m.ok kd idle = true := by simpa using h1
    rw [h1] at k; exact k

end Go.Proofs.YtenonfkfoedfmaaGreatDoor.B


/- Maps from whole numbers that are owned. -/
namespace Go.Proofs.YtenonfkfoedfmaaGreatDoor.B
open Go
open Go.MapKept (Stamped IsKey heap_set stamped_push stamped_modify stamped_erase stamped_empty isKey_modify findNow_spec)
set_option linter.unusedVariables false
def mapIs (es : Array MapEntry) (clock : Nat) (f : Int → Option Value) : Prop :=
  Stamped es clock ∧ (∀ x ∈ es.toList, IsKey (.int .i64) x.key) ∧ ∀ k v, f k = some v ↔ ∃ x ∈ es.toList, x.key = .int .i64 k ∧ x.val = v
/-- a map from whole numbers -/
def mpP (b : Nat) (f : Int → Option Value) : SP := fun h => ∃ es clock, h b = some (.map es clock) ∧ mapIs es clock f
def upd (f : Int → Option Value) (k : Int) (o : Option Value) : Int → Option Value := fun j => if j = k then o else f j
theorem upd_same (f : Int → Option Value) (k : Int) (o : Option Value) : upd f k o k = o := if_pos rfl
theorem upd_other {f : Int → Option Value} {k j : Int} {o : Option Value} (h : j ≠ k) : upd f k o j = f j := if_neg h
/-- what is known of a map's type -/
structure MapT (P : Program) (t : TypeId) (z : Value) : Prop where
  ex : ∃ kt el i, P.underlying t = some (.map kt el) ∧ P.underlying kt = some (.int .i64) ∧ P.info? el = some i ∧ i.zero = some z
def mapTok (P : Program) (t : TypeId) : Option Value :=
  match P.underlying t with
  | some (.map kt el) => match P.underlying kt with
    | some (.int .i64) => match P.info? el with
      | some i => i.zero
      | none => none
    | _ => none
  | _ => none
theorem MapT.of {P : Program} {t : TypeId} {z : Value} (h : mapTok P t = some z) : MapT P t z := by
  unfold mapTok at h
  split at h
  · rename_i kt el hu
    split at h
    · rename_i hk
      split at h
      · rename_i i hi
        exact ⟨kt, el, i, hu, hk, hi, h⟩
      · cases h
    · cases h
  · cases h
section
variable {P : Program} {e : World} {L : List SP} {w : World} {t : TypeId} {z : Value} {b : Nat} {f : Int → Option Value} {k : Int} {v : Value}
theorem Ok.mapE (h : Ok e (mpP b f :: L) w) : ∃ es clock, w.heap[b]? = some (.map es clock) ∧ mapIs es clock f := by
  obtain ⟨h1, h2, hd, he, ⟨es, clock, hb, hm⟩, hL⟩ := h.heap
  refine ⟨es, clock, ?_, hm⟩
  have := congrFun he b
  simp only [hpOf, Hp.un, hb] at this
  exact this
theorem Ok.mapSet {es : Array MapEntry} {clock : Nat} {g : Int → Option Value} (h : Ok e (mpP b f :: L) w) (hm : mapIs es clock g) : Ok e (mpP b g :: L) { w with heap := w.heap.setIfInBounds b (.map es clock) } := by
  obtain ⟨es0, clock0, hb, -⟩ := h.mapE
  have hs := heap_set (o' := .map es clock) hb
  refine ⟨h.os, h.tape, h.output, ?_⟩
  obtain ⟨h1, h2, hd, he, ⟨es1, clock1, hp, _⟩, hL⟩ := h.heap
  have h2b : h2 b = none := by
    rcases hd b with e | e
    · rw [hp] at e; cases e
    · exact e
  refine ⟨fun j => if j = b then some (.map es clock) else h1 j, h2, fun j => ?_, ?_, ⟨es, clock, by simp, hm⟩, hL⟩
  · by_cases hk : j = b
    · subst hk; exact .inr h2b
    · simpa [hk] using hd j
  · funext j
    have := congrFun he j
    simp only [hpOf, Hp.un] at this ⊢
    by_cases hk : j = b
    · subst hk; simp [hs.1]
    · simp only [hk, if_false]; rw [hs.2 j hk, this]
theorem mapIs_find {es : Array MapEntry} {clock : Nat} (h : mapIs es clock f) (k : Int) :
    (Instr.findNow (.int .i64) (.int .i64 k) es.toList 0 = some none ∧ f k = none ∧ ∀ x ∈ es.toList, x.key ≠ .int .i64 k) ∨ ∃ j x, Instr.findNow (.int .i64) (.int .i64 k) es.toList 0 = some (some (j, x.val)) ∧ es.toList[j]? = some x ∧ x.key = .int .i64 k ∧ f k = some x.val := by
  rcases findNow_spec (d := .int .i64) (k := .int .i64 k) rfl es.toList 0 h.2.1 with ⟨h1, h2⟩ | ⟨j, x, h1, h2, h3⟩
  · refine .inl ⟨h1, ?_, h2⟩
    cases hf : f k with
    | none => rfl
    | some v =>
      obtain ⟨x, hx, hk, _⟩ := (h.2.2 k v).1 hf
      exact absurd hk (h2 x hx)
  · exact .inr ⟨j, x, by simpa using h1, h2, h3, (h.2.2 k x.val).2 ⟨x, List.mem_of_getElem? h2, h3, rfl⟩⟩
theorem lookup_run (T : MapT P t z) (h : Ok e (mpP b f :: L) w) (c : Bool) : (Instr.lookup t (.map (some b)) (.int .i64 k) c).run P w = .ok (if c then .tuple #[(f k).getD z, .bool (f k).isSome] else (f k).getD z) w := by
  obtain ⟨kt, el, i, ht, hk, hi, hz⟩ := T.ex
  obtain ⟨es, clock, hb, hm⟩ := h.mapE
  have hc := MapKept.run_checkKey (P := P) (w := w) (k := .int .i64 k) hk rfl es.isEmpty 9999
  rcases mapIs_find hm k with ⟨h1, h2, _⟩ | ⟨j, x, h1, _, _, h2⟩
  · have hf := MapKept.run_findKey (P := P) (w := w) hk h1
    simp [Instr.lookup, run_underlying ht, MapKept.run_getObj_map hb, hc, hf, zeroValue, typeInfo, hi, hz, h2]
  · have hf := MapKept.run_findKey (P := P) (w := w) hk h1
    simp [Instr.lookup, run_underlying ht, MapKept.run_getObj_map hb, hc, hf, h2]
theorem ef.lookup {ks : List Kd} {K : TK ks → World → Prop} (T : MapT P t z) (h : Ok e (mpP b f :: L) w) (x : TK ks) (hx : ret1 (encK ks x) = (f k).getD z) (kk : K x w) : ef P (Instr.lookup t (.map (some b)) (.int .i64 k) false) ks w K :=
  ⟨x, w, by rw [lookup_run T h, hx]; rfl, kk⟩
theorem ef.lookupOk {ks : List Kd} {K : TK ks → World → Prop} (T : MapT P t z) (h : Ok e (mpP b f :: L) w) (x : TK ks) (hx : ret1 (encK ks x) = .tuple #[(f k).getD z, .bool (f k).isSome]) (kk : K x w) : ef P (Instr.lookup t (.map (some b)) (.int .i64 k) true) ks w K :=
  ⟨x, w, by rw [lookup_run T h, hx]; rfl, kk⟩
theorem mapIs_upd {es es' : Array MapEntry} {clock clock' : Nat} (h : mapIs es clock f) (hs : Stamped es' clock') (hk : ∀ x ∈ es'.toList, IsKey (.int .i64) x.key) {o : Option Value}
    (h1 : ∀ v, o = some v ↔ ∃ x ∈ es'.toList, x.key = .int .i64 k ∧ x.val = v) (h2 : ∀ x, x.key ≠ .int .i64 k → (x ∈ es'.toList ↔ x ∈ es.toList)) : mapIs es' clock' (upd f k o) := by
  refine ⟨hs, hk, fun j v => ?_⟩
  by_cases hj : j = k
  · subst hj
    rw [upd_same]; exact h1 v
  · rw [upd_other hj, h.2.2 j v]
    have hne : ∀ x : MapEntry, x.key = .int .i64 j → x.key ≠ .int .i64 k := fun x hx he => by rw [hx] at he; cases he; exact hj rfl
    constructor
    · rintro ⟨x, hx, hxk, hv⟩; exact ⟨x, (h2 x (hne x hxk)).2 hx, hxk, hv⟩
    · rintro ⟨x, hx, hxk, hv⟩; exact ⟨x, (h2 x (hne x hxk)).1 hx, hxk, hv⟩
theorem efU.mapUpdate {K : World → Prop} (T : MapT P t z) (h : Ok e (mpP b f :: L) w) (kk : ∀ w', Ok e (mpP b (upd f k (some v)) :: L) w' → K w') : efU P (Instr.mapUpdate t (.map (some b)) (.int .i64 k) v) w K := by
  obtain ⟨kt, el, i, ht, hk, hi, hz⟩ := T.ex
  obtain ⟨es, clock, hb, hm⟩ := h.mapE
  have hc := MapKept.run_checkKey (P := P) (w := w) (k := .int .i64 k) hk rfl false 9999
  rcases mapIs_find hm k with ⟨h1, h2, h3⟩ | ⟨j, x, h1, hj, hxk, h2⟩
  · have hf := MapKept.run_findKey (P := P) (w := w) hk h1
    refine ⟨{ w with heap := w.heap.setIfInBounds b (.map (es.push { key := .int .i64 k, val := v, born := clock }) (clock + 1)) }, ?_, kk _ (h.mapSet ?_)⟩
    · simp [Instr.mapUpdate, run_underlying ht, MapKept.run_getObj_map hb, hc, hf, MapKept.run_setObj_map _ hb]
    · refine mapIs_upd hm (stamped_push hm.1 h3) (fun x hx => ?_) (fun u => ?_) (fun x hx => ?_)
      · simp only [Array.toList_push, List.mem_append, List.mem_singleton] at hx
        rcases hx with hx | rfl
        · exact hm.2.1 x hx
        · rfl
      · simp only [Array.toList_push, List.mem_append, List.mem_singleton, Option.some.injEq]
        constructor
        · rintro rfl; exact ⟨_, .inr rfl, rfl, rfl⟩
        · rintro ⟨x, hx | rfl, hxk, rfl⟩
          · exact absurd hxk (h3 x hx)
          · rfl
      · simp only [Array.toList_push, List.mem_append, List.mem_singleton]
        constructor
        · rintro (h | rfl)
          · exact h
          · exact absurd rfl hx
        · exact .inl
  · have hf := MapKept.run_findKey (P := P) (w := w) hk h1
    have hj' : es[j]? = some x := by simpa using hj
    refine ⟨{ w with heap := w.heap.setIfInBounds b (.map (es.modify j fun e => { e with key := .int .i64 k, val := v }) clock) }, ?_, kk _ (h.mapSet ?_)⟩
    · simp [Instr.mapUpdate, run_underlying ht, MapKept.run_getObj_map hb, hc, hf, hj', hxk, Instr.keyThatStays, Instr.sameBits, MapKept.run_setObj_map _ hb]
    · have hkey : ∀ e', es[j]? = some e' → ({ e' with key := .int .i64 k, val := v } : MapEntry).key = e'.key := fun e' he' => by rw [hj'] at he'; cases he'; exact hxk.symm
      have hjl : j < es.size := (Array.getElem?_eq_some_iff.1 hj').1
      have hmem : ∀ y, y ∈ (es.modify j fun e => { e with key := .int .i64 k, val := v }).toList ↔ (∃ i, i ≠ j ∧ es.toList[i]? = some y) ∨ y = { x with key := .int .i64 k, val := v } := by
        intro y
        rw [List.mem_iff_getElem?]
        constructor
        · rintro ⟨i, hi⟩
          rw [Array.getElem?_toList, Array.getElem?_modify] at hi
          by_cases hij : j = i
          · subst hij
            rw [if_pos rfl, hj'] at hi
            simp only [Option.map_some, Option.some.injEq] at hi
            exact .inr hi.symm
          · rw [if_neg hij] at hi
            exact .inl ⟨i, fun h => hij h.symm, by simpa using hi⟩
        · rintro (⟨i, hij, hi⟩ | rfl)
          · refine ⟨i, ?_⟩
            rw [Array.getElem?_toList, Array.getElem?_modify, if_neg (fun h => hij h.symm)]
            simpa using hi
          · refine ⟨j, ?_⟩
            rw [Array.getElem?_toList, Array.getElem?_modify, if_pos rfl, hj']
            rfl
      have huniq : ∀ i y, es.toList[i]? = some y → y.key = .int .i64 k → i = j := fun i y hi hy => by
        have hnd := hm.1.2.2
        have hi1 : (es.toList.map (·.key))[i]? = some (.int .i64 k) := by rw [List.getElem?_map, hi]; simp [hy]
        have hj1 : (es.toList.map (·.key))[j]? = some (.int .i64 k) := by rw [List.getElem?_map, hj]; simp [hxk]
        obtain ⟨hi2, hi3⟩ := List.getElem?_eq_some_iff.1 hi1
        obtain ⟨hj2, hj3⟩ := List.getElem?_eq_some_iff.1 hj1
        exact (List.getElem_inj hnd).1 (hi3.trans hj3.symm)
      refine mapIs_upd hm (stamped_modify hm.1 j (fun e => { e with key := .int .i64 k, val := v }) (fun _ _ => rfl) (fun e' _ he' => hkey e' he')) (isKey_modify hm.2.1 j (fun e => { e with key := .int .i64 k, val := v }) hkey) (fun u => ?_) (fun y hy => ?_)
      · constructor
        · rintro h; cases h; exact ⟨_, (hmem _).2 (.inr rfl), rfl, rfl⟩
        · rintro ⟨y, hy, hyk, rfl⟩
          rcases (hmem y).1 hy with ⟨i, hij, hi⟩ | rfl
          · exact absurd (huniq i y hi hyk) hij
          · rfl
      · rw [hmem y]
        constructor
        · rintro (⟨i, _, hi⟩ | rfl)
          · exact List.mem_of_getElem? hi
          · exact absurd rfl hy
        · intro hy2
          obtain ⟨i, hi⟩ := List.mem_iff_getElem?.1 hy2
          refine .inl ⟨i, fun hij => ?_, hi⟩
          subst hij
          rw [hj] at hi
          cases hi
          exact hy hxk
theorem ef.delete {ty kt : TypeId} {K : TK [] → World → Prop} (T : MapT P t z) (h : Ok e (mpP b f :: L) w) (kk : ∀ w', Ok e (mpP b (upd f k none) :: L) w' → K () w') : ef P (Builtin.delete_ #[t, kt] ty #[.map (some b), .int .i64 k]) [] w K := by
  obtain ⟨kt', el, i, ht, hk, hi, hz⟩ := T.ex
  obtain ⟨es, clock, hb, hm⟩ := h.mapE
  have hc := MapKept.run_checkKey (P := P) (w := w) (k := .int .i64 k) hk rfl es.isEmpty 9999
  rcases mapIs_find hm k with ⟨h1, h2, h3⟩ | ⟨j, x, h1, hj, hxk, h2⟩
  · have hf := MapKept.run_findKey (P := P) (w := w) hk h1
    refine ⟨(), { w with heap := w.heap.setIfInBounds b (.map es clock) }, ?_, kk _ (h.mapSet ?_)⟩
    · simp [Builtin.delete_, run_underlying ht, MapKept.run_getObj_map hb, hc, hf, MapKept.run_setObj_map _ hb, ret1, encK]
    · refine mapIs_upd hm hm.1 hm.2.1 (fun u => ?_) (fun x _ => Iff.rfl)
      constructor
      · intro h; cases h
      · rintro ⟨x, hx, hxk, _⟩; exact absurd hxk (h3 x hx)
  · have hf := MapKept.run_findKey (P := P) (w := w) hk h1
    have hj' : es[j]? = some x := by simpa using hj
    have hjl : j < es.size := (Array.getElem?_eq_some_iff.1 hj').1
    refine ⟨(), { w with heap := w.heap.setIfInBounds b (.map (es.eraseIdxIfInBounds j) clock) }, ?_, kk _ (h.mapSet ?_)⟩
    · simp [Builtin.delete_, run_underlying ht, MapKept.run_getObj_map hb, hc, hf, MapKept.run_setObj_map _ hb, ret1, encK]
    · have hel : (es.eraseIdxIfInBounds j).toList = es.toList.eraseIdx j := by simp [Array.eraseIdxIfInBounds, hjl]
      have hsub : (es.toList.eraseIdx j).Sublist es.toList := List.eraseIdx_sublist _ _
      have hnd := hm.1.2.2
      have huniq : ∀ i y, es.toList[i]? = some y → y.key = .int .i64 k → i = j := fun i y hi hy => by
        have hi1 : (es.toList.map (·.key))[i]? = some (.int .i64 k) := by rw [List.getElem?_map, hi]; simp [hy]
        have hj1 : (es.toList.map (·.key))[j]? = some (.int .i64 k) := by rw [List.getElem?_map, hj]; simp [hxk]
        obtain ⟨hi2, hi3⟩ := List.getElem?_eq_some_iff.1 hi1
        obtain ⟨hj2, hj3⟩ := List.getElem?_eq_some_iff.1 hj1
        exact (List.getElem_inj hnd).1 (hi3.trans hj3.symm)
      refine mapIs_upd hm (stamped_erase hm.1 j) (fun x hx => hm.2.1 x (hsub.subset (by rw [← hel]; exact hx))) (fun u => ?_) (fun y hy => ?_)
      · constructor
        · intro h; cases h
        · rintro ⟨y, hy, hyk, _⟩
          rw [hel] at hy
          obtain ⟨i, hi⟩ := List.mem_iff_getElem?.1 hy
          rw [List.getElem?_eraseIdx] at hi
          split at hi
          · have := huniq i y hi hyk; omega
          · have := huniq (i + 1) y hi hyk; omega
      · rw [hel]
        constructor
        · intro h; exact hsub.subset h
        · intro hy2
          obtain ⟨i, hi⟩ := List.mem_iff_getElem?.1 hy2
          rw [List.mem_iff_getElem?]
          rcases Nat.lt_trichotomy i j with hij | hij | hij
          · exact ⟨i, by rw [List.getElem?_eraseIdx, if_pos hij]; exact hi⟩
          · subst hij
            rw [hj] at hi
            cases hi
            exact absurd hxk hy
          · exact ⟨i - 1, by rw [List.getElem?_eraseIdx, if_neg (by omega), show i - 1 + 1 = i by omega]; exact hi⟩
theorem Ok.mapNew {es : Array MapEntry} {clock : Nat} (h : Ok e L w) (hm : mapIs es clock f) : Ok e (mpP w.heap.size f :: L) (w.alloc (.map es clock)) := by
  refine ⟨h.os, h.tape, h.output, fun k => if k = w.heap.size then some (.map es clock) else none, hpOf w, fun k => ?_, ?_, ⟨es, clock, by simp, hm⟩, h.heap⟩
  · by_cases hk : k = w.heap.size
    · subst hk; right; simp [hpOf]
    · left; simp [hk]
  · funext k
    simp only [hpOf, World.alloc, Hp.un, Array.getElem?_push]
    by_cases hk : k = w.heap.size <;> simp [hk]
theorem mapIs_empty : mapIs #[] 0 fun _ => none := ⟨stamped_empty 0, by simp, by simp⟩
theorem ef.makeMap {K : TK [kM] → World → Prop} (h : Ok e L w) (kk : ∀ b w', Ok e (mpP b (fun _ => none) :: L) w' → K (some b, ()) w') : ef P (Instr.makeMap t none) [kM] w K :=
  ⟨(some w.heap.size, ()), w.alloc (.map #[] 0), by simp [Instr.makeMap, ret1, encK]; rfl, kk _ _ (h.mapNew mapIs_empty)⟩
theorem ef.assertMap {K : TK [kM] → World → Prop} {u : TypeId} {m : Option Nat} (T : MapT P t z) (kk : K (m, ()) w) : ef P (Instr.typeAssert (.iface t (.map m)) u t false) [kM] w K := by
  obtain ⟨kt, el, i, ht, hk, hi, hz⟩ := T.ex
  exact ⟨(m, ()), w, by simp [Instr.typeAssert, run_underlying ht, ret1, encK]; rfl, kk⟩
/-- 'maps.clone' -/
structure McT (P : Program) (f : FuncId) : Prop where
  ex : ∃ fn, P.funcs[f]? = some fn ∧ (fn.name == "runtime.NumGoroutine") = false ∧ fn.body.isNone = true ∧ Extern.findNext fn = none ∧ Extern.find fn = some Extern.MapsClone.clone
theorem xt.mapClone {fid : FuncId} {ty : TypeId} {K : TK [.l .n] → World → Prop} (T : McT P fid) (h : Ok e (mpP b f :: L) w) (kk : ∀ b' w', Ok e (mpP b' f :: mpP b f :: L) w' → K ((⟨ty, .map (some b')⟩ : Iv), ()) w') : xt P fid [.iface ty (.map (some b))] [.l .n] w K := by
  obtain ⟨fn, hf, hname, hb, hn, he⟩ := T.ex
  obtain ⟨es, clock, hbl, hm⟩ := h.mapE
  refine ⟨((⟨ty, .map (some w.heap.size)⟩ : Iv), ()), w.alloc (.map es clock), ?_, kk _ _ (h.mapNew hm)⟩
  have hc : Extern.MapsClone.clone #[.iface ty (.map (some b))] = (getObj b >>= fun o => match o with | .map entries clock => (newObj (.map entries clock) >>= fun r => pure (.iface ty (.map (some r)))) | _ => stuck "maps.clone: a map expected") := rfl
  have hr : (Extern.MapsClone.clone #[.iface ty (.map (some b))]).run P w = .ok (.iface ty (.map (some w.heap.size))) (w.alloc (.map es clock)) := by
    rw [hc, Sem.run_bind, MapKept.run_getObj_map hbl]
    rfl
  have := run_callFunc_extern hf hname hb hn he #[.iface ty (.map (some b))] w
  rw [show [Value.iface ty (.map (some b))].toArray = #[.iface ty (.map (some b))] from rfl, this, hr]
  rfl
end
end Go.Proofs.YtenonfkfoedfmaaGreatDoor.B


/- Contracts of the package order: rows of pairs (who, priority). -/
namespace Go.Proofs.YtenonfkfoedfmaaGreatDoor.B
open Go
set_option linter.unusedVariables false

def prs (l : List (Int × Int)) : List Value := l.flatMap fun p => [.int .i64 p.1, .int .i64 p.2]

theorem prs_cons (p : Int × Int) (l : List (Int × Int)) : prs (p :: l) = .int .i64 p.1 :: .int .i64 p.2 :: prs l := rfl

theorem prs_append (l m : List (Int × Int)) : prs (l ++ m) = prs l ++ prs m := by simp [prs]

theorem prs_len (l : List (Int × Int)) : (prs l).length = l.length * 2 := by
  induction l with
  | nil => rfl
  | cons p l ih => rw [prs_cons]; simp only [List.length_cons, ih]; omega

theorem prs_take (l : List (Int × Int)) (n : Nat) : (prs l).take (n * 2) = prs (l.take n) := by
  induction l generalizing n with
  | nil => simp [prs]
  | cons p l ih =>
    cases n with
    | zero => simp [prs]
    | succ n => rw [show (n + 1) * 2 = n * 2 + 1 + 1 by omega, List.take_succ_cons, prs_cons, prs_cons, List.take_succ_cons, List.take_succ_cons, ih]

theorem prs_drop (l : List (Int × Int)) (n : Nat) : (prs l).drop (n * 2) = prs (l.drop n) := by
  induction l generalizing n with
  | nil => simp [prs]
  | cons p l ih =>
    cases n with
    | zero => simp [prs]
    | succ n => rw [show (n + 1) * 2 = n * 2 + 1 + 1 by omega, List.drop_succ_cons, prs_cons, List.drop_succ_cons, List.drop_succ_cons, ih]

theorem prs_get {l : List (Int × Int)} {i : Nat} {p : Int × Int} (h : l[i]? = some p) : (prs l)[i * 2]? = some (.int .i64 p.1) ∧ (prs l)[i * 2 + 1]? = some (.int .i64 p.2) := by
  induction l generalizing i with
  | nil => simp at h
  | cons q l ih =>
    cases i with
    | zero => simp at h; subst h; exact ⟨rfl, rfl⟩
    | succ i =>
      have := ih (i := i) (by simpa using h)
      rw [prs_cons, show (i + 1) * 2 = i * 2 + 1 + 1 by omega]
      simpa using this

theorem slc_prs_len {e w L s l} (h : Ok e (slc 2 s (prs l) :: L) w) : s.len = l.length := by
  have := h.slc_len
  rw [prs_len] at this
  omega

/-- an element of a row of pairs -/
theorem ix_pr {e w L s l} {i : Int} {f : Nat → Nat → Prop} (h : Ok e (slc 2 s (prs l) :: L) w) (h0 : 0 ≤ i) (h1 : i < l.length)
    (k : ∀ b o p, l[i.toNat]? = some p → s.a = some ⟨b, 0, none⟩ → o = i.toNat * 2 → (∀ w', (∃ L', Ok e (slc 2 s (prs l) :: L') w') → w'.cell? ⟨b, o, none⟩ = some (.int .i64 p.1)) → (∀ w', (∃ L', Ok e (slc 2 s (prs l) :: L') w') → w'.cell? ⟨b, o + 1, none⟩ = some (.int .i64 p.2)) → f b o) : ix s i 2 f := by
  have hl := slc_prs_len h
  obtain ⟨-, -, hc, hcase⟩ := h.slcE
  rcases hcase with ⟨ha, hcap, hL⟩ | ⟨b, post, ha, hp, hk⟩
  · omega
  · have hlt : i.toNat < l.length := by omega
    have hg := prs_get (List.getElem?_eq_getElem hlt)
    refine ⟨b, 0, ha, h0, by omega, k b _ _ (List.getElem?_eq_getElem hlt) ha (by omega) ?_ ?_⟩
    · rintro w' ⟨L', h'⟩
      have := h'.slc_cells ha _ _ hg.1
      rw [Addr.add_lit] at this
      exact this
    · rintro w' ⟨L', h'⟩
      have := h'.slc_cells ha _ _ hg.2
      rw [Addr.add_lit] at this
      exact this

/-- where someone stands -/
def atI (l : List (Int × Int)) (id : Int) : Int := match l.findIdx? (fun p => p.1 == id) with
  | some i => (i : Int)
  | none => -1

theorem atI_none {l : List (Int × Int)} {id : Int} (h : ∀ p ∈ l, p.1 ≠ id) : atI l id = -1 := by
  have : l.findIdx? (fun p => p.1 == id) = none := by
    rw [List.findIdx?_eq_none_iff]
    intro p hp
    simpa using h p hp
  simp [atI, this]

theorem atI_some {l : List (Int × Int)} {id : Int} {n : Nat} {p : Int × Int} (h : l[n]? = some p) (hp : p.1 = id) (hn : ∀ m, m < n → ∀ q, l[m]? = some q → q.1 ≠ id) : atI l id = n := by
  have : l.findIdx? (fun p => p.1 == id) = some n := by
    rw [List.findIdx?_eq_some_iff_getElem]
    have hlt := (List.getElem?_eq_some_iff.1 h).1
    have hv := (List.getElem?_eq_some_iff.1 h).2
    refine ⟨hlt, by rw [hv]; simpa using hp, fun j hj => ?_⟩
    have := hn j hj _ (List.getElem?_eq_getElem (by omega))
    simpa using this
  simp [atI, this]

theorem atI_lt {l : List (Int × Int)} {id : Int} (h : 0 ≤ atI l id) : (atI l id).toNat < l.length ∧ ∃ p, l[(atI l id).toNat]? = some p ∧ p.1 = id := by
  unfold atI at h ⊢
  split at h
  · next i hi =>
    obtain ⟨hlt, hp, _⟩ := List.findIdx?_eq_some_iff_getElem.1 hi
    exact ⟨by simpa using hlt, l[i], List.getElem?_eq_getElem hlt, by simpa using hp⟩
  · omega

theorem atI_bd (l : List (Int × Int)) (id : Int) : -1 ≤ atI l id ∧ (atI l id < 0 → atI l id = -1) := by
  unfold atI
  split <;> constructor <;> omega

theorem slT_item : SlT Pg 108 2 := .of (by kernel_rfl)

theorem Clone_item {e w L s vs R} (h : Ok e (slc 2 s vs :: L) w) (hb : s.len ≤ 2 ^ 31) (k : ∀ s' w', s'.len = s.len → Ok e (slc 2 s' vs :: slc 2 s vs :: L) w' → R [vS s'] w') : sh97 s R w := by
  unfold sh97
  obtain ⟨hl, hv, hc, hcase⟩ := h.slcE
  refine cs.mk (fun hn => ?_) (fun hn => ?_)
  · rcases hcase with ⟨ha, hcap, hL⟩ | ⟨b, post, ha, hp, hk⟩
    · have h0 : s.len = 0 := by omega
      have : vs = [] := List.eq_nil_of_length_eq_zero (by rw [hl, h0])
      subst this
      exact k ⟨none, 0, 0⟩ w h0.symm (h.slcNil 2)
    · rw [ha] at hn; cases hn
  · refine al.mk h fun b w1 h1 => ?_
    have h2 := h1.slcNew (n := 0) (sz := 2) rfl (by simp)
    refine ef.append2 slT_item (by decide) h2 (by simp only; omega) fun s' w2 hl2 h3 => ?_
    exact k s' w2 (by simpa using hl2) (by simpa using h3)

theorem Clip_item {e w L s vs R} (h : Ok e (slc 2 s vs :: L) w) (k : ∀ s' w', s'.len = s.len → Ok e (slc 2 s' vs :: L) w' → R [vS s'] w') : sh96 s R w := by
  unfold sh96
  exact sb.clip h fun s' hl h' => k s' w hl h'

theorem ov_item : OvT Pg 227 108 := ⟨Tryz.f227, 4, Tryz.func227, by kernel_rfl, by kernel_rfl, by kernel_rfl, by kernel_rfl⟩

theorem Delete_item {e w L s l R} {i : Int} (h : Ok e (slc 2 s (prs l) :: L) w) (hi : 0 ≤ i) (hil : i < l.length) (hb : l.length ≤ 2 ^ 31)
    (k : ∀ s' w', Ok e (slc 2 s' (prs (l.take i.toNat ++ l.drop (i.toNat + 1))) :: L) w' → R [vS s'] w') : sh193 s i (i + 1) R w := by
  unfold sh193
  have hl := slc_prs_len h
  refine del_body slT_item (by decide) h hi (by omega) (by omega) (by omega) fun s' w' _ h' => k s' w' ?_
  rw [prs_append, ← prs_take, ← prs_drop]
  rw [show (i + 1).toNat = i.toNat + 1 by omega] at h'
  exact h'

theorem Insert_item {e w L s x l R} {i : Int} {y : Int × Int} (h : Ok e (slc 2 x (prs [y]) :: slc 2 s (prs l) :: L) w) (hi : 0 ≤ i) (hil : i ≤ l.length) (hb : l.length ≤ 2 ^ 30)
    (k : ∀ s' w', Ok e (slc 2 s' (prs (l.take i.toNat ++ [y] ++ l.drop i.toNat)) :: L) w' → R [vS s'] w') : sh172 s i x R w := by
  unfold sh172
  have hl := slc_prs_len h.p1
  have hx := slc_prs_len h
  simp only [List.length_singleton] at hx
  refine ins_body (ki := .i64) slT_item (by kernel_rfl) ov_item (by decide) h hi (by omega) (by omega) (by omega) fun s' w' _ h' => k s' w' ?_
  rw [prs_append, prs_append, ← prs_take, ← prs_drop]
  exact h'

end Go.Proofs.YtenonfkfoedfmaaGreatDoor.B


/- Contracts of order.Line and order.Queue. -/
namespace Go.Proofs.YtenonfkfoedfmaaGreatDoor.B
open Go
set_option linter.unusedVariables false

/-- the line without the one that stands at a place -/
def rmAt (l : List (Int × Int)) (i : Nat) : List (Int × Int) := l.take i ++ l.drop (i + 1)

def rmL (l : List (Int × Int)) (id : Int) : List (Int × Int) := if atI l id < 0 then l else rmAt l (atI l id).toNat

def priL (l : List (Int × Int)) (id : Int) : Int := if atI l id < 0 then 0 else (l[(atI l id).toNat]?.getD (0, 0)).2

/-- where a newcomer is put -/
def pp (l : List (Int × Int)) (y : Int) : Nat → Nat
  | 0 => 0
  | n + 1 => if y < (l[n]?.getD (0, 0)).2 then pp l y n else n + 1

theorem pp_le (l : List (Int × Int)) (y : Int) (n : Nat) : pp l y n ≤ n := by
  induction n with
  | zero => exact Nat.le_refl _
  | succ n ih => unfold pp; split <;> omega

def putK (byPri : Bool) (l : List (Int × Int)) (y : Int) : Nat := if byPri then pp l y l.length else l.length

theorem putK_le (byPri : Bool) (l : List (Int × Int)) (y : Int) : putK byPri l y ≤ l.length := by
  unfold putK; split
  · exact pp_le ..
  · exact Nat.le_refl _

def putL (byPri : Bool) (l : List (Int × Int)) (x : Int × Int) : List (Int × Int) := l.take (putK byPri l x.2) ++ [x] ++ l.drop (putK byPri l x.2)

def addL (byPri : Bool) (l : List (Int × Int)) (id pri : Int) : Int × List (Int × Int) :=
  if id < 1 ∨ id > 16 ∨ pri < 1 ∨ pri > 16 then (-17, l) else if 0 ≤ atI l id then (-41, l) else (0, putL byPri l (id, pri))

def chgL (byPri : Bool) (l : List (Int × Int)) (id pri : Int) : Bool × List (Int × Int) :=
  if atI l id < 0 ∨ pri < 1 ∨ pri > 16 then (false, l) else if byPri then (true, putL byPri (rmL l id) (id, pri)) else (true, l.set (atI l id).toNat (id, pri))

theorem putL_len (byPri : Bool) (l : List (Int × Int)) (x : Int × Int) : (putL byPri l x).length = l.length + 1 := by
  have := putK_le byPri l x.2
  simp [putL]; omega

def lineP (p : Nat) (rest : List Value) (l : List (Int × Int)) : SP := fun h => ∃ s, oksH [pts p (vS s :: rest), slc 2 s (prs l)] h

theorem lineE {e w L p rest l} (h : Ok e (lineP p rest l :: L) w) : ∃ s, s.len = l.length ∧ Ok e (pts p (vS s :: rest) :: slc 2 s (prs l) :: L) w := by
  obtain ⟨s, h⟩ := h.exE
  have h := h.unpack
  exact ⟨s, slc_prs_len h.p1, h⟩

theorem lineI {e w L p rest l s} (h : Ok e (pts p (vS s :: rest) :: slc 2 s (prs l) :: L) w) : Ok e (lineP p rest l :: L) w :=
  (Ok.pack (M := [pts p (vS s :: rest), slc 2 s (prs l)]) h).imp fun k hk => ⟨s, hk⟩

theorem IndexFunc_at {e w L s l c id R} (h : Ok e (slc 2 s (prs l) :: pts c [.int .i64 id] :: L) w) (hb : l.length ≤ 2 ^ 31)
    (k : ∀ w', Ok e (slc 2 s (prs l) :: pts c [.int .i64 id] :: L) w' → R [.int .i64 (atI l id)] w') : sh225 s ⟨226, [], [.pointer (some ⟨c, 0, none⟩)]⟩ R w := by
  unfold sh225
  have hl := slc_prs_len h
  refine lp.mk (fun t w' => ∃ n : Nat, t.1 = (n : Int) ∧ n ≤ l.length ∧ (∀ m, m < n → ∀ q, l[m]? = some q → q.1 ≠ id) ∧ Ok e (slc 2 s (prs l) :: pts c [.int .i64 id] :: L) w')
    (fun t _ => l.length - t.1.toNat) ⟨0, rfl, Nat.zero_le _, fun m hm => absurd hm (Nat.not_lt_zero _), h⟩ ?_
  rintro ⟨i, _⟩ w1 ⟨n, hn, hnl, hno, h⟩
  dsimp only at hn
  subst hn
  refine cs.mk (fun hlt => ?_) (fun hge => ?_)
  · have hlt : n < l.length := by have := of_decide_eq_true hlt; dsimp only at this; omega
    refine ix_pr h (by simp) (by simpa using hlt) fun b o p hp ha ho hc1 hc2 => ?_
    refine ldI.mk (hc1 _ ⟨_, h⟩) (ldI.mk (hc2 _ ⟨_, h⟩) ?_)
    refine ob.mk (by kernel_rfl) ?_
    have hp : l[n]? = some p := by simpa using hp
    refine call226 (a0 := (p.1, p.2, ())) (c0 := c) ?_
    unfold sh226
    refine al.mk h fun b1 w2 h => ?_
    refine ldI.mk (h.cell rfl) (ldI.mk (h.p2.cell rfl) ?_)
    refine ⟨(p.1 == id, ()), rfl, ?_⟩
    dsimp only
    refine cs.mk (fun he => ?_) (fun hne => ?_)
    · have he : p.1 = id := by simpa using he
      have := k w2 h.drop
      rw [atI_some hp he hno] at this
      exact this
    · have hne : p.1 ≠ id := by simpa using hne
      refine ⟨⟨n + 1, ?_, hlt, fun m hm q hq => ?_, h.drop⟩, ?_⟩
      · show w64 _ = _
        rw [w64_in (by omega) (by omega)]; rfl
      · rcases Nat.lt_or_ge m n with hm' | hm'
        · exact hno m hm' q hq
        · have : m = n := by omega
          subst this
          rw [hp] at hq
          cases hq
          exact hne
      · show _ - (w64 _).toNat < _ - Int.toNat _
        rw [w64_in (by omega) (by omega)]
        omega
  · have hge : l.length ≤ n := by have := of_decide_eq_false hge; dsimp only at this; omega
    have := k w1 h
    rw [atI_none fun p hp => by
      obtain ⟨m, hm, rfl⟩ := List.getElem_of_mem hp
      exact hno m (by omega) _ (List.getElem?_eq_getElem hm)] at this
    exact this

theorem at_order {e w L p rest l id R} (h : Ok e (lineP p rest l :: L) w) (hb : l.length ≤ 2 ^ 31) (k : ∀ w', Ok e (lineP p rest l :: L) w' → R [.int .i64 (atI l id)] w') : sh171 (some ⟨p, 0, none⟩) id R w := by
  obtain ⟨s, hs, h⟩ := lineE h
  unfold sh171
  refine al.mk h fun b1 w1 h => ?_
  refine nn.mk (ldS.mk (h.p1.cell rfl) ?_)
  refine call225 (a1 := ⟨226, [], [.pointer (some ⟨b1, 0, none⟩)]⟩) (IndexFunc_at (c := b1) (id := id) h.p2 hb fun w2 h => ⟨(atI l id, ()), rfl, ?_⟩)
  dsimp only
  exact k w2 (lineI h.p2.p2.drop)

theorem Has_order {e w L p rest l id R} (h : Ok e (lineP p rest l :: L) w) (hb : l.length ≤ 2 ^ 31) (k : ∀ w', Ok e (lineP p rest l :: L) w' → R [.bool (decide (0 ≤ atI l id))] w') : sh94 (some ⟨p, 0, none⟩) id R w := by
  unfold sh94
  refine call171 (at_order h hb fun w1 h => ⟨(atI l id, ()), rfl, ?_⟩)
  exact k w1 h

theorem Row_order {e w L p rest l R} (h : Ok e (lineP p rest l :: L) w) (hb : l.length ≤ 2 ^ 31) (k : ∀ s w', s.len = l.length → Ok e (slc 2 s (prs l) :: lineP p rest l :: L) w' → R [vS s] w') : sh50 (some ⟨p, 0, none⟩) R w := by
  obtain ⟨s, hs, h⟩ := lineE h
  unfold sh50
  (repeat (first | with_reducible refine nn.mk ?_ | ((first | with_reducible apply ldI.mk | with_reducible apply ldB.mk | with_reducible apply ldP.mk | with_reducible apply ldS.mk | with_reducible apply ldM.mk | with_reducible apply ldF.mk | with_reducible apply ldG.mk); (· exact (by refine Ok.cellS h (by with_reducible first | exact sl0 | exact .there sl0 | exact .there sl1 | exact .there sl2 | exact .there sl3 | exact .there sl4 | exact .there sl5 | exact .there sl6 | exact .there sl7 | exact .there sl8 | exact .there sl9 | exact .there sl10 | exact .there sl11 | exact .there sl12) ?_; rfl)))))
  refine call97 (Clone_item h.p1 (by omega) fun s1 w1 hl1 h => ⟨(s1, ()), rfl, ?_⟩)
  dsimp only
  refine call96 (Clip_item h fun s2 w2 hl2 h => ⟨(s2, ()), rfl, ?_⟩)
  dsimp only
  exact k s2 w2 (by omega) (lineI h.p2.p2.p1).p1

theorem First_order {e w L p rest l R} (h : Ok e (lineP p rest l :: L) w) (k : ∀ w', Ok e (lineP p rest l :: L) w' → R [.agg #[.int .i64 (l.head?.getD (0, 0)).1, .int .i64 (l.head?.getD (0, 0)).2], .bool (!l.isEmpty)] w') : sh244 (some ⟨p, 0, none⟩) R w := by
  obtain ⟨s, hs, h⟩ := lineE h
  unfold sh244
  refine al.mk h fun b1 w1 h => ?_
  refine nn.mk (ldS.mk (h.p1.cell rfl) ?_)
  refine cs.mk (fun h0 => ?_) (fun h0 => ?_)
  · have h0 : l = [] := List.eq_nil_of_length_eq_zero (by have : (s.len : Int) = 0 := by simpa using h0
                                                          omega)
    subst h0
    refine st1.mk h (by simp) fun w2 h => st1.mk h (by simp) fun w3 h => ?_
    refine ldI.mk (h.cell rfl) (ldI.mk (h.cell rfl) ?_)
    exact k w3 (lineI h.drop)
  · have h0 : s.len ≠ 0 := by simpa using h0
    refine nn.mk (ldS.mk (h.p1.cell rfl) ?_)
    refine ix_pr h.p2 (by omega) (by omega) fun b o q hq ha ho hc1 hc2 => ?_
    refine ldI.mk (hc1 _ ⟨_, h.p2⟩) (ldI.mk (hc2 _ ⟨_, h.p2⟩) ?_)
    refine st1.mk h (by simp) fun w2 h => st1.mk h (by simp) fun w3 h => ?_
    refine ldI.mk (h.cell rfl) (ldI.mk (h.cell rfl) ?_)
    have := k w3 (lineI h.drop)
    cases l with
    | nil => simp at hq
    | cons x r =>
      simp at hq
      subst hq
      exact this

theorem Remove_order {e w L p rest l id R} (h : Ok e (lineP p rest l :: L) w) (hb : l.length ≤ 2 ^ 31) (k : ∀ w', Ok e (lineP p rest (rmL l id) :: L) w' → R [.bool (decide (0 ≤ atI l id))] w') : sh111 (some ⟨p, 0, none⟩) id R w := by
  unfold sh111
  refine call171 (at_order h hb fun w1 h => ⟨(atI l id, ()), rfl, ?_⟩)
  dsimp only
  refine cs.mk (fun h0 => ?_) (fun h0 => ?_)
  · have h0 : atI l id < 0 := by simpa using h0
    have := k w1 (by rw [rmL, if_pos h0]; exact h)
    rw [show decide (0 ≤ atI l id) = false by simp; omega] at this
    exact this
  · have h0 : ¬ atI l id < 0 := by simpa using h0
    obtain ⟨hlt, q, hq, hq1⟩ := atI_lt (by omega : 0 ≤ atI l id)
    obtain ⟨s, hs, h⟩ := lineE h
    refine nn.mk (ldS.mk (h.cell rfl) ?_)
    rw [w64_in (by omega) (by omega)]
    refine call193 (Delete_item h.p1 (by omega) (by omega) (by omega) fun s2 w2 h => ⟨(s2, ()), rfl, ?_⟩)
    dsimp only
    refine nn.mk (st1.mk h.p1 (by simp) fun w3 h => ?_)
    have := k w3 (by rw [rmL, if_neg h0]; exact lineI h)
    rw [show decide (0 ≤ atI l id) = true by simp; omega] at this
    exact this

theorem New_order {e w L byPri R} (h : Ok e L w) (k : ∀ p w', Ok e (lineP p [.bool byPri] [] :: L) w' → R [.pointer (some ⟨p, 0, none⟩)] w') : sh44 byPri R w := by
  unfold sh44
  refine al.mk h fun p w1 h => k p w1 ?_
  exact lineI (s := ⟨none, 0, 0⟩) (h.slcNil 2).p1

end Go.Proofs.YtenonfkfoedfmaaGreatDoor.B


/- Contracts of order.Queue. -/
namespace Go.Proofs.YtenonfkfoedfmaaGreatDoor.B
open Go
set_option linter.unusedVariables false

theorem put_order {e w L p byPri l R} {x : Int × Int} (h : Ok e (lineP p [.bool byPri] l :: L) w) (hb : l.length ≤ 2 ^ 20) (k : ∀ w', Ok e (lineP p [.bool byPri] (putL byPri l x) :: L) w' → R [] w') : sh95 (some ⟨p, 0, none⟩) (x.1, x.2, ()) R w := by
  unfold sh95
  refine al.mk h fun b1 w1 h => ?_
  obtain ⟨s, hs, h⟩ := lineE h.p1
  refine nn.mk (ldS.mk (h.cell rfl) ?_)
  refine lp.mk (fun t w' => ∃ n : Nat, t.1 = (n : Int) ∧ n ≤ l.length ∧ (if byPri then pp l x.2 n else n) = putK byPri l x.2 ∧ Ok e (pts p [vS s, .bool byPri] :: slc 2 s (prs l) :: pts b1 [.int .i64 x.1, .int .i64 x.2] :: L) w')
    (fun t _ => t.1.toNat) ⟨l.length, by rw [← hs], Nat.le_refl _, rfl, h⟩ ?_
  rintro ⟨i, _⟩ w2 ⟨n, hn, hnl, hinv, h⟩
  dsimp only at hn
  subst hn
  refine dr.mk h fun w3 h => ?_
  refine jn.at (byPri && decide (0 < n) && decide (x.2 < (l[n - 1]?.getD (0, 0)).2), ()) (fun w' => w3 = w') (fun J hJ => ?_) (fun w4 hw => ?_)
  · have hJ := hJ _ rfl
    refine nn.mk (ldB.mk (h.cell rfl) ?_)
    refine cs.mk (fun h1 => ?_) (fun h1 => ?_)
    · refine cs.mk (fun h2 => ?_) (fun h2 => ?_)
      · have h2 : 0 < n := by have := of_decide_eq_true h2; dsimp only at this; omega
        refine nn.mk (ldS.mk (h.cell rfl) ?_)
        have hw : w64 ((n : Int) - 1) = ((n - 1 : Nat) : Int) := by rw [w64_in (by omega) (by omega)]; omega
        dsimp only
        rw [hw]
        refine ix_pr h.p1 (by omega) (by omega) fun b o q hq ha ho hc1 hc2 => ?_
        refine ldI.mk (hc2 _ ⟨_, h.p1⟩) (ldI.mk (h.p2.cell rfl) ?_)
        rw [Int.toNat_natCast] at hq
        simpa [h1, h2, hq] using hJ
      · have h2 : ¬ 0 < n := by have := of_decide_eq_false h2; dsimp only at this; omega
        simpa [h1, h2] using hJ
    · simpa [h1] using hJ
  subst hw
  dsimp only
  refine cs.mk (fun h1 => ?_) (fun h1 => ?_)
  · simp only [Bool.and_eq_true, decide_eq_true_eq] at h1
    obtain ⟨m, rfl⟩ : ∃ m, n = m + 1 := ⟨n - 1, by omega⟩
    have hw : w64 (((m + 1 : Nat) : Int) - 1) = (m : Int) := by rw [w64_in (by omega) (by omega)]; omega
    rw [hw]
    refine ⟨⟨m, rfl, by omega, ?_, h⟩, ?_⟩
    · rw [← hinv, if_pos h1.1.1, if_pos h1.1.1]
      have h3 : x.2 < (l[m]?.getD (0, 0)).2 := h1.2
      rw [show pp l x.2 (m + 1) = if x.2 < (l[m]?.getD (0, 0)).2 then pp l x.2 m else m + 1 from rfl, if_pos h3]
    · show Int.toNat _ < Int.toNat _
      omega
  · have hnk : n = putK byPri l x.2 := by
      rw [← hinv]
      cases byPri with
      | false => rfl
      | true =>
        rw [if_pos rfl]
        cases n with
        | zero => rfl
        | succ m =>
          simp at h1
          rw [show pp l x.2 (m + 1) = if x.2 < (l[m]?.getD (0, 0)).2 then pp l x.2 m else m + 1 from rfl, if_neg (by omega)]
    refine dr.mk h fun w4 h => ?_
    refine nn.mk (ldS.mk (h.cell rfl) ?_)
    refine ldI.mk (h.p2.cell rfl) (ldI.mk (h.p2.cell rfl) ?_)
    refine al.mk h fun b2 w5 h => ?_
    refine ⟨h.p1.cell rfl, ?_⟩
    have h2 := (h.slcNew (n := 1) (sz := 2) rfl (by intro v hv; simp at hv; rcases hv with rfl | rfl <;> rfl)).p2.p1
    refine call172 (Insert_item (y := x) (l := l) h2 (by omega) (by omega) (by omega) fun s6 w6 h => ⟨(s6, ()), rfl, ?_⟩)
    dsimp only
    refine nn.mk (st1.mk h.p1 (by simp) fun w7 h => ?_)
    refine k w7 ?_
    have h := (lineI (rest := [.bool byPri]) h).p1.drop
    rw [Int.toNat_natCast, hnk] at h
    exact h

theorem may_order {e w L y R} (h : Ok e L w) (k : R [.bool (decide (1 ≤ y ∧ y ≤ 16))] w) : sh93 y R w := by
  unfold sh93
  refine jn.bool (decide (1 ≤ y ∧ y ≤ 16)) (fun J hJ => cs.mk (fun h1 => ?_) (fun h1 => ?_)) k
  · simpa [show 1 ≤ y by simpa using h1] using hJ
  · simpa [show ¬ 1 ≤ y by simpa using h1] using hJ

theorem Add_order {e w L p byPri l id pri R} (h : Ok e (lineP p [.bool byPri] l :: L) w) (hb : l.length ≤ 2 ^ 20) (k : ∀ w', Ok e (lineP p [.bool byPri] (addL byPri l id pri).2 :: L) w' → R [.int .i64 (addL byPri l id pri).1] w') : sh49 (some ⟨p, 0, none⟩) id pri R w := by
  unfold sh49
  unfold addL at k
  refine jn.bool (decide (id < 1) || decide (id > 16)) (fun J hJ => cs.mk (fun h1 => ?_) (fun h1 => ?_)) ?_
  · simpa [h1] using hJ
  · simpa [h1] using hJ
  dsimp only
  refine jn.bool (decide (id < 1 ∨ id > 16 ∨ pri < 1 ∨ pri > 16)) (fun J hJ => cs.mk (fun h1 => ?_) (fun h1 => ?_)) ?_
  · have h1 : id < 1 ∨ id > 16 := by simpa using h1
    rw [decide_eq_true (by omega)] at hJ
    exact hJ
  · have h1 : ¬ id < 1 ∧ ¬ id > 16 := by simpa using h1
    refine call93 (may_order h ⟨(decide (1 ≤ pri ∧ pri ≤ 16), ()), rfl, ?_⟩)
    dsimp only
    rw [show (!decide (1 ≤ pri ∧ pri ≤ 16)) = decide (id < 1 ∨ id > 16 ∨ pri < 1 ∨ pri > 16) by rw [← decide_not]; exact decide_eq_decide.2 (by omega)]
    exact hJ
  dsimp only
  refine cs.mk (fun h1 => ?_) (fun h1 => ?_)
  · have h1 := of_decide_eq_true h1
    rw [if_pos h1] at k
    exact k w h
  · have h1 := of_decide_eq_false h1
    rw [if_neg h1] at k
    refine nn.mk ?_
    refine call94 (Has_order h (by omega) fun w1 h => ⟨(decide (0 ≤ atI l id), ()), rfl, ?_⟩)
    dsimp only
    refine cs.mk (fun h2 => ?_) (fun h2 => ?_)
    · rw [if_pos (of_decide_eq_true h2)] at k
      exact k w1 h
    · rw [if_neg (of_decide_eq_false h2)] at k
      refine call95 (a1 := (id, pri, ())) (put_order (x := (id, pri)) h hb fun w2 h => ⟨(), rfl, ?_⟩)
      exact k w2 h

theorem rmL_head (x : Int × Int) (l : List (Int × Int)) : rmL (x :: l) x.1 = l := by
  have : atI (x :: l) x.1 = 0 := atI_some (n := 0) (p := x) rfl rfl (fun m hm => absurd hm (Nat.not_lt_zero _))
  simp [rmL, this, rmAt]

theorem Take_order {e w L p byPri l R} (h : Ok e (lineP p [.bool byPri] l :: L) w) (hb : l.length ≤ 2 ^ 20) (k : ∀ w', Ok e (lineP p [.bool byPri] l.tail :: L) w' → R [.agg #[.int .i64 (l.head?.getD (0, 0)).1, .int .i64 (l.head?.getD (0, 0)).2], .bool (!l.isEmpty)] w') : sh214 (some ⟨p, 0, none⟩) R w := by
  unfold sh214
  refine al.mk h fun b1 w1 h => nn.mk ?_
  refine call244 (First_order h.p1 fun w2 h => ⟨(((l.head?.getD (0, 0)).1, (l.head?.getD (0, 0)).2, ()), !l.isEmpty, ()), rfl, ?_⟩)
  refine al.mk h fun b2 w3 h => ?_
  refine st1.mk h (by simp) fun w4 h => st1.mk h (by simp) fun w5 h => ?_
  dsimp only
  refine jn.at () (fun w' => Ok e (pts b2 [.int .i64 (l.head?.getD (0, 0)).1, .int .i64 (l.head?.getD (0, 0)).2] :: lineP p [.bool byPri] l.tail :: pts b1 [.int .i64 0, .int .i64 0] :: L) w') (fun J hJ => cs.mk (fun h1 => ?_) (fun h1 => ?_)) (fun w6 h => ?_)
  · refine dr.mk h fun w6 h => nn.mk (ldI.mk (h.cell rfl) ?_)
    cases l with
    | nil => simp at h1
    | cons x r =>
      refine call111 (Remove_order h.p1 (by omega) fun w7 h => ⟨(decide (0 ≤ atI (x :: r) x.1), ()), rfl, ?_⟩)
      rw [show rmL (x :: r) ((x :: r).head?.getD (0, 0)).1 = r from rmL_head x r] at h
      exact hJ _ h.p1
  · have : l = [] := by simpa using h1
    subst this
    exact hJ _ h
  · refine ldI.mk (h.cell rfl) (ldI.mk (h.cell rfl) ?_)
    refine st1.mk h.p2 (by simp) fun w7 h => st1.mk h (by simp) fun w8 h => ?_
    refine ldI.mk (h.cell rfl) (ldI.mk (h.cell rfl) ?_)
    exact k w8 h.drop.drop

end Go.Proofs.YtenonfkfoedfmaaGreatDoor.B


/- The order in which a queue keeps those that wait. -/
namespace Go.Proofs.YtenonfkfoedfmaaGreatDoor.B
open Go
set_option linter.unusedVariables false

theorem pp_spec (l : List (Int × Int)) (y : Int) (n : Nat) : (∀ j, pp l y n ≤ j → j < n → y < (l[j]?.getD (0, 0)).2) ∧ (0 < pp l y n → ¬ y < (l[pp l y n - 1]?.getD (0, 0)).2) := by
  induction n with
  | zero => exact ⟨fun j _ h => absurd h (Nat.not_lt_zero _), fun h => absurd h (Nat.lt_irrefl _)⟩
  | succ n ih =>
    rw [show pp l y (n + 1) = if y < (l[n]?.getD (0, 0)).2 then pp l y n else n + 1 from rfl]
    split
    · next h =>
      refine ⟨fun j h1 h2 => ?_, ih.2⟩
      rcases Nat.lt_or_ge j n with h3 | h3
      · exact ih.1 j h1 h3
      · have : j = n := by omega
        rw [this]; exact h
    · next h => exact ⟨fun j h1 h2 => by omega, fun _ => h⟩

/-- before another: a lower number, or the same and came first -/
abbrev bef (a b : Int × Int) : Prop := a.2 < b.2 ∨ (a.2 = b.2 ∧ a.1 < b.1)

theorem putL_mem {byPri : Bool} {l : List (Int × Int)} {x p : Int × Int} : p ∈ putL byPri l x ↔ p = x ∨ p ∈ l := by
  unfold putL
  generalize putK byPri l x.2 = k
  have : p ∈ l ↔ p ∈ l.take k ∨ p ∈ l.drop k := by
    rw [← List.mem_append, List.take_append_drop]
  rw [List.mem_append, List.mem_append, List.mem_singleton, this]
  constructor
  · rintro ((h | h) | h)
    · exact .inr (.inl h)
    · exact .inl h
    · exact .inr (.inr h)
  · rintro (h | h | h)
    · exact .inl (.inr h)
    · exact .inl (.inl h)
    · exact .inr h

/-- the order of a queue: by number, then by who came first; or by who came first alone -/
abbrev ordR (byPri : Bool) (a b : Int × Int) : Prop := if byPri then bef a b else a.1 < b.1

end Go.Proofs.YtenonfkfoedfmaaGreatDoor.B


/- Who stands in a queue: each once, each a task. -/
namespace Go.Proofs.YtenonfkfoedfmaaGreatDoor.B
open Go
set_option linter.unusedVariables false

abbrev ids (l : List (Int × Int)) : List Int := l.map Prod.fst

theorem atI_neg {l : List (Int × Int)} {id : Int} : atI l id < 0 ↔ id ∉ ids l := by
  constructor
  · intro h hm
    obtain ⟨p, hp, he⟩ := List.mem_map.1 hm
    unfold atI at h
    split at h
    · omega
    · next h1 =>
      rw [List.findIdx?_eq_none_iff] at h1
      have := h1 p hp
      simp [he] at this
  · intro h
    rw [atI_none fun p hp he => h (List.mem_map.2 ⟨p, hp, he⟩)]
    decide

theorem atI_pos {l : List (Int × Int)} {id : Int} : 0 ≤ atI l id ↔ id ∈ ids l := by
  rw [← Decidable.not_iff_not, Int.not_le]
  exact atI_neg

theorem putL_perm (byPri : Bool) (l : List (Int × Int)) (x : Int × Int) : (putL byPri l x).Perm (x :: l) := by
  unfold putL
  rw [List.append_assoc]
  refine List.perm_middle.trans (List.Perm.cons _ ?_)
  show (l.take (putK byPri l x.2) ++ l.drop (putK byPri l x.2)).Perm l
  rw [List.take_append_drop]

theorem putL_ids {byPri : Bool} {l : List (Int × Int)} {x : Int × Int} : (ids (putL byPri l x)).Perm (x.1 :: ids l) := (putL_perm byPri l x).map Prod.fst

theorem rmL_sub (l : List (Int × Int)) (id : Int) : (rmL l id).Sublist l := by
  unfold rmL
  split
  · exact List.Sublist.refl _
  · rw [rmAt, ← List.eraseIdx_eq_take_drop_succ]
    exact List.eraseIdx_sublist ..

theorem rmL_none {l : List (Int × Int)} {id : Int} (h : atI l id < 0) : rmL l id = l := by rw [rmL, if_pos h]

theorem rmL_perm {l : List (Int × Int)} {id : Int} (h : 0 ≤ atI l id) : ∃ p, p.1 = id ∧ l.Perm (p :: rmL l id) := by
  obtain ⟨hlt, p, hp, hp1⟩ := atI_lt h
  refine ⟨p, hp1, ?_⟩
  rw [rmL, if_neg (by omega), rmAt]
  have hd : l.drop (atI l id).toNat = p :: l.drop ((atI l id).toNat + 1) := by
    rw [List.drop_eq_getElem_cons hlt]
    rw [List.getElem?_eq_getElem hlt] at hp
    cases hp
    rfl
  have h2 : l = l.take (atI l id).toNat ++ p :: l.drop ((atI l id).toNat + 1) := by rw [← hd, List.take_append_drop]
  exact (List.Perm.of_eq h2).trans List.perm_middle

/-- each once, each a task -/
def okL (l : List (Int × Int)) : Prop := (ids l).Nodup ∧ ∀ i ∈ ids l, 1 ≤ i ∧ i ≤ 16

theorem okL_nil : okL [] := ⟨List.nodup_nil, by simp⟩

theorem nodup_bound : ∀ (n : Nat) (l : List Int), l.Nodup → (∀ i ∈ l, 1 ≤ i ∧ i ≤ (n : Int)) → l.length ≤ n
  | 0, [], _, _ => Nat.le_refl _
  | 0, a :: l, _, h => by have := h a (List.mem_cons_self ..); omega
  | n + 1, l, hn, h => by
    by_cases ha : ((n : Int) + 1) ∈ l
    · have := nodup_bound n (l.erase ((n : Int) + 1)) (hn.erase _) (fun i hi => by
        have h1 := (List.Nodup.mem_erase_iff hn).1 hi
        have := h i h1.2
        omega)
      rw [List.length_erase_of_mem ha] at this
      omega
    · have := nodup_bound n l hn (fun i hi => by
        have h1 := h i hi
        have : i ≠ (n : Int) + 1 := fun e => ha (e ▸ hi)
        omega)
      omega

theorem okL_len {l : List (Int × Int)} (h : okL l) : l.length ≤ 16 := by
  have := nodup_bound 16 (ids l) h.1 h.2
  simpa using this

theorem okL_sub {l m : List (Int × Int)} (h : okL l) (hs : m.Sublist l) : okL m := by
  have := hs.map Prod.fst
  exact ⟨this.nodup h.1, fun i hi => h.2 i (this.subset hi)⟩

theorem okL_put {byPri : Bool} {l : List (Int × Int)} {x : Int × Int} (h : okL l) (h1 : 1 ≤ x.1 ∧ x.1 ≤ 16) (h2 : x.1 ∉ ids l) : okL (putL byPri l x) := by
  have hp := putL_ids (byPri := byPri) (l := l) (x := x)
  refine ⟨hp.nodup_iff.2 (List.nodup_cons.2 ⟨h2, h.1⟩), fun i hi => ?_⟩
  rcases List.mem_cons.1 (hp.mem_iff.1 hi) with rfl | hi
  · exact h1
  · exact h.2 i hi

theorem okL_tail {x : Int × Int} {l : List (Int × Int)} (h : okL (x :: l)) : okL l ∧ x.1 ∉ ids l ∧ 1 ≤ x.1 ∧ x.1 ≤ 16 := by
  have hn := List.nodup_cons.1 h.1
  exact ⟨⟨hn.2, fun i hi => h.2 i (List.mem_cons_of_mem _ hi)⟩, hn.1, h.2 x.1 (List.mem_cons_self ..)⟩

theorem okL_add {byPri : Bool} {l : List (Int × Int)} {id pri : Int} (h : okL l) : okL (addL byPri l id pri).2 := by
  unfold addL
  split
  · exact h
  · split
    · exact h
    · next h1 h2 => exact okL_put h (by simp only; omega) (atI_neg.1 (show atI l id < 0 by omega))

theorem addL_zero {byPri : Bool} {l : List (Int × Int)} {id pri : Int} (h : (addL byPri l id pri).1 = 0) : (1 ≤ id ∧ id ≤ 16) ∧ id ∉ ids l ∧ (addL byPri l id pri).2 = putL byPri l (id, pri) := by
  unfold addL at h ⊢
  split at h
  · cases h
  · next h1 =>
    split at h
    · cases h
    · next h2 => rw [if_neg h1, if_neg h2]; exact ⟨by omega, atI_neg.1 (by omega), rfl⟩

theorem addL_other {byPri : Bool} {l : List (Int × Int)} {id pri : Int} (h : (addL byPri l id pri).1 ≠ 0) : (addL byPri l id pri).2 = l := by
  unfold addL at h ⊢
  split at h
  · next h1 => rw [if_pos h1]
  · next h1 =>
    split at h
    · next h2 => rw [if_neg h1, if_pos h2]
    · exact absurd rfl h

theorem addL_mem {byPri : Bool} {l : List (Int × Int)} {id pri i : Int} (h : i ∈ ids (addL byPri l id pri).2) : ((addL byPri l id pri).1 = 0 ∧ i = id) ∨ i ∈ ids l := by
  by_cases h0 : (addL byPri l id pri).1 = 0
  · rw [(addL_zero h0).2.2] at h
    rcases List.mem_cons.1 (putL_ids.mem_iff.1 h) with h1 | h1
    · exact .inl ⟨h0, h1⟩
    · exact .inr h1
  · rw [addL_other h0] at h
    exact .inr h

theorem okL_rm {l : List (Int × Int)} {id : Int} (h : okL l) : okL (rmL l id) := okL_sub h (rmL_sub l id)

theorem rmL_ids {l : List (Int × Int)} {id : Int} (h : okL l) : id ∉ ids (rmL l id) := by
  by_cases h0 : 0 ≤ atI l id
  · obtain ⟨p, hp, hpm⟩ := rmL_perm h0
    have := (hpm.map Prod.fst).nodup_iff.1 h.1
    rw [List.map_cons, hp] at this
    exact (List.nodup_cons.1 this).1
  · have h1 : atI l id < 0 := by omega
    rw [rmL_none h1]
    exact atI_neg.1 h1

end Go.Proofs.YtenonfkfoedfmaaGreatDoor.B


/- Contracts of the package dtq. -/
namespace Go.Proofs.YtenonfkfoedfmaaGreatDoor.B
open Go
set_option linter.unusedVariables false

/-- a part of a row of whole numbers, copied -/
theorem Clone_subint {e w L s x vs R} {i j : Nat} (h : Ok e (slc 1 s vs :: L) w) (hx : SubOf s 1 i j x) (hj : j ≤ s.len) (hb : s.len ≤ 2 ^ 31) (k : ∀ s' w', s'.len = j - i → Ok e (slc 1 s' ((vs.take j).drop i) :: slc 1 s vs :: L) w' → R [vS s'] w') : sh70 x R w := by
  unfold sh70
  have hl := h.slc_len
  refine cs.mk (fun hn => ?_) (fun hn => ?_)
  · have hxa : x.a = none := by simpa using hn
    have hij : ¬ i < j := fun h2 => by
      obtain ⟨b, _, h3⟩ := hx.at' h2
      rw [hxa] at h3; cases h3
    have e1 : (vs.take j).drop i = [] := List.drop_eq_nil_of_le (by rw [List.length_take]; omega)
    have h2 := h.slcNil 1
    rw [e1] at k
    exact k ⟨none, 0, 0⟩ w (by simp only; omega) h2
  · refine al.mk h fun b w1 h => ?_
    have h := h.slcNew (n := 0) (sz := 1) rfl (by simp)
    refine ef.appendSub slT_int (by decide) h hx hj (by simp only; omega) fun s' w2 hl2 h => ?_
    rw [Nat.mul_one, Nat.mul_one, List.nil_append] at h
    exact k s' w2 (by simpa using hl2) h

theorem ints_drop (D : List Int) (n : Nat) : (ints D).drop n = ints (D.drop n) := by simp [ints, List.map_drop]

theorem ints_snoc (D : List Int) (d : Int) : ints D ++ [Value.int .i64 d] = ints (D ++ [d]) := by simp [ints]

theorem ints_tail {s : Sl} {D : List Int} (h : D.length = s.len) : ((ints D).take ((s.len : Int)).toNat).drop ((1 : Int)).toNat = ints D.tail := by
  rw [Int.toNat_natCast, List.take_of_length_le (by rw [ints_len]; omega), ints_drop]
  cases D <;> rfl

theorem slc_ints_len {e w L s D} (h : Ok e (slc 1 s (ints D) :: L) w) : D.length = s.len := by
  have := h.slc_len
  rw [ints_len] at this
  omega

/-- what a data queue has -/
structure DQ where
  S : List (Int × Int)
  V : List (Int × Int)
  D : List Int
  g : Int → Int

def DQ.ok (room : Int) (q : DQ) : Prop := okL q.S ∧ okL q.V ∧ (q.D.length : Int) ≤ room ∧ room ≤ 64

def dqNew : DQ := ⟨[], [], [], fun _ => 0⟩

def DQ.trySend (room : Int) (q : DQ) (d : Int) : (Bool × Int) × DQ :=
  match q.V with
  | x :: r => ((true, x.1), ⟨q.S, r, q.D, q.g⟩)
  | [] => if (q.D.length : Int) ≥ room then ((false, 0), q) else ((true, 0), ⟨q.S, [], q.D ++ [d], q.g⟩)

def DQ.send (byPri : Bool) (room : Int) (q : DQ) (task pri d : Int) : (Bool × Int × Int) × DQ :=
  if (q.trySend room d).1.1 then ((true, (q.trySend room d).1.2, 0), (q.trySend room d).2)
  else ((false, 0, (addL byPri q.S task pri).1), ⟨(addL byPri q.S task pri).2, q.V, q.D, if (addL byPri q.S task pri).1 = 0 then fun i => if i = task then d else q.g i else q.g⟩)

def DQ.tryRecv (q : DQ) : (Int × Bool × Int) × DQ :=
  match q.D, q.S with
  | d :: D, x :: r => ((d, true, x.1), ⟨r, q.V, D ++ [q.g x.1], q.g⟩)
  | d :: D, [] => ((d, true, 0), ⟨[], q.V, D, q.g⟩)
  | [], x :: r => ((q.g x.1, true, x.1), ⟨r, q.V, [], q.g⟩)
  | [], [] => ((0, false, 0), q)

def DQ.recv (q : DQ) (task pri : Int) : ((Int × Bool × Int) × Int) × DQ :=
  if q.tryRecv.1.2.1 then ((q.tryRecv.1, 0), q.tryRecv.2) else (((0, false, 0), (addL false q.V task pri).1), ⟨q.S, (addL false q.V task pri).2, q.D, q.g⟩)

def DQ.force (room : Int) (q : DQ) (d : Int) : (Int × Int) × DQ :=
  if room = 0 then ((0, -28), q)
  else if (q.trySend room d).1.1 then (((q.trySend room d).1.2, 0), (q.trySend room d).2)
  else ((0, 0), ⟨q.S, q.V, q.D.tail ++ [d], q.g⟩)

def DQ.drop (q : DQ) (task : Int) : Bool × DQ :=
  if 0 ≤ atI q.S task then (true, ⟨rmL q.S task, q.V, q.D, q.g⟩) else (decide (0 ≤ atI q.V task), ⟨q.S, rmL q.V task, q.D, q.g⟩)

def DQ.change (byPri : Bool) (q : DQ) (task pri : Int) : Bool × DQ :=
  if (chgL byPri q.S task pri).1 then (true, ⟨(chgL byPri q.S task pri).2, q.V, q.D, q.g⟩) else ((chgL false q.V task pri).1, ⟨q.S, (chgL false q.V task pri).2, q.D, q.g⟩)

theorem dqNew_ok {room : Int} (h : 0 ≤ room ∧ room ≤ 64) : dqNew.ok room := ⟨okL_nil, okL_nil, h.1, h.2⟩

theorem trySend_ok {room q d} (h : DQ.ok room q) : DQ.ok room (q.trySend room d).2 := by
  obtain ⟨h1, h2, h3, h4⟩ := h
  unfold DQ.trySend
  split
  · next x r he => rw [he] at h2; exact ⟨h1, (okL_tail h2).1, h3, h4⟩
  · next he =>
    split
    · exact ⟨h1, h2, h3, h4⟩
    · exact ⟨h1, okL_nil, by simp only [List.length_append, List.length_singleton]; omega, h4⟩

theorem tryRecv_ok {room q} (h : DQ.ok room q) : DQ.ok room q.tryRecv.2 := by
  obtain ⟨h1, h2, h3, h4⟩ := h
  unfold DQ.tryRecv
  split
  · next d D x r hD hS => rw [hS] at h1; rw [hD] at h3; exact ⟨(okL_tail h1).1, h2, by simp at h3 ⊢; omega, h4⟩
  · next d D hD hS => rw [hD] at h3; exact ⟨okL_nil, h2, by simp at h3 ⊢; omega, h4⟩
  · next x r hD hS => rw [hS] at h1; rw [hD] at h3; exact ⟨(okL_tail h1).1, h2, h3, h4⟩
  · exact ⟨h1, h2, h3, h4⟩

def heldF (S : List (Int × Int)) (g : Int → Int) (f : Int → Option Value) : Prop := ∀ i ∈ ids S, f i = some (.int .i64 (g i))

def dtqP (b : Nat) (byPri : Bool) (room : Int) (q : DQ) : SP := fun h => ∃ p r s m, ∃ f : Int → Option Value, heldF q.S q.g f ∧
  oksH [pts b [.pointer (some ⟨p, 0, none⟩), .pointer (some ⟨r, 0, none⟩), .int .i64 room, vS s, .map (some m)], lineP p [.bool byPri] q.S, lineP r [.bool false] q.V, slc 1 s (ints q.D), mpP m f] h

theorem dtqE {e w L b byPri room q} (h : Ok e (dtqP b byPri room q :: L) w) : ∃ p r s m, ∃ f : Int → Option Value, heldF q.S q.g f ∧ q.D.length = s.len ∧
    Ok e (pts b [.pointer (some ⟨p, 0, none⟩), .pointer (some ⟨r, 0, none⟩), .int .i64 room, vS s, .map (some m)] :: lineP p [.bool byPri] q.S :: lineP r [.bool false] q.V :: slc 1 s (ints q.D) :: mpP m f :: L) w := by
  obtain ⟨p, h⟩ := h.exE
  obtain ⟨r, h⟩ := h.exE
  obtain ⟨s, h⟩ := h.exE
  obtain ⟨m, h⟩ := h.exE
  obtain ⟨f, h⟩ := h.exE
  obtain ⟨hf, h⟩ := h.pureE
  have h := h.unpack
  exact ⟨p, r, s, m, f, hf, slc_ints_len h.p3, h⟩

theorem dtqI {e w L b byPri room q p r s m f} (hf : heldF q.S q.g f) (h : Ok e (pts b [.pointer (some ⟨p, 0, none⟩), .pointer (some ⟨r, 0, none⟩), .int .i64 room, vS s, .map (some m)] :: lineP p [.bool byPri] q.S :: lineP r [.bool false] q.V :: slc 1 s (ints q.D) :: mpP m f :: L) w) : Ok e (dtqP b byPri room q :: L) w :=
  (Ok.pack (M := [pts b [.pointer (some ⟨p, 0, none⟩), .pointer (some ⟨r, 0, none⟩), .int .i64 room, vS s, .map (some m)], lineP p [.bool byPri] q.S, lineP r [.bool false] q.V, slc 1 s (ints q.D), mpP m f]) h).imp fun k hk => ⟨p, r, s, m, f, hf, hk⟩

theorem mapT_ii : MapT Pg 294 (.int .i64 0) := .of (by kernel_rfl)

theorem New_dtq {e w L byPri room R} (h : Ok e L w) (k0 : ¬ (0 ≤ room ∧ room ≤ 64) → R [.pointer none, .int .i64 (-17)] w) (k1 : 0 ≤ room ∧ room ≤ 64 → ∀ b w', Ok e (dtqP b byPri room dqNew :: L) w' → R [.pointer (some ⟨b, 0, none⟩), .int .i64 0] w') : sh179 byPri room R w := by
  unfold sh179
  refine jn.bool (decide (¬ (0 ≤ room ∧ room ≤ 64))) (fun J hJ => cs.mk (fun h1 => ?_) (fun h1 => ?_)) ?_
  · have h1 := of_decide_eq_true h1
    rw [decide_eq_true (by omega)] at hJ
    exact hJ
  · have h1 := of_decide_eq_false h1
    rw [show decide (room > 64) = decide (¬ (0 ≤ room ∧ room ≤ 64)) from decide_eq_decide.2 (by omega)]
    exact hJ
  refine cs.mk (fun h1 => k0 (of_decide_eq_true h1)) (fun h1 => ?_)
  have h1 : 0 ≤ room ∧ room ≤ 64 := Decidable.not_not.1 (of_decide_eq_false h1)
  refine call44 (New_order h fun p w1 h => ⟨(some ⟨p, 0, none⟩, ()), rfl, ?_⟩)
  refine call44 (New_order h fun r w2 h => ⟨(some ⟨r, 0, none⟩, ()), rfl, ?_⟩)
  refine ef.makeMap h fun m w3 h => ?_
  refine al.mk h fun b w4 h => k1 h1 b w4 ?_
  refine dtqI (p := p) (r := r) (s := ⟨none, 0, 0⟩) (m := m) (f := fun _ => none) (q := dqNew) (fun i hi => by simp [dqNew] at hi) ?_
  have h := h.slcNil 1
  have h := (Ok.emb (h) (.cons (A := pts b _) (by with_reducible first | exact sl0 | exact .there sl0 | exact .there sl1 | exact .there sl2 | exact .there sl3 | exact .there sl4 | exact .there sl5 | exact .there sl6 | exact .there sl7 | exact .there sl8 | exact .there sl9 | exact .there sl10 | exact .there sl11 | exact .there sl12) (.cons (A := lineP p _ _) (by with_reducible first | exact sl0 | exact .there sl0 | exact .there sl1 | exact .there sl2 | exact .there sl3 | exact .there sl4 | exact .there sl5 | exact .there sl6 | exact .there sl7 | exact .there sl8 | exact .there sl9 | exact .there sl10 | exact .there sl11 | exact .there sl12) (.cons (A := lineP r _ _) (by with_reducible first | exact sl0 | exact .there sl0 | exact .there sl1 | exact .there sl2 | exact .there sl3 | exact .there sl4 | exact .there sl5 | exact .there sl6 | exact .there sl7 | exact .there sl8 | exact .there sl9 | exact .there sl10 | exact .there sl11 | exact .there sl12) (.cons (A := slc 1 _ _) (by with_reducible first | exact sl0 | exact .there sl0 | exact .there sl1 | exact .there sl2 | exact .there sl3 | exact .there sl4 | exact .there sl5 | exact .there sl6 | exact .there sl7 | exact .there sl8 | exact .there sl9 | exact .there sl10 | exact .there sl11 | exact .there sl12) (.cons (A := mpP m _) (by with_reducible first | exact sl0 | exact .there sl0 | exact .there sl1 | exact .there sl2 | exact .there sl3 | exact .there sl4 | exact .there sl5 | exact .there sl6 | exact .there sl7 | exact .there sl8 | exact .there sl9 | exact .there sl10 | exact .there sl11 | exact .there sl12) (.same _)))))))
  exact h

theorem TrySend_dtq {e w L b byPri room q d R} (h : Ok e (dtqP b byPri room q :: L) w) (ho : q.ok room)
    (k : ∀ w', Ok e (dtqP b byPri room (q.trySend room d).2 :: L) w' → R [.bool (q.trySend room d).1.1, .int .i64 (q.trySend room d).1.2] w') : sh151 (some ⟨b, 0, none⟩) d R w := by
  unfold sh151
  unfold DQ.trySend at k
  obtain ⟨h1, h2, h3, h4⟩ := ho
  have l2 := okL_len h2
  have h0 := h
  obtain ⟨p, r, s, m, f, hf, hs, h⟩ := dtqE h
  refine nn.mk (ldP.mk (by refine Ok.cellS h (by with_reducible first | exact sl0 | exact .there sl0 | exact .there sl1 | exact .there sl2 | exact .there sl3 | exact .there sl4 | exact .there sl5 | exact .there sl6 | exact .there sl7 | exact .there sl8 | exact .there sl9 | exact .there sl10 | exact .there sl11 | exact .there sl12) ?_; rfl) ?_)
  refine call214 (Take_order (Ok.emb (h) (.cons (A := lineP r _ _) (by with_reducible first | exact sl0 | exact .there sl0 | exact .there sl1 | exact .there sl2 | exact .there sl3 | exact .there sl4 | exact .there sl5 | exact .there sl6 | exact .there sl7 | exact .there sl8 | exact .there sl9 | exact .there sl10 | exact .there sl11 | exact .there sl12) (.same _))) (by omega) fun w1 h => ⟨(((q.V.head?.getD (0, 0)).1, (q.V.head?.getD (0, 0)).2, ()), !q.V.isEmpty, ()), rfl, ?_⟩)
  refine al.mk h fun c w2 h => st1.mk h (by simp) fun w3 h => st1.mk h (by simp) fun w4 h => ?_
  dsimp only
  obtain ⟨S, V, D, g⟩ := q
  dsimp only at *
  cases V with
  | cons x V =>
    refine cs.yes rfl (dr.mk h fun w5 h => ldI.mk (h.cell rfl) (k w5 ?_))
    exact dtqI (q := ⟨S, V, D, g⟩) hf (h.emb (by repeat' (first | with_reducible exact Emb.same _ | exact Emb.nil _ | refine Emb.cons (by with_reducible first | exact sl0 | exact .there sl0 | exact .there sl1 | exact .there sl2 | exact .there sl3 | exact .there sl4 | exact .there sl5 | exact .there sl6 | exact .there sl7 | exact .there sl8 | exact .there sl9 | exact .there sl10 | exact .there sl11 | exact .there sl12) ?_ | refine Emb.skip ?_)))
  | nil =>
    refine cs.no rfl (dr.mk h fun w5 h => ?_)
    refine nn.mk (ldS.mk (by refine Ok.cellS h (by with_reducible first | exact sl0 | exact .there sl0 | exact .there sl1 | exact .there sl2 | exact .there sl3 | exact .there sl4 | exact .there sl5 | exact .there sl6 | exact .there sl7 | exact .there sl8 | exact .there sl9 | exact .there sl10 | exact .there sl11 | exact .there sl12) ?_; rfl) (nn.mk (ldI.mk (by refine Ok.cellS h (by with_reducible first | exact sl0 | exact .there sl0 | exact .there sl1 | exact .there sl2 | exact .there sl3 | exact .there sl4 | exact .there sl5 | exact .there sl6 | exact .there sl7 | exact .there sl8 | exact .there sl9 | exact .there sl10 | exact .there sl11 | exact .there sl12) ?_; rfl) ?_)))
    refine cs.mk (fun hc => ?_) (fun hc => ?_)
    · have hc := of_decide_eq_true hc
      rw [← hs] at hc
      simp only [if_pos hc] at k
      exact k w5 (dtqI (q := ⟨S, [], D, g⟩) hf (h.emb (by repeat' (first | with_reducible exact Emb.same _ | exact Emb.nil _ | refine Emb.cons (by with_reducible first | exact sl0 | exact .there sl0 | exact .there sl1 | exact .there sl2 | exact .there sl3 | exact .there sl4 | exact .there sl5 | exact .there sl6 | exact .there sl7 | exact .there sl8 | exact .there sl9 | exact .there sl10 | exact .there sl11 | exact .there sl12) ?_ | refine Emb.skip ?_))))
    · have hc := of_decide_eq_false hc
      rw [← hs] at hc
      simp only [if_neg hc] at k
      refine nn.mk (ldS.mk (by refine Ok.cellS h (by with_reducible first | exact sl0 | exact .there sl0 | exact .there sl1 | exact .there sl2 | exact .there sl3 | exact .there sl4 | exact .there sl5 | exact .there sl6 | exact .there sl7 | exact .there sl8 | exact .there sl9 | exact .there sl10 | exact .there sl11 | exact .there sl12) ?_; rfl) ?_)
      refine al.mk h fun c2 w6 h => ?_
      refine ef.append1 (n := 1) slT_int (by decide) (Ok.emb (h) (.cons (A := pts c2 _) (by with_reducible first | exact sl0 | exact .there sl0 | exact .there sl1 | exact .there sl2 | exact .there sl3 | exact .there sl4 | exact .there sl5 | exact .there sl6 | exact .there sl7 | exact .there sl8 | exact .there sl9 | exact .there sl10 | exact .there sl11 | exact .there sl12) (.cons (A := slc 1 s _) (by with_reducible first | exact sl0 | exact .there sl0 | exact .there sl1 | exact .there sl2 | exact .there sl3 | exact .there sl4 | exact .there sl5 | exact .there sl6 | exact .there sl7 | exact .there sl8 | exact .there sl9 | exact .there sl10 | exact .there sl11 | exact .there sl12) (.same _)))) rfl (by intro v hv; simp at hv; subst hv; rfl) (by omega) fun s2 w7 hl2 h => ?_
      refine nn.mk (st1.mk (Ok.emb (h) (.cons (A := pts b _) (by with_reducible first | exact sl0 | exact .there sl0 | exact .there sl1 | exact .there sl2 | exact .there sl3 | exact .there sl4 | exact .there sl5 | exact .there sl6 | exact .there sl7 | exact .there sl8 | exact .there sl9 | exact .there sl10 | exact .there sl11 | exact .there sl12) (.same _))) (by simp) fun w8 h => k w8 ?_)
      rw [ints_snoc] at h
      dsimp only [List.set, List.tail_cons, List.tail_nil, List.head?_cons, List.head?_nil, Option.getD_some, Option.getD_none] at h
      exact dtqI (q := ⟨S, [], D ++ [d], g⟩) (s := s2) (p := p) (r := r) (m := m) hf (h.emb (by repeat' (first | with_reducible exact Emb.same _ | exact Emb.nil _ | refine Emb.cons (by with_reducible first | exact sl0 | exact .there sl0 | exact .there sl1 | exact .there sl2 | exact .there sl3 | exact .there sl4 | exact .there sl5 | exact .there sl6 | exact .there sl7 | exact .there sl8 | exact .there sl9 | exact .there sl10 | exact .there sl11 | exact .there sl12) ?_ | refine Emb.skip ?_)))

theorem next_dtq {e w L b byPri room q R} (h : Ok e (dtqP b byPri room q :: L) w) (ho : q.ok room)
    (k0 : q.S = [] → ∀ w', Ok e (dtqP b byPri room q :: L) w' → R [.int .i64 0, .int .i64 0, .bool false] w')
    (k1 : ∀ x r, q.S = x :: r → ∀ w', Ok e (dtqP b byPri room ⟨r, q.V, q.D, q.g⟩ :: L) w' → R [.int .i64 (q.g x.1), .int .i64 x.1, .bool true] w') : sh218 (some ⟨b, 0, none⟩) R w := by
  unfold sh218
  obtain ⟨h1, h2, h3, h4⟩ := ho
  have l1 := okL_len h1
  obtain ⟨p, r, s, m, f, hf, hs, h⟩ := dtqE h
  obtain ⟨S, V, D, g⟩ := q
  dsimp only at *
  refine nn.mk (ldP.mk (by refine Ok.cellS h (by with_reducible first | exact sl0 | exact .there sl0 | exact .there sl1 | exact .there sl2 | exact .there sl3 | exact .there sl4 | exact .there sl5 | exact .there sl6 | exact .there sl7 | exact .there sl8 | exact .there sl9 | exact .there sl10 | exact .there sl11 | exact .there sl12) ?_; rfl) ?_)
  refine call214 (Take_order (Ok.emb (h) (.cons (A := lineP p _ _) (by with_reducible first | exact sl0 | exact .there sl0 | exact .there sl1 | exact .there sl2 | exact .there sl3 | exact .there sl4 | exact .there sl5 | exact .there sl6 | exact .there sl7 | exact .there sl8 | exact .there sl9 | exact .there sl10 | exact .there sl11 | exact .there sl12) (.same _))) (by omega) fun w1 h => ⟨(((S.head?.getD (0, 0)).1, (S.head?.getD (0, 0)).2, ()), !S.isEmpty, ()), rfl, ?_⟩)
  refine al.mk h fun c w2 h => st1.mk h (by simp) fun w3 h => st1.mk h (by simp) fun w4 h => ?_
  dsimp only
  cases S with
  | nil => exact cs.yes rfl (k0 rfl w4 (dtqI (q := ⟨[], V, D, g⟩) hf (h.emb (by repeat' (first | with_reducible exact Emb.same _ | exact Emb.nil _ | refine Emb.cons (by with_reducible first | exact sl0 | exact .there sl0 | exact .there sl1 | exact .there sl2 | exact .there sl3 | exact .there sl4 | exact .there sl5 | exact .there sl6 | exact .there sl7 | exact .there sl8 | exact .there sl9 | exact .there sl10 | exact .there sl11 | exact .there sl12) ?_ | refine Emb.skip ?_)))))
  | cons x S =>
    refine cs.no rfl (dr.mk h fun w5 h => nn.mk (ldM.mk (by refine Ok.cellS h (by with_reducible first | exact sl0 | exact .there sl0 | exact .there sl1 | exact .there sl2 | exact .there sl3 | exact .there sl4 | exact .there sl5 | exact .there sl6 | exact .there sl7 | exact .there sl8 | exact .there sl9 | exact .there sl10 | exact .there sl11 | exact .there sl12) ?_; rfl) (ldI.mk (by refine Ok.cellS h (by with_reducible first | exact sl0 | exact .there sl0 | exact .there sl1 | exact .there sl2 | exact .there sl3 | exact .there sl4 | exact .there sl5 | exact .there sl6 | exact .there sl7 | exact .there sl8 | exact .there sl9 | exact .there sl10 | exact .there sl11 | exact .there sl12) ?_; rfl) ?_)))
    refine ef.lookup mapT_ii (Ok.emb (h) (.cons (A := mpP m f) (by with_reducible first | exact sl0 | exact .there sl0 | exact .there sl1 | exact .there sl2 | exact .there sl3 | exact .there sl4 | exact .there sl5 | exact .there sl6 | exact .there sl7 | exact .there sl8 | exact .there sl9 | exact .there sl10 | exact .there sl11 | exact .there sl12) (.same _))) ((g x.1 : Int), ()) (by show _ = (f x.1).getD _; rw [hf x.1 (List.mem_cons_self ..)]; rfl) ?_
    refine dr.mk h fun w6 h => nn.mk (ldM.mk (by refine Ok.cellS h (by with_reducible first | exact sl0 | exact .there sl0 | exact .there sl1 | exact .there sl2 | exact .there sl3 | exact .there sl4 | exact .there sl5 | exact .there sl6 | exact .there sl7 | exact .there sl8 | exact .there sl9 | exact .there sl10 | exact .there sl11 | exact .there sl12) ?_; rfl) (ldI.mk (by refine Ok.cellS h (by with_reducible first | exact sl0 | exact .there sl0 | exact .there sl1 | exact .there sl2 | exact .there sl3 | exact .there sl4 | exact .there sl5 | exact .there sl6 | exact .there sl7 | exact .there sl8 | exact .there sl9 | exact .there sl10 | exact .there sl11 | exact .there sl12) ?_; rfl) ?_))
    refine ef.delete mapT_ii (Ok.emb (h) (.cons (A := mpP m f) (by with_reducible first | exact sl0 | exact .there sl0 | exact .there sl1 | exact .there sl2 | exact .there sl3 | exact .there sl4 | exact .there sl5 | exact .there sl6 | exact .there sl7 | exact .there sl8 | exact .there sl9 | exact .there sl10 | exact .there sl11 | exact .there sl12) (.same _))) fun w7 h => dr.mk h fun w8 h => ldI.mk (by refine Ok.cellS h (by with_reducible first | exact sl0 | exact .there sl0 | exact .there sl1 | exact .there sl2 | exact .there sl3 | exact .there sl4 | exact .there sl5 | exact .there sl6 | exact .there sl7 | exact .there sl8 | exact .there sl9 | exact .there sl10 | exact .there sl11 | exact .there sl12) ?_; rfl) (k1 x S rfl w8 ?_)
    have ht := okL_tail h1
    refine dtqI (q := ⟨S, V, D, g⟩) (fun i hi => ?_) (h.emb (by repeat' (first | with_reducible exact Emb.same _ | exact Emb.nil _ | refine Emb.cons (by with_reducible first | exact sl0 | exact .there sl0 | exact .there sl1 | exact .there sl2 | exact .there sl3 | exact .there sl4 | exact .there sl5 | exact .there sl6 | exact .there sl7 | exact .there sl8 | exact .there sl9 | exact .there sl10 | exact .there sl11 | exact .there sl12) ?_ | refine Emb.skip ?_)))
    have hne : i ≠ x.1 := fun he => ht.2.1 (he ▸ hi)
    simp only [List.head?_cons, Option.getD_some]
    rw [upd_other hne]
    exact hf i (List.mem_cons_of_mem _ hi)

end Go.Proofs.YtenonfkfoedfmaaGreatDoor.B


/- Contracts of the package dtq: receiving, forcing, dropping, what is told. -/
namespace Go.Proofs.YtenonfkfoedfmaaGreatDoor.B
open Go
set_option linter.unusedVariables false

theorem TryRecv_dtq {e w L b byPri room q R} (h : Ok e (dtqP b byPri room q :: L) w) (ho : q.ok room)
    (k : ∀ w', Ok e (dtqP b byPri room q.tryRecv.2 :: L) w' → R [.agg #[.int .i64 q.tryRecv.1.1, .bool q.tryRecv.1.2.1, .int .i64 q.tryRecv.1.2.2]] w') : sh153 (some ⟨b, 0, none⟩) R w := by
  unfold sh153
  unfold DQ.tryRecv at k
  refine al.mk h fun c w1 h => ?_
  have h0 := h.p1
  obtain ⟨p, r, s, m, f, hf, hs, h⟩ := dtqE h0
  obtain ⟨S, V, D, g⟩ := q
  dsimp only at *
  refine nn.mk (ldS.mk (by refine Ok.cellS h (by with_reducible first | exact sl0 | exact .there sl0 | exact .there sl1 | exact .there sl2 | exact .there sl3 | exact .there sl4 | exact .there sl5 | exact .there sl6 | exact .there sl7 | exact .there sl8 | exact .there sl9 | exact .there sl10 | exact .there sl11 | exact .there sl12) ?_; rfl) ?_)
  cases D with
  | nil =>
    refine cs.yes (by simp at hs; simp [← hs]) ?_
    refine call218 (next_dtq h0 ho (fun hS w2 h => ⟨((0 : Int), (0 : Int), false, ()), rfl, ?_⟩) (fun x S' hS w2 h => ⟨((g x.1 : Int), (x.1 : Int), true, ()), rfl, ?_⟩))
    · dsimp only at hS
      subst hS
      dsimp only at k ⊢
      (repeat (first | with_reducible refine dr.mk h fun _ h => ?_ | with_reducible refine nn.mk ?_ | ((first | with_reducible apply ldI.mk | with_reducible apply ldB.mk | with_reducible apply ldP.mk | with_reducible apply ldS.mk | with_reducible apply ldM.mk | with_reducible apply ldF.mk | with_reducible apply ldG.mk); (· exact (by refine Ok.cellS h (by with_reducible first | exact sl0 | exact .there sl0 | exact .there sl1 | exact .there sl2 | exact .there sl3 | exact .there sl4 | exact .there sl5 | exact .there sl6 | exact .there sl7 | exact .there sl8 | exact .there sl9 | exact .there sl10 | exact .there sl11 | exact .there sl12) ?_; rfl))) | (refine st1.mk (Ok.bring h (by with_reducible first | exact sl0 | exact .there sl0 | exact .there sl1 | exact .there sl2 | exact .there sl3 | exact .there sl4 | exact .there sl5 | exact .there sl6 | exact .there sl7 | exact .there sl8 | exact .there sl9 | exact .there sl10 | exact .there sl11 | exact .there sl12)) (by simp) fun _ h => ?_; dsimp only [List.set] at h)))
      exact k _ (h.emb (by repeat' (first | with_reducible exact Emb.same _ | exact Emb.nil _ | refine Emb.cons (by with_reducible first | exact sl0 | exact .there sl0 | exact .there sl1 | exact .there sl2 | exact .there sl3 | exact .there sl4 | exact .there sl5 | exact .there sl6 | exact .there sl7 | exact .there sl8 | exact .there sl9 | exact .there sl10 | exact .there sl11 | exact .there sl12) ?_ | refine Emb.skip ?_)))
    · dsimp only at hS
      subst hS
      dsimp only at k ⊢
      (repeat (first | with_reducible refine dr.mk h fun _ h => ?_ | with_reducible refine nn.mk ?_ | ((first | with_reducible apply ldI.mk | with_reducible apply ldB.mk | with_reducible apply ldP.mk | with_reducible apply ldS.mk | with_reducible apply ldM.mk | with_reducible apply ldF.mk | with_reducible apply ldG.mk); (· exact (by refine Ok.cellS h (by with_reducible first | exact sl0 | exact .there sl0 | exact .there sl1 | exact .there sl2 | exact .there sl3 | exact .there sl4 | exact .there sl5 | exact .there sl6 | exact .there sl7 | exact .there sl8 | exact .there sl9 | exact .there sl10 | exact .there sl11 | exact .there sl12) ?_; rfl))) | (refine st1.mk (Ok.bring h (by with_reducible first | exact sl0 | exact .there sl0 | exact .there sl1 | exact .there sl2 | exact .there sl3 | exact .there sl4 | exact .there sl5 | exact .there sl6 | exact .there sl7 | exact .there sl8 | exact .there sl9 | exact .there sl10 | exact .there sl11 | exact .there sl12)) (by simp) fun _ h => ?_; dsimp only [List.set] at h)))
      exact k _ (h.emb (by repeat' (first | with_reducible exact Emb.same _ | exact Emb.nil _ | refine Emb.cons (by with_reducible first | exact sl0 | exact .there sl0 | exact .there sl1 | exact .there sl2 | exact .there sl3 | exact .there sl4 | exact .there sl5 | exact .there sl6 | exact .there sl7 | exact .there sl8 | exact .there sl9 | exact .there sl10 | exact .there sl11 | exact .there sl12) ?_ | refine Emb.skip ?_)))
  | cons d D =>
    simp only [List.length_cons] at hs
    have hD := ho.2.2
    simp only [List.length_cons] at hD
    refine cs.no (by simp; omega) ?_
    refine nn.mk (ldS.mk (by refine Ok.cellS h (by with_reducible first | exact sl0 | exact .there sl0 | exact .there sl1 | exact .there sl2 | exact .there sl3 | exact .there sl4 | exact .there sl5 | exact .there sl6 | exact .there sl7 | exact .there sl8 | exact .there sl9 | exact .there sl10 | exact .there sl11 | exact .there sl12) ?_; rfl) ?_)
    refine ix_int (Ok.emb (h) (.cons (A := slc 1 s (ints (d :: D))) (by with_reducible first | exact sl0 | exact .there sl0 | exact .there sl1 | exact .there sl2 | exact .there sl3 | exact .there sl4 | exact .there sl5 | exact .there sl6 | exact .there sl7 | exact .there sl8 | exact .there sl9 | exact .there sl10 | exact .there sl11 | exact .there sl12) (.same _))) (Int.le_refl _) (by omega) fun c1 o x hx hc => ldI.mk (hc _ ⟨_, (Ok.emb (h) (.cons (A := slc 1 s (ints (d :: D))) (by with_reducible first | exact sl0 | exact .there sl0 | exact .there sl1 | exact .there sl2 | exact .there sl3 | exact .there sl4 | exact .there sl5 | exact .there sl6 | exact .there sl7 | exact .there sl8 | exact .there sl9 | exact .there sl10 | exact .there sl11 | exact .there sl12) (.same _)))⟩) ?_
    simp at hx
    subst hx
    clear hc
    refine al.mk h fun c2 w2 h => ?_
    (repeat (first | with_reducible refine dr.mk h fun _ h => ?_ | with_reducible refine nn.mk ?_ | ((first | with_reducible apply ldI.mk | with_reducible apply ldB.mk | with_reducible apply ldP.mk | with_reducible apply ldS.mk | with_reducible apply ldM.mk | with_reducible apply ldF.mk | with_reducible apply ldG.mk); (· exact (by refine Ok.cellS h (by with_reducible first | exact sl0 | exact .there sl0 | exact .there sl1 | exact .there sl2 | exact .there sl3 | exact .there sl4 | exact .there sl5 | exact .there sl6 | exact .there sl7 | exact .there sl8 | exact .there sl9 | exact .there sl10 | exact .there sl11 | exact .there sl12) ?_; rfl))) | (refine st1.mk (Ok.bring h (by with_reducible first | exact sl0 | exact .there sl0 | exact .there sl1 | exact .there sl2 | exact .there sl3 | exact .there sl4 | exact .there sl5 | exact .there sl6 | exact .there sl7 | exact .there sl8 | exact .there sl9 | exact .there sl10 | exact .there sl11 | exact .there sl12)) (by simp) fun _ h => ?_; dsimp only [List.set] at h)))
    refine sb_sub (Ok.emb (h) (.cons (A := slc 1 s (ints (d :: D))) (by with_reducible first | exact sl0 | exact .there sl0 | exact .there sl1 | exact .there sl2 | exact .there sl3 | exact .there sl4 | exact .there sl5 | exact .there sl6 | exact .there sl7 | exact .there sl8 | exact .there sl9 | exact .there sl10 | exact .there sl11 | exact .there sl12) (.same _))) (by omega) (by omega) (Int.le_refl _) fun y hy => ?_
    refine call70 (Clone_subint (Ok.emb (h) (.cons (A := slc 1 s (ints (d :: D))) (by with_reducible first | exact sl0 | exact .there sl0 | exact .there sl1 | exact .there sl2 | exact .there sl3 | exact .there sl4 | exact .there sl5 | exact .there sl6 | exact .there sl7 | exact .there sl8 | exact .there sl9 | exact .there sl10 | exact .there sl11 | exact .there sl12) (.same _))) hy (by omega) (by omega) fun s2 w3 hl2 h => ⟨(s2, ()), rfl, ?_⟩)
    rw [ints_tail (by simp only [List.length_cons]; omega)] at h
    dsimp only
    refine nn.mk (st1.mk (Ok.emb (h) (.cons (A := pts b _) (by with_reducible first | exact sl0 | exact .there sl0 | exact .there sl1 | exact .there sl2 | exact .there sl3 | exact .there sl4 | exact .there sl5 | exact .there sl6 | exact .there sl7 | exact .there sl8 | exact .there sl9 | exact .there sl10 | exact .there sl11 | exact .there sl12) (.same _))) (by simp) fun w4 h => ?_)
    dsimp only [List.set, List.tail_cons, List.tail_nil, List.head?_cons, List.head?_nil, Option.getD_some, Option.getD_none] at h
    have ho2 : DQ.ok room ⟨S, V, D, g⟩ := ⟨ho.1, ho.2.1, by show (D.length : Int) ≤ room; omega, hD.2⟩
    have h := dtqI (q := ⟨S, V, D, g⟩) (s := s2) hf (L := pts c2 _ :: pts c _ :: L) (h.emb (by repeat' (first | with_reducible exact Emb.same _ | exact Emb.nil _ | refine Emb.cons (by with_reducible first | exact sl0 | exact .there sl0 | exact .there sl1 | exact .there sl2 | exact .there sl3 | exact .there sl4 | exact .there sl5 | exact .there sl6 | exact .there sl7 | exact .there sl8 | exact .there sl9 | exact .there sl10 | exact .there sl11 | exact .there sl12) ?_ | refine Emb.skip ?_)))
    have h0 := h
    refine call218 (next_dtq h0 ho2 (fun hS w2 h => ⟨((0 : Int), (0 : Int), false, ()), rfl, ?_⟩) (fun x S' hS w2 h => ⟨((g x.1 : Int), (x.1 : Int), true, ()), rfl, ?_⟩))
    · dsimp only at hS
      subst hS
      dsimp only at k ⊢
      refine cs.no rfl ?_
      (repeat (first | with_reducible refine dr.mk h fun _ h => ?_ | with_reducible refine nn.mk ?_ | ((first | with_reducible apply ldI.mk | with_reducible apply ldB.mk | with_reducible apply ldP.mk | with_reducible apply ldS.mk | with_reducible apply ldM.mk | with_reducible apply ldF.mk | with_reducible apply ldG.mk); (· exact (by refine Ok.cellS h (by with_reducible first | exact sl0 | exact .there sl0 | exact .there sl1 | exact .there sl2 | exact .there sl3 | exact .there sl4 | exact .there sl5 | exact .there sl6 | exact .there sl7 | exact .there sl8 | exact .there sl9 | exact .there sl10 | exact .there sl11 | exact .there sl12) ?_; rfl))) | (refine st1.mk (Ok.bring h (by with_reducible first | exact sl0 | exact .there sl0 | exact .there sl1 | exact .there sl2 | exact .there sl3 | exact .there sl4 | exact .there sl5 | exact .there sl6 | exact .there sl7 | exact .there sl8 | exact .there sl9 | exact .there sl10 | exact .there sl11 | exact .there sl12)) (by simp) fun _ h => ?_; dsimp only [List.set] at h)))
      exact k _ (h.emb (by repeat' (first | with_reducible exact Emb.same _ | exact Emb.nil _ | refine Emb.cons (by with_reducible first | exact sl0 | exact .there sl0 | exact .there sl1 | exact .there sl2 | exact .there sl3 | exact .there sl4 | exact .there sl5 | exact .there sl6 | exact .there sl7 | exact .there sl8 | exact .there sl9 | exact .there sl10 | exact .there sl11 | exact .there sl12) ?_ | refine Emb.skip ?_)))
    · dsimp only at hS
      subst hS
      dsimp only at k ⊢
      refine cs.yes rfl ?_
      obtain ⟨p, r, s3, m, f, hf, hs, h⟩ := dtqE h
      refine nn.mk (ldS.mk (by refine Ok.cellS h (by with_reducible first | exact sl0 | exact .there sl0 | exact .there sl1 | exact .there sl2 | exact .there sl3 | exact .there sl4 | exact .there sl5 | exact .there sl6 | exact .there sl7 | exact .there sl8 | exact .there sl9 | exact .there sl10 | exact .there sl11 | exact .there sl12) ?_; rfl) ?_)
      refine al.mk h fun c3 w5 h => ?_
      refine ef.append1 (n := 1) slT_int (by decide) (Ok.emb (h) (.cons (A := pts c3 _) (by with_reducible first | exact sl0 | exact .there sl0 | exact .there sl1 | exact .there sl2 | exact .there sl3 | exact .there sl4 | exact .there sl5 | exact .there sl6 | exact .there sl7 | exact .there sl8 | exact .there sl9 | exact .there sl10 | exact .there sl11 | exact .there sl12) (.cons (A := slc 1 s3 _) (by with_reducible first | exact sl0 | exact .there sl0 | exact .there sl1 | exact .there sl2 | exact .there sl3 | exact .there sl4 | exact .there sl5 | exact .there sl6 | exact .there sl7 | exact .there sl8 | exact .there sl9 | exact .there sl10 | exact .there sl11 | exact .there sl12) (.same _)))) rfl (by intro v hv; simp at hv; subst hv; rfl) (by dsimp only at hs; omega) fun s4 w7 hl2 h => ?_
      rw [ints_snoc] at h
      dsimp only at h ⊢
      (repeat (first | with_reducible refine dr.mk h fun _ h => ?_ | with_reducible refine nn.mk ?_ | ((first | with_reducible apply ldI.mk | with_reducible apply ldB.mk | with_reducible apply ldP.mk | with_reducible apply ldS.mk | with_reducible apply ldM.mk | with_reducible apply ldF.mk | with_reducible apply ldG.mk); (· exact (by refine Ok.cellS h (by with_reducible first | exact sl0 | exact .there sl0 | exact .there sl1 | exact .there sl2 | exact .there sl3 | exact .there sl4 | exact .there sl5 | exact .there sl6 | exact .there sl7 | exact .there sl8 | exact .there sl9 | exact .there sl10 | exact .there sl11 | exact .there sl12) ?_; rfl))) | (refine st1.mk (Ok.bring h (by with_reducible first | exact sl0 | exact .there sl0 | exact .there sl1 | exact .there sl2 | exact .there sl3 | exact .there sl4 | exact .there sl5 | exact .there sl6 | exact .there sl7 | exact .there sl8 | exact .there sl9 | exact .there sl10 | exact .there sl11 | exact .there sl12)) (by simp) fun _ h => ?_; dsimp only [List.set] at h)))
      exact k _ (dtqI (q := ⟨S', V, D ++ [g x.1], g⟩) hf (h.emb (by repeat' (first | with_reducible exact Emb.same _ | exact Emb.nil _ | refine Emb.cons (by with_reducible first | exact sl0 | exact .there sl0 | exact .there sl1 | exact .there sl2 | exact .there sl3 | exact .there sl4 | exact .there sl5 | exact .there sl6 | exact .there sl7 | exact .there sl8 | exact .there sl9 | exact .there sl10 | exact .there sl11 | exact .there sl12) ?_ | refine Emb.skip ?_))))

end Go.Proofs.YtenonfkfoedfmaaGreatDoor.B


/- Rising rows: where a number lies, with it, without it; slices' search in them. -/
namespace Go.Proofs.YtenonfkfoedfmaaGreatDoor.B
open Go
set_option linter.unusedVariables false

/-- how many are less, of a rising row -/
def pos : List Int → Int → Nat
  | [], _ => 0
  | b :: l, a => if b < a then pos l a + 1 else 0

abbrev Up (l : List Int) : Prop := l.Pairwise (· < ·)

def insU (l : List Int) (a : Int) : List Int := l.take (pos l a) ++ [a] ++ l.drop (pos l a)

def delU (l : List Int) (a : Int) : List Int := l.take (pos l a) ++ l.drop (pos l a + 1)

theorem pos_le : ∀ (l : List Int) (a : Int), pos l a ≤ l.length
  | [], _ => Nat.le_refl _
  | b :: l, a => by
    unfold pos
    have := pos_le l a
    split <;> simp <;> omega

theorem pos_spec : ∀ {l : List Int} {a : Int} {i : Nat} {x : Int}, Up l → l[i]? = some x → (i < pos l a ↔ x < a)
  | [], _, _, _, _, h => by simp at h
  | b :: l, a, i, x, hu, h => by
    have hu := List.pairwise_cons.1 hu
    unfold pos
    cases i with
    | zero =>
      simp only [List.getElem?_cons_zero, Option.some.injEq] at h
      subst h
      split <;> simp <;> omega
    | succ i =>
      simp only [List.getElem?_cons_succ] at h
      have hx := hu.1 x (List.mem_of_getElem? h)
      split
      · rw [Nat.succ_lt_succ_iff]
        exact pos_spec hu.2 h
      · simp only [Nat.not_lt_zero, false_iff]
        omega

theorem pos_mem {l : List Int} {a : Int} (hu : Up l) : a ∈ l ↔ l[pos l a]? = some a := by
  refine ⟨fun h => ?_, List.mem_of_getElem?⟩
  obtain ⟨i, hi⟩ := List.getElem?_of_mem h
  have h1 : ¬ i < pos l a := by rw [pos_spec hu hi]; omega
  rcases Nat.lt_or_ge (pos l a) i with h2 | h2
  · exfalso
    have hlt := (List.getElem?_eq_some_iff.1 hi).1
    have h3 := List.pairwise_iff_getElem.1 hu (pos l a) i (by omega) hlt h2
    rw [List.getElem?_eq_getElem hlt] at hi
    cases hi
    exact Nat.lt_irrefl _ ((pos_spec hu (List.getElem?_eq_getElem (show pos l l[i] < l.length by omega))).2 h3)
  · rw [show pos l a = i by omega]; exact hi

theorem pos_lt {l : List Int} {a : Int} (hu : Up l) (h : a ∈ l) : pos l a < l.length := (List.getElem?_eq_some_iff.1 ((pos_mem hu).1 h)).1

theorem insU_perm (l : List Int) (a : Int) : (insU l a).Perm (a :: l) := by
  unfold insU
  rw [List.append_assoc, List.singleton_append]
  refine List.perm_middle.trans ?_
  rw [List.take_append_drop]

theorem delU_perm {l : List Int} {a : Int} (hu : Up l) (h : a ∈ l) : l.Perm (a :: delU l a) := by
  have hl := pos_lt hu h
  have hm := (pos_mem hu).1 h
  rw [List.getElem?_eq_getElem hl] at hm
  have hm : l[pos l a] = a := by injection hm
  have h1 : l = l.take (pos l a) ++ a :: l.drop (pos l a + 1) := by
    conv => lhs; rw [← List.take_append_drop (pos l a) l, List.drop_eq_getElem_cons hl, hm]
  exact (List.Perm.of_eq h1).trans List.perm_middle

theorem delU_up {l : List Int} {a : Int} (hu : Up l) : Up (delU l a) := by
  have h : (delU l a).Sublist l := by
    unfold delU
    conv => rhs; rw [← List.take_append_drop (pos l a) l]
    refine List.Sublist.append (List.Sublist.refl _) ?_
    rw [← List.drop_drop]
    exact List.drop_sublist ..
  exact hu.sublist h

theorem insU_up {l : List Int} {a : Int} (hu : Up l) (h : a ∉ l) : Up (insU l a) := by
  have h0 : Up (l.take (pos l a) ++ l.drop (pos l a)) := by rw [List.take_append_drop]; exact hu
  obtain ⟨h1, h2, h3⟩ := List.pairwise_append.1 h0
  have hlt : ∀ x ∈ l.take (pos l a), x < a := by
    intro x hx
    obtain ⟨i, hi⟩ := List.getElem?_of_mem hx
    have hi2 := (List.getElem?_eq_some_iff.1 hi).1
    rw [List.length_take] at hi2
    rw [List.getElem?_take_of_lt (by omega)] at hi
    exact (pos_spec hu hi).1 (by omega)
  have hgt : ∀ x ∈ l.drop (pos l a), a < x := by
    intro x hx
    obtain ⟨i, hi⟩ := List.getElem?_of_mem hx
    rw [List.getElem?_drop] at hi
    have h5 : ¬ x < a := by rw [← pos_spec hu hi]; omega
    have h6 : x ≠ a := fun he => h (he ▸ List.mem_of_getElem? hi)
    omega
  refine List.pairwise_append.2 ⟨List.pairwise_append.2 ⟨h1, List.pairwise_singleton .., fun x hx y hy => ?_⟩, h2, fun x hx y hy => ?_⟩
  · rw [List.mem_singleton.1 hy]; exact hlt x hx
  · rcases List.mem_append.1 hx with hx | hx
    · exact h3 x hx y hy
    · rw [List.mem_singleton.1 hx]; exact hgt y hy

theorem isNaN_int {a : Int} {R : List Value → World → Prop} {w : World} (k : R [.bool false] w) : sh246 a R w := by
  unfold sh246
  rw [bne_self_eq_false]
  exact k

theorem cmpNaN_int {a : Int} {R : List Value → World → Prop} {w : World} (k : R [.bool false] w) : sh234 a R w := by
  unfold sh234
  rw [bne_self_eq_false]
  exact k

theorem Less_int {e w L R} {a b : Int} (h : Ok e L w) (k : R [.bool (decide (a < b))] w) : sh245 a b R w := by
  unfold sh245
  refine call234 (cmpNaN_int ⟨(false, ()), rfl, ?_⟩)
  refine jn.at (false, ()) (fun w' => w = w') (fun J hJ => cs.no rfl (hJ _ rfl)) (fun w7 hw7 => ?_)
  subst hw7
  refine jn.at (decide (a < b), ()) (fun w' => w = w') (fun J hJ => cs.no rfl (hJ _ rfl)) (fun w7 hw7 => ?_)
  subst hw7
  exact k

set_option maxHeartbeats 1000000 in
theorem Search_int {e w L s l R} {a : Int} (h : Ok e (slc 1 s (ints l) :: L) w) (hu : Up l) (hb : s.len ≤ 2 ^ 31) (k : R [.int .i64 (pos l a), .bool (decide (a ∈ l))] w) : sh220 s a R w := by
  unfold sh220
  have hl := h.slc_len
  rw [ints_len, Nat.mul_one] at hl
  have hp := pos_le l a
  refine lp.mk (fun t w' => ∃ i j : Nat, t.1 = (i : Int) ∧ t.2.1 = (j : Int) ∧ i ≤ pos l a ∧ pos l a ≤ j ∧ j ≤ s.len ∧ w = w') (fun t _ => t.2.1.toNat - t.1.toNat) ⟨0, s.len, rfl, rfl, Nat.zero_le _, by omega, Nat.le_refl _, rfl⟩ ?_
  rintro ⟨i', j', _⟩ w1 ⟨i, j, hi, hj, h1, h2, h3, hw⟩
  dsimp only at hi hj
  subst hi hj hw
  refine cs.mk (fun hlt => ?_) (fun hge => ?_)
  · have hlt : i < j := by have := of_decide_eq_true hlt; dsimp only at this; omega
    have hm : w64 (Int.fdiv (IntKind.u64.wrap (w64 ((i : Int) + (j : Int)))) (2 ^ 1)) = (((i + j) / 2 : Nat) : Int) := by
      rw [w64_in (x := (i : Int) + j) (by omega) (by omega), IntWalk.u64_in _ (by omega), show ((2 : Int) ^ 1) = 2 from rfl, Int.fdiv_eq_ediv_of_nonneg _ (by decide), w64_in (by omega) (by omega)]
      omega
    dsimp only
    rw [hm]
    refine ix_int h (Int.natCast_nonneg _) (by show (((i + j) / 2 : Nat) : Int) < (s.len : Int); omega) fun b o x hx hc => ldI.mk (hc _ ⟨_, h⟩) ?_
    rw [Int.toNat_natCast] at hx
    have hs := pos_spec (a := a) hu hx
    refine call245 (Less_int h ⟨(decide (x < a), ()), rfl, ?_⟩)
    refine cs.mk (fun hc1 => ?_) (fun hc1 => ?_)
    · have hc1 := hs.2 (of_decide_eq_true hc1)
      rw [w64_in (x := (((i + j) / 2 : Nat) : Int) + 1) (by omega) (by omega)]
      refine ⟨⟨(i + j) / 2 + 1, j, rfl, rfl, by omega, h2, h3, rfl⟩, ?_⟩
      show Int.toNat (j : Int) - Int.toNat ((((i + j) / 2 : Nat) : Int) + 1) < Int.toNat (j : Int) - Int.toNat (i : Int)
      omega
    · have hc1 : ¬ (i + j) / 2 < pos l a := fun h5 => of_decide_eq_false hc1 (hs.1 h5)
      refine ⟨⟨i, (i + j) / 2, rfl, rfl, h1, by omega, by omega, rfl⟩, ?_⟩
      show Int.toNat (((i + j) / 2 : Nat) : Int) - Int.toNat (i : Int) < Int.toNat (j : Int) - Int.toNat (i : Int)
      omega
  have hge : j ≤ i := by have := of_decide_eq_false hge; dsimp only at this; omega
  obtain rfl : i = pos l a := by omega
  refine jn.at (decide (a ∈ l), ()) (fun w' => w = w') (fun J hJ => cs.mk (fun h1 => ?_) (fun h1 => ?_)) (fun w7 hw7 => by subst hw7; exact k)
  · have h1 : pos l a < s.len := by have := of_decide_eq_true h1; dsimp only at this; omega
    refine ix_int h (by simp) (by show (pos l a : Int) < (s.len : Int); omega) fun b o x hx hc => ldI.mk (hc _ ⟨_, h⟩) ?_
    rw [Int.toNat_natCast] at hx
    refine jn.at (decide (a ∈ l), ()) (fun w' => w = w') (fun J1 hJ1 => cs.mk (fun h2 => ?_) (fun h2 => ?_)) (fun w7 hw7 => hJ _ hw7)
    · have h2 : x = a := by simpa using h2
      subst h2
      rw [decide_eq_true (List.mem_of_getElem? hx)] at hJ1
      exact hJ1 _ rfl
    · have h2 : x ≠ a := by simpa using h2
      have hno : a ∉ l := fun hm => by rw [(pos_mem hu).1 hm] at hx; cases hx; exact h2 rfl
      rw [decide_eq_false hno] at hJ1
      refine ix_int h (by simp) (by show (pos l a : Int) < (s.len : Int); omega) fun b o x hx hc => ldI.mk (hc _ ⟨_, h⟩) ?_
      refine call246 (isNaN_int ⟨(false, ()), rfl, ?_⟩)
      refine jn.at (false, ()) (fun w' => w = w') (fun J hJ => cs.no rfl (hJ _ rfl)) (fun w7 hw7 => ?_)
      subst hw7
      exact hJ1 _ rfl
  · have h1 : ¬ pos l a < s.len := by have := of_decide_eq_false h1; dsimp only at this; omega
    have hno : a ∉ l := fun hm => by have := pos_lt hu hm; omega
    rw [decide_eq_false hno] at hJ
    exact hJ _ rfl

theorem ov_int : OvT Pg 199 72 := ⟨Tryz.f199, 4, Tryz.func199, by kernel_rfl, by kernel_rfl, by kernel_rfl, by kernel_rfl⟩

theorem Delete_int {e w L s l R} {i : Nat} (h : Ok e (slc 1 s (ints l) :: L) w) (hil : i < l.length) (hb : l.length ≤ 2 ^ 31)
    (k : ∀ s' w', Ok e (slc 1 s' (ints (l.take i ++ l.drop (i + 1))) :: L) w' → R [vS s'] w') : sh219 s i (i + 1) R w := by
  unfold sh219
  have hl := h.slc_len
  rw [ints_len, Nat.mul_one] at hl
  refine del_body slT_int (by decide) h (by omega) (by omega) (by omega) (by omega) fun s' w' _ h' => k s' w' ?_
  rw [show ((i : Int) + 1).toNat = i + 1 by omega, Int.toNat_natCast, Nat.mul_one, Nat.mul_one] at h'
  simpa [ints, List.map_take, List.map_drop] using h'

theorem Insert_int {e w L s x l R} {i : Nat} {y : Int} (h : Ok e (slc 1 x (ints [y]) :: slc 1 s (ints l) :: L) w) (hil : i ≤ l.length) (hb : l.length ≤ 2 ^ 30)
    (k : ∀ s' w', Ok e (slc 1 s' (ints (l.take i ++ [y] ++ l.drop i)) :: L) w' → R [vS s'] w') : sh126 s i x R w := by
  unfold sh126
  have hl := h.p1.slc_len
  rw [ints_len, Nat.mul_one] at hl
  have hx := h.slc_len
  rw [ints_len, Nat.mul_one] at hx
  simp only [List.length_singleton] at hx
  refine ins_body (ki := .i64) slT_int (by kernel_rfl) ov_int (by decide) h (by omega) (by omega) (by omega) (by omega) fun s' w' _ h' => k s' w' ?_
  rw [Int.toNat_natCast, Nat.mul_one] at h'
  simpa [ints, List.map_take, List.map_drop] using h'

end Go.Proofs.YtenonfkfoedfmaaGreatDoor.B


/- Contracts of the package mpf: blocks. -/
namespace Go.Proofs.YtenonfkfoedfmaaGreatDoor.B
open Go
set_option linter.unusedVariables false

theorem mp_ints_take (D : List Int) (n : Nat) : (ints D).take n = ints (D.take n) := by simp [ints, List.map_take]

theorem mp_ints_snoc (D : List Int) (d : Int) : ints D ++ [Value.int .i64 d] = ints (D ++ [d]) := by simp [ints]

theorem mp_slc_ints_len {e w L s D} (h : Ok e (slc 1 s (ints D) :: L) w) : D.length = s.len := by
  have := h.slc_len
  rw [ints_len] at this
  omega

theorem Insert_one {e w L s c l R} {i : Nat} {y : Int} (h : Ok e (pts c [.int .i64 y] :: slc 1 s (ints l) :: L) w) (hil : i ≤ l.length) (hb : l.length ≤ 2 ^ 30)
    (k : ∀ s' w', Ok e (slc 1 s' (ints (l.take i ++ [y] ++ l.drop i)) :: L) w' → R [vS s'] w') : sh126 s i ⟨some ⟨c, 0, none⟩, 1, 1⟩ R w :=
  Insert_int (Ok.slcNew (vs := ints [y]) h (n := 1) (sz := 1) rfl (ints_one [y])) hil hb k

/-- how far apart blocks lie -/
def stp (z : Int) : Int := (z + 3) / 4 * 4

theorem stp_bd {z : Int} (h : 1 ≤ z ∧ z ≤ 4096) : 4 ≤ stp z ∧ z ≤ stp z ∧ stp z ≤ 4096 := by
  unfold stp
  omega

theorem Align_nums {e w L z R} (h : Ok e L w) (hz : 1 ≤ z ∧ z ≤ 4096) (k : ∀ w', Ok e L w' → R [.int .i64 (stp z)] w') : sh127 z 4 R w := by
  unfold sh127
  refine jn.bool (false) (fun J hJ => ?_) ?_
  · refine cs.no (decide_eq_false (by omega)) ?_
    rw [show decide (z > 1073741824) = false from decide_eq_false (by omega)]
    exact hJ
  refine jn.bool (false) (fun J hJ => ?_) ?_
  · exact cs.no rfl hJ
  refine jn.bool (false) (fun J hJ => ?_) ?_
  · exact cs.no rfl hJ
  refine cs.no rfl (ob.mk (by decide) ?_)
  rw [w64_in (x := z + 4) (by omega) (by omega), w64_in (x := z + 4 - 1) (by omega) (by omega), Int.tdiv_eq_ediv_of_nonneg (by omega), w64_in (x := (z + 4 - 1) / 4) (by omega) (by omega), w64_in (by omega) (by omega), show z + 4 - 1 = z + 3 by omega]
  exact k _ h

/-- what a pool has -/
structure MP where
  S : List (Int × Int)
  had : Int
  back : List Int
  held : List Int

def blks (a z had : Int) : List Int := (List.range had.toNat).map fun (k : Nat) => a + (k : Int) * stp z

structure MPo (a n z : Int) (q : MP) : Prop where
  c : 0 ≤ a ∧ a ≤ 65536 ∧ 1 ≤ n ∧ n ≤ 256 ∧ 1 ≤ z ∧ z ≤ 4096 ∧ n * stp z ≤ 65536 - a
  line : okL q.S
  had : 0 ≤ q.had ∧ q.had ≤ n
  up : Up q.held
  perm : (q.back ++ q.held).Perm (blks a z q.had)

def MP.poll (a n z : Int) (q : MP) : (Int × Bool) × MP :=
  match q.back.getLast? with
  | some x => ((x, true), ⟨q.S, q.had, q.back.dropLast, insU q.held x⟩)
  | none => if q.had < n then ((a + q.had * stp z, true), ⟨q.S, q.had + 1, q.back, insU q.held (a + q.had * stp z)⟩) else ((0, false), q)

def MP.get (a n z : Int) (byPri : Bool) (q : MP) (task pri : Int) : (Int × Bool × Int) × MP :=
  if (q.poll a n z).1.2 then (((q.poll a n z).1.1, true, 0), (q.poll a n z).2)
  else ((0, false, (addL byPri q.S task pri).1), ⟨(addL byPri q.S task pri).2, q.had, q.back, q.held⟩)

def MP.put (q : MP) (x : Int) : (Int × Int) × MP :=
  if x ∈ q.held then
    match q.S with
    | y :: r => ((y.1, 0), ⟨r, q.had, q.back, q.held⟩)
    | [] => ((0, 0), ⟨[], q.had, q.back ++ [x], delU q.held x⟩)
  else ((0, -17), q)

def MP.holds (z : Int) (q : MP) (at' n : Int) : Bool := decide (1 ≤ n ∧ n ≤ z) && q.held.any fun h => decide (h ≤ at' ∧ at' ≤ h + z - n)

def mp0 : MP := ⟨[], 0, [], []⟩

theorem blks_mem {a z had x : Int} : x ∈ blks a z had ↔ ∃ k : Nat, (k : Int) < had ∧ x = a + k * stp z := by
  unfold blks
  rw [List.mem_map]
  exact ⟨fun ⟨k, hk, he⟩ => ⟨k, by have := List.mem_range.1 hk; omega, he.symm⟩, fun ⟨k, hk, he⟩ => ⟨k, List.mem_range.2 (by omega), he.symm⟩⟩

theorem blks_succ {a z had : Int} (h : 0 ≤ had) : blks a z (had + 1) = blks a z had ++ [a + had * stp z] := by
  unfold blks
  rw [show (had + 1).toNat = had.toNat + 1 by omega, List.range_succ, List.map_append, List.map_singleton, Int.toNat_of_nonneg h]

theorem blks_len {a z had : Int} : (blks a z had).length = had.toNat := by simp [blks]

theorem mul_lt_stp {z : Int} (h : 1 ≤ z ∧ z ≤ 4096) {i j : Int} (hij : i < j) : i * stp z + stp z ≤ j * stp z := by
  have h4 := (stp_bd h).1
  have := Int.mul_le_mul_of_nonneg_right (show i + 1 ≤ j by omega) (show 0 ≤ stp z by omega)
  rw [Int.add_mul, Int.one_mul] at this
  exact this

theorem blks_nodup {a z had : Int} (h : 1 ≤ z ∧ z ≤ 4096) : (blks a z had).Nodup := by
  refine List.pairwise_map.2 (List.nodup_range.imp fun {i j} hij => ?_)
  intro he
  have h4 := (stp_bd h).1
  rcases Nat.lt_or_ge i j with h1 | h1
  · have := mul_lt_stp h (i := i) (j := j) (by omega); omega
  · have := mul_lt_stp h (i := j) (j := i) (by omega); omega

theorem MPo.nodup {a n z q} (h : MPo a n z q) : (q.back ++ q.held).Nodup := h.perm.nodup_iff.2 (blks_nodup ⟨h.c.2.2.2.2.1, h.c.2.2.2.2.2.1⟩)

theorem MPo.bd {a n z q} (h : MPo a n z q) {x : Int} (hx : x ∈ q.back ++ q.held) : 0 ≤ x ∧ x + stp z ≤ 65536 ∧ ∃ k : Nat, (k : Int) < q.had ∧ x = a + k * stp z := by
  obtain ⟨k, hk, he⟩ := blks_mem.1 (h.perm.mem_iff.1 hx)
  have hz := And.intro h.c.2.2.2.2.1 h.c.2.2.2.2.2.1
  have h4 := stp_bd hz
  have h5 := mul_lt_stp hz (i := k) (j := n) (by have := h.had; omega)
  have h6 := Int.mul_nonneg (show (0 : Int) ≤ k by omega) (show 0 ≤ stp z by omega)
  have := h.c
  exact ⟨by omega, by omega, k, hk, he⟩

theorem MPo.len {a n z q} (h : MPo a n z q) : q.back.length + q.held.length = q.had.toNat := by
  have := h.perm.length_eq
  rw [List.length_append, blks_len] at this
  exact this

theorem MPo.new {a n z q} (h : MPo a n z q) : a + q.had * stp z ∉ q.back ++ q.held := by
  intro hx
  obtain ⟨k, hk, he⟩ := blks_mem.1 (h.perm.mem_iff.1 hx)
  have hz := And.intro h.c.2.2.2.2.1 h.c.2.2.2.2.2.1
  have h4 := stp_bd hz
  have h5 := mul_lt_stp hz (i := k) (j := q.had) hk
  omega

theorem last_app {l : List Int} {x : Int} (h : l.getLast? = some x) : l = l.dropLast ++ [x] := by
  obtain ⟨m, rfl⟩ := List.getLast?_eq_some_iff.1 h
  simp

theorem poll_ok {a n z q} (h : MPo a n z q) : MPo a n z (q.poll a n z).2 := by
  have hd := h.nodup
  unfold MP.poll
  split
  · next x hx =>
    have hb := last_app hx
    have hno : x ∉ q.held := fun hm => (List.nodup_append.1 hd).2.2 x (by rw [hb]; simp) x hm rfl
    refine ⟨h.c, h.line, h.had, insU_up h.up hno, ?_⟩
    refine ((insU_perm q.held x).append_left _).trans ?_
    have hp := h.perm
    rw [hb, List.append_assoc] at hp
    exact hp
  · next hx =>
    split
    · next hlt =>
      have hno := h.new
      refine ⟨h.c, h.line, ⟨show 0 ≤ q.had + 1 by have := h.had; omega, show q.had + 1 ≤ n by omega⟩, insU_up h.up fun hm => hno (List.mem_append_right _ hm), ?_⟩
      dsimp only
      rw [blks_succ h.had.1]
      refine ((insU_perm q.held _).append_left _).trans ?_
      refine List.perm_middle.trans ?_
      exact ((h.perm.cons _).trans (List.perm_append_singleton ..).symm)
    · exact h

theorem put_ok {a n z q x} (h : MPo a n z q) : MPo a n z (q.put x).2 := by
  unfold MP.put
  split
  · next hm =>
    split
    · next y r he => have hl := h.line; rw [he] at hl; exact ⟨h.c, (okL_tail hl).1, h.had, h.up, h.perm⟩
    · next he =>
      refine ⟨h.c, okL_nil, h.had, delU_up h.up, ?_⟩
      dsimp only
      rw [List.append_assoc]
      exact ((delU_perm h.up hm).symm.append_left _).trans h.perm
  · exact h

def mpfC (p : Nat) (a n z had : Int) (s t : Sl) : List Value := [.pointer (some ⟨p, 0, none⟩), .int .i64 a, .int .i64 n, .int .i64 z, .int .i64 had, vS s, vS t]

def mpfP (b : Nat) (byPri : Bool) (a n z : Int) (q : MP) : SP := fun h => ∃ p s t,
  oksH [pts b [.pointer (some ⟨p, 0, none⟩), .int .i64 a, .int .i64 n, .int .i64 z, .int .i64 q.had, vS s, vS t], lineP p [.bool byPri] q.S, slc 1 s (ints q.back), slc 1 t (ints q.held)] h

theorem mpfE {e w L b byPri a n z q} (h : Ok e (mpfP b byPri a n z q :: L) w) : ∃ p s t, q.back.length = s.len ∧ q.held.length = t.len ∧
    Ok e (pts b [.pointer (some ⟨p, 0, none⟩), .int .i64 a, .int .i64 n, .int .i64 z, .int .i64 q.had, vS s, vS t] :: lineP p [.bool byPri] q.S :: slc 1 s (ints q.back) :: slc 1 t (ints q.held) :: L) w := by
  obtain ⟨p, h⟩ := h.exE
  obtain ⟨s, h⟩ := h.exE
  obtain ⟨t, h⟩ := h.exE
  have h := h.unpack
  exact ⟨p, s, t, mp_slc_ints_len h.p2, mp_slc_ints_len h.p3, h⟩

theorem mpfI {e w L b byPri a n z q p s t} (h : Ok e (pts b [.pointer (some ⟨p, 0, none⟩), .int .i64 a, .int .i64 n, .int .i64 z, .int .i64 q.had, vS s, vS t] :: lineP p [.bool byPri] q.S :: slc 1 s (ints q.back) :: slc 1 t (ints q.held) :: L) w) : Ok e (mpfP b byPri a n z q :: L) w :=
  (Ok.pack (M := [pts b [.pointer (some ⟨p, 0, none⟩), .int .i64 a, .int .i64 n, .int .i64 z, .int .i64 q.had, vS s, vS t], lineP p [.bool byPri] q.S, slc 1 s (ints q.back), slc 1 t (ints q.held)]) h).imp fun k hk => ⟨p, s, t, hk⟩

theorem stp_mul_bd {z n : Int} (h : 1 ≤ z ∧ z ≤ 4096) (hn : 0 ≤ n ∧ n ≤ 256) : 0 ≤ n * stp z ∧ n * stp z ≤ 256 * 4096 := by
  have h4 := stp_bd h
  exact ⟨Int.mul_nonneg hn.1 (by omega), Int.le_trans (Int.mul_le_mul_of_nonneg_right hn.2 (by omega)) (by omega)⟩

def mpGood (a n z : Int) : Prop := 0 ≤ a ∧ a ≤ 65536 ∧ a % 4 = 0 ∧ 1 ≤ n ∧ n ≤ 256 ∧ 1 ≤ z ∧ z ≤ 4096 ∧ n * stp z ≤ 65536 - a

instance (a n z : Int) : Decidable (mpGood a n z) := by unfold mpGood; infer_instance

theorem mp0_ok {a n z} (h : mpGood a n z) : MPo a n z mp0 := by
  obtain ⟨h1, h2, h3, h4, h5, h6, h7, h8⟩ := h
  exact ⟨⟨h1, h2, h4, h5, h6, h7, h8⟩, okL_nil, ⟨Int.le_refl _, by show 0 ≤ n; omega⟩, List.Pairwise.nil, List.Perm.of_eq (by rfl)⟩

end Go.Proofs.YtenonfkfoedfmaaGreatDoor.B

