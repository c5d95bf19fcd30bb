/- Texts of ours, joined: Grp, Grp2, Grp3, Grp4, Del, Law, DelW, SelfW, InvW, InhW, InvW2, TopLaid, Row, Grp5, EndW, Grp6, ClkW, Grp7, IntW. -/
import Derived.Below
import Derived.ChangeOld
import Derived.ChangeShapes
import Derived.Deep.Slices
import Derived.FnData
import Derived.JoinedOf
import Derived.KernelRfl
import Derived.LaidLaws
import Derived.LaidMore
import Derived.MakeChecks
import Derived.OpenShut
import Derived.ProofKit
import Derived.Test.YtenonfkfoedfmaaGreatDoorRows
import Derived.Test.YtenonfkfoedfmaaGreatDoorJTop26
set_option linter.unusedSimpArgs false
set_option linter.unusedVariables false
/- Calls of tasks: what they share. -/
namespace Go.Proofs.YtenonfkfoedfmaaGreatDoor.B
open Go
set_option linter.unusedVariables false

/-- the calls of tasks, behind the task's name -/
def tasksR (k b1 b3 : Nat) (v : Int) (R : List Value → World → Prop) (w18 : World) : Prop :=
ldI w18 .i64 b1 0 fun n26 =>
cs ((n26 : Int) == (4 : Int)) (
nn (some ⟨k, 0, none⟩) fun b27 o28 =>
ldP w18 b27 (o28 + 6) fun p29 =>
cl Pg 131 [.pointer p29, .bool false] [] w18 fun (r30 : Unit) w31 =>
nn (some ⟨k, 0, none⟩) fun b32 o33 =>
ldP w31 b32 (o33 + 6) fun p34 =>
cl Pg 132 [.pointer p34, .bool false] [] w31 fun (r35 : Unit) w36 =>
cl Pg 133 [pV k, .int .i64 v] [] w36 fun (r37 : Unit) w38 =>
cl Pg 77 [.int .i64 0, .slice none 0 0] [.a [(.i .i64), (.i .i64)]] w38 fun (r39 : (Int × Int × Unit) × Unit) w40 =>
st1 w40 b3 0 (.int .i64 r39.1.1) fun w41 =>
st1 w41 b3 (0 + 1) (.int .i64 r39.1.2.1) fun w42 =>
ldI w42 .i64 b3 0 fun n43 =>
ldI w42 .i64 b3 (0 + 1) fun n44 =>
R [.agg #[.int .i64 n43, .int .i64 n44]] w42) (
jn [kB] w18 (fun (t46 : Bool × Unit) w47 =>
cs t46.1 (
ldI w47 .i64 b1 0 fun n49 =>
ldI w47 .i64 b1 (0 + 1) fun n50 =>
ldI w47 .i64 b1 (0 + 2) fun n51 =>
ldI w47 .i64 b1 (0 + 3) fun n52 =>
ldI w47 .i64 b1 (0 + 4) fun n53 =>
cl Pg 134 [pV k, .agg #[.int .i64 n49, .int .i64 n50, .int .i64 n51, .int .i64 n52, .int .i64 n53]] [.a [(.i .i64), (.i .i64)]] w47 fun (r54 : (Int × Int × Unit) × Unit) w55 =>
st1 w55 b3 0 (.int .i64 r54.1.1) fun w56 =>
st1 w56 b3 (0 + 1) (.int .i64 r54.1.2.1) fun w57 =>
ldI w57 .i64 b3 0 fun n58 =>
ldI w57 .i64 b3 (0 + 1) fun n59 =>
R [.agg #[.int .i64 n58, .int .i64 n59]] w57) (
jn [kB] w47 (fun (t61 : Bool × Unit) w62 =>
cs t61.1 (
nn (some ⟨k, 0, none⟩) fun b64 o65 =>
ldI w62 .i64 b64 (o65 + 12) fun n66 =>
al w62 2 [.int .i64 n66] fun b67 w68 =>
cl Pg 77 [.int .i64 0, vS ⟨some ⟨b67, 0, none⟩, 1, 1⟩] [.a [(.i .i64), (.i .i64)]] w68 fun (r69 : (Int × Int × Unit) × Unit) w70 =>
st1 w70 b3 0 (.int .i64 r69.1.1) fun w71 =>
st1 w71 b3 (0 + 1) (.int .i64 r69.1.2.1) fun w72 =>
ldI w72 .i64 b3 0 fun n73 =>
ldI w72 .i64 b3 (0 + 1) fun n74 =>
R [.agg #[.int .i64 n73, .int .i64 n74]] w72) (
cs ((n26 : Int) == (12 : Int)) (
cl Pg 135 [pV k, .int .i64 (-1)] [.a [(.i .i64), (.i .i64)]] w62 fun (r75 : (Int × Int × Unit) × Unit) w76 =>
st1 w76 b3 0 (.int .i64 r75.1.1) fun w77 =>
st1 w77 b3 (0 + 1) (.int .i64 r75.1.2.1) fun w78 =>
ldI w78 .i64 b3 0 fun n79 =>
ldI w78 .i64 b3 (0 + 1) fun n80 =>
R [.agg #[.int .i64 n79, .int .i64 n80]] w78) (
cs ((n26 : Int) == (13 : Int)) (
ixA b1 (0 + 1) 4 0 1 fun b81 o82 =>
ldI w62 .i64 b81 o82 fun n83 =>
cl Pg 136 [.int .i64 n83] [kB] w62 fun (r84 : Bool × Unit) w85 =>
cs (!r84.1) (
cl Pg 77 [.int .i64 (-17), .slice none 0 0] [.a [(.i .i64), (.i .i64)]] w85 fun (r86 : (Int × Int × Unit) × Unit) w87 =>
st1 w87 b3 0 (.int .i64 r86.1.1) fun w88 =>
st1 w88 b3 (0 + 1) (.int .i64 r86.1.2.1) fun w89 =>
ldI w89 .i64 b3 0 fun n90 =>
ldI w89 .i64 b3 (0 + 1) fun n91 =>
R [.agg #[.int .i64 n90, .int .i64 n91]] w89) (
ixA b1 (0 + 1) 4 0 1 fun b92 o93 =>
ldI w85 .i64 b92 o93 fun n94 =>
cl Pg 135 [pV k, .int .i64 n94] [.a [(.i .i64), (.i .i64)]] w85 fun (r95 : (Int × Int × Unit) × Unit) w96 =>
st1 w96 b3 0 (.int .i64 r95.1.1) fun w97 =>
st1 w97 b3 (0 + 1) (.int .i64 r95.1.2.1) fun w98 =>
ldI w98 .i64 b3 0 fun n99 =>
ldI w98 .i64 b3 (0 + 1) fun n100 =>
R [.agg #[.int .i64 n99, .int .i64 n100]] w98)) (
cs ((n26 : Int) == (22 : Int)) (
ixA b1 (0 + 1) 4 0 1 fun b101 o102 =>
ldI w62 .i64 b101 o102 fun n103 =>
cl Pg 137 [.int .i64 n103] [.l (.i .u64), kI] w62 fun (r104 : Int × Int × Unit) w105 =>
cs ((r104.2.1 : Int) != (0 : Int)) (
cl Pg 77 [.int .i64 r104.2.1, .slice none 0 0] [.a [(.i .i64), (.i .i64)]] w105 fun (r106 : (Int × Int × Unit) × Unit) w107 =>
st1 w107 b3 0 (.int .i64 r106.1.1) fun w108 =>
st1 w108 b3 (0 + 1) (.int .i64 r106.1.2.1) fun w109 =>
ldI w109 .i64 b3 0 fun n110 =>
ldI w109 .i64 b3 (0 + 1) fun n111 =>
R [.agg #[.int .i64 n110, .int .i64 n111]] w109) (
ixA b1 (0 + 1) 4 0 1 fun b112 o113 =>
ldI w105 .i64 b112 o113 fun n114 =>
cl Pg 138 [pV k, .int .i64 2, .int .i64 0, .int .i64 n114] [.a [(.i .i64), (.i .i64)]] w105 fun (r115 : (Int × Int × Unit) × Unit) w116 =>
st1 w116 b3 0 (.int .i64 r115.1.1) fun w117 =>
st1 w117 b3 (0 + 1) (.int .i64 r115.1.2.1) fun w118 =>
ldI w118 .i64 b3 0 fun n119 =>
ldI w118 .i64 b3 (0 + 1) fun n120 =>
R [.agg #[.int .i64 n119, .int .i64 n120]] w118)) (
cs ((n26 : Int) == (6 : Int)) (
ixA b1 (0 + 1) 4 1 1 fun b121 o122 =>
ldI w62 .i64 b121 o122 fun n123 =>
cl Pg 139 [pV k, .int .i64 v, .int .i64 n123] [kI] w62 fun (r124 : Int × Unit) w125 =>
cl Pg 77 [.int .i64 r124.1, .slice none 0 0] [.a [(.i .i64), (.i .i64)]] w125 fun (r126 : (Int × Int × Unit) × Unit) w127 =>
st1 w127 b3 0 (.int .i64 r126.1.1) fun w128 =>
st1 w128 b3 (0 + 1) (.int .i64 r126.1.2.1) fun w129 =>
ldI w129 .i64 b3 0 fun n130 =>
ldI w129 .i64 b3 (0 + 1) fun n131 =>
R [.agg #[.int .i64 n130, .int .i64 n131]] w129) (
dr w62 fun w132 =>
ldI w132 .i64 b1 0 fun n133 =>
ldI w132 .i64 b1 (0 + 1) fun n134 =>
ldI w132 .i64 b1 (0 + 2) fun n135 =>
ldI w132 .i64 b1 (0 + 3) fun n136 =>
ldI w132 .i64 b1 (0 + 4) fun n137 =>
nn (some ⟨k, 0, none⟩) fun b138 o139 =>
ldS w132 b138 (o139 + 9) fun s140 =>
ix s140 v 1 fun b141 o142 =>
ldP w132 b141 o142 fun p143 =>
nn p143 fun b144 o145 =>
ldP w132 b144 o145 fun p146 =>
cl Pg 140 [pV k, .agg #[.int .i64 n133, .int .i64 n134, .int .i64 n135, .int .i64 n136, .int .i64 n137], .int .i64 v, .pointer p146] [.a [(.i .i64), (.i .i64)]] w132 fun (r147 : (Int × Int × Unit) × Unit) w148 =>
st1 w148 b3 0 (.int .i64 r147.1.1) fun w149 =>
st1 w149 b3 (0 + 1) (.int .i64 r147.1.2.1) fun w150 =>
ldI w150 .i64 b3 0 fun n151 =>
ldI w150 .i64 b3 (0 + 1) fun n152 =>
R [.agg #[.int .i64 n151, .int .i64 n152]] w150)))))) fun J60 w63 =>
cs ((n26 : Int) == (10 : Int)) (
J60 (true, ()) w63) (
J60 ((n26 : Int) == (11 : Int), ()) w63))) fun J45 w48 =>
cs ((n26 : Int) == (8 : Int)) (
J45 (true, ()) w48) (
J45 ((n26 : Int) == (9 : Int), ()) w48))

/-- one of the calls of one task -/
def oneR (k b1 b3 : Nat) (v : Int) (R : List Value → World → Prop) (w62 : World) : Prop :=
dr w62 fun w132 =>
ldI w132 .i64 b1 0 fun n133 =>
ldI w132 .i64 b1 (0 + 1) fun n134 =>
ldI w132 .i64 b1 (0 + 2) fun n135 =>
ldI w132 .i64 b1 (0 + 3) fun n136 =>
ldI w132 .i64 b1 (0 + 4) fun n137 =>
nn (some ⟨k, 0, none⟩) fun b138 o139 =>
ldS w132 b138 (o139 + 9) fun s140 =>
ix s140 v 1 fun b141 o142 =>
ldP w132 b141 o142 fun p143 =>
nn p143 fun b144 o145 =>
ldP w132 b144 o145 fun p146 =>
cl Pg 140 [pV k, .agg #[.int .i64 n133, .int .i64 n134, .int .i64 n135, .int .i64 n136, .int .i64 n137], .int .i64 v, .pointer p146] [.a [(.i .i64), (.i .i64)]] w132 fun (r147 : (Int × Int × Unit) × Unit) w148 =>
st1 w148 b3 0 (.int .i64 r147.1.1) fun w149 =>
st1 w149 b3 (0 + 1) (.int .i64 r147.1.2.1) fun w150 =>
ldI w150 .i64 b3 0 fun n151 =>
ldI w150 .i64 b3 (0 + 1) fun n152 =>
R [.agg #[.int .i64 n151, .int .i64 n152]] w150

theorem tasks_pre {e k A K L w x0 x1 x2 x3 R} {n : Nat} {a kd : Int} (h : Ok e (kerP k A K :: old e :: L) w) (hn : akL[n]? = some (a, kd)) (h0 : 0 < n) (h22 : n ≤ 22) (h9 : n ≠ 9) (h11 : n ≠ 11)
    (kz : nmd K n kd x0 = 0 → ∀ w', Ok e (kerP k A K :: old e :: L) w' → R [.agg #[.int .i64 (-18), .int .i64 0]] w')
    (kn : nmd K n kd x0 ≠ 0 → ∀ b d w', Ok e (pts d [.int .i64 0, .int .i64 0] :: pts b [.int .i64 (n : Int), .int .i64 x0, .int .i64 x1, .int .i64 x2, .int .i64 x3] :: kerP k A K :: old e :: L) w' → tasksR k b d (nmd K n kd x0) R w') :
    sh79 (some ⟨k, 0, none⟩) ((n : Int), x0, x1, x2, x3, ()) R w := by
  unfold sh79
  refine al.mk h fun b w1 h => al.mk h fun d w2 h => ldI.mk (h.p1.cell rfl) (ldI.mk (h.p1.cell rfl) (ldI.mk (h.p1.cell rfl) (ldI.mk (h.p1.cell rfl) (ldI.mk (h.p1.cell rfl) ?_))))
  refine call130 (a1 := ((n : Int), x0, x1, x2, x3, ())) (named_kern h.p2 hn h0 h22 fun w3 h => ⟨(nmd K n kd x0, ()), rfl, ?_⟩)
  have h : Ok e (pts d [.int .i64 0, .int .i64 0] :: pts b [.int .i64 (n : Int), .int .i64 x0, .int .i64 x1, .int .i64 x2, .int .i64 x3] :: kerP k A K :: old e :: L) w3 := (h.emb (by repeat' (first | with_reducible exact Emb.same _ | exact Emb.nil _ | refine Emb.cons (by with_reducible first | exact sl0 | exact .there sl0 | exact .there sl1 | exact .there sl2 | exact .there sl3 | exact .there sl4 | exact .there sl5 | exact .there sl6 | exact .there sl7 | exact .there sl8 | exact .there sl9 | exact .there sl10 | exact .there sl11 | exact .there sl12) ?_ | refine Emb.skip ?_)))
  dsimp only
  generalize nmd K n kd x0 = v at kz kn ⊢
  refine jn.bool (decide (v = 0)) (fun J hJ => ?_) (jn.bool (decide (v = 0)) (fun J hJ => ?_) (cs.mk (fun hw => ?_) (fun hw => kn (of_decide_eq_false hw) b d w3 h)))
  · refine cs.mk (fun hc => ldI.mk (h.p1.cell rfl) ?_) (fun hc => ?_)
    · rw [decide_eq_true (by simpa using hc)] at hJ
      rw [show ((n : Int) != (9 : Int)) = true by simp; omega]; exact hJ
    · rw [decide_eq_false (by simpa using hc)] at hJ; exact hJ
  · refine cs.mk (fun hc => ldI.mk (h.p1.cell rfl) ?_) (fun hc => ?_)
    · have hc : decide (v = 0) = true := hc
      rw [hc] at hJ
      rw [show ((n : Int) != (11 : Int)) = true by simp; omega]; exact hJ
    · have hc : decide (v = 0) = false := hc
      rw [hc] at hJ; exact hJ
  · exact fin_code h fun w4 h => kz (of_decide_eq_true hw) w4 h.drop

/-- what a call of one task answers -/
def OneC (e : World) (k : Nat) (A : KA) (K : KM) (v : Int) (r : (Int × Int) × KM) (f : Option Addr → (List Value → World → Prop) → World → Prop) : Prop :=
  ∀ L w (R : List Value → World → Prop) t, Ok e (kerP k A K :: old e :: L) w → w.cell? ⟨A.ub (v - 1).toNat, 0, none⟩ = some (pV t) → (∀ w', Ok e (kerP k A r.2 :: old e :: L) w' → R [.agg #[.int .i64 r.1.1, .int .i64 r.1.2]] w') → f (some ⟨t, 0, none⟩) R w

theorem one_pre {e k A K L w x0 x1 x2 x3 v u r R} {n : Nat} {b d : Nat} (h : Ok e (pts d [.int .i64 0, .int .i64 0] :: pts b [.int .i64 (n : Int), .int .i64 x0, .int .i64 x1, .int .i64 x2, .int .i64 x3] :: kerP k A K :: old e :: L) w) (hu : K.un v = some u)
    (ho : OneC e k A K v r fun a => sh140 (some ⟨k, 0, none⟩) ((n : Int), x0, x1, x2, x3, ()) v a)
    (kk : ∀ w', Ok e (kerP k A r.2 :: old e :: L) w' → R [.agg #[.int .i64 r.1.1, .int .i64 r.1.2]] w') : oneR k b d v R w := by
  unfold oneR
  refine dr.mk h fun w2 h => ?_
  obtain ⟨t, H, hk, h2, back, read⟩ := ker_un h.p2 hu
  refine ldI.mk (h.p1.cell rfl) (ldI.mk (h.p1.cell rfl) (ldI.mk (h.p1.cell rfl) (ldI.mk (h.p1.cell rfl) (ldI.mk (h.p1.cell rfl) (nn.mk (ldS.mk (h2.cell rfl) (read e _ w2 _ ((Ok.emb (h2) (.cons (A := H) (by with_reducible first | exact sl0 | exact .there sl0 | exact .there sl1 | exact .there sl2 | exact .there sl3 | exact .there sl4 | exact .there sl5 | exact .there sl6 | exact .there sl7 | exact .there sl8 | exact .there sl9 | exact .there sl10 | exact .there sl11 | exact .there sl12) (.same _)))) fun b2 o2 hc => ldP.mk hc (nn.mk (ldP.mk (h2.p1.cell rfl) ?_)))))))))
  refine call140 (a1 := ((n : Int), x0, x1, x2, x3, ())) (ho (pts d [.int .i64 0, .int .i64 0] :: pts b [.int .i64 (n : Int), .int .i64 x0, .int .i64 x1, .int .i64 x2, .int .i64 x3] :: L) w2 _ t (h.emb (by repeat' (first | with_reducible exact Emb.same _ | exact Emb.nil _ | refine Emb.cons (by with_reducible first | exact sl0 | exact .there sl0 | exact .there sl1 | exact .there sl2 | exact .there sl3 | exact .there sl4 | exact .there sl5 | exact .there sl6 | exact .there sl7 | exact .there sl8 | exact .there sl9 | exact .there sl10 | exact .there sl11 | exact .there sl12) ?_ | refine Emb.skip ?_))) (h2.p1.cell rfl) fun w3 h => ⟨((r.1.1, r.1.2, ()), ()), rfl, ?_⟩)
  exact fin_res ((Ok.emb (h) (.cons (A := pts d [.int .i64 0, .int .i64 0]) (by with_reducible first | exact sl0 | exact .there sl0 | exact .there sl1 | exact .there sl2 | exact .there sl3 | exact .there sl4 | exact .there sl5 | exact .there sl6 | exact .there sl7 | exact .there sl8 | exact .there sl9 | exact .there sl10 | exact .there sl11 | exact .there sl12) (.same _)))) fun w5 h => kk w5 (h.emb (by repeat' (first | with_reducible exact Emb.same _ | exact Emb.nil _ | refine Emb.cons (by with_reducible first | exact sl0 | exact .there sl0 | exact .there sl1 | exact .there sl2 | exact .there sl3 | exact .there sl4 | exact .there sl5 | exact .there sl6 | exact .there sl7 | exact .there sl8 | exact .there sl9 | exact .there sl10 | exact .there sl11 | exact .there sl12) ?_ | refine Emb.skip ?_)))

/-- a task laid open, whose block is known -/
theorem open_t {e L w k A K v u t} (h : Ok e (kerP k A K :: L) w) (hu : K.un v = some u) (hc : w.cell? ⟨A.ub (v - 1).toNat, 0, none⟩ = some (pV t)) : ∃ H, kerOk K ∧
    Ok e (pts k (kC A K) :: pts (A.ub (v - 1).toNat) (unC t u) :: pts t (tcC u) :: H :: kR A K L) w ∧
    (∀ (K1 : KM) u' e1 L1 w1, kerOk K1 → K1.us = K.us → Ok e1 (pts k (kC A K1) :: pts (A.ub (v - 1).toNat) (unC t u') :: pts t (tcC u') :: H :: kR A K1 L1) w1 → Ok e1 (kerP k A (K1.setU v u') :: L1) w1) := by
  obtain ⟨t', H, ho, h2, back, -⟩ := ker_un h hu
  have h1 := h2.p1.cell (i := 0) rfl
  rw [hc] at h1
  have : t = t' := by simpa using h1
  subst this
  exact ⟨H, ho, h2, back⟩

end Go.Proofs.YtenonfkfoedfmaaGreatDoor.B


/- Calls of tasks: one by one. -/
namespace Go.Proofs.YtenonfkfoedfmaaGreatDoor.B
open Go
set_option linter.unusedVariables false

theorem one_1 {e k A K v r x0 x1 x2 x3} (hm : (K.act v).map (fun r => ((r.1, (0 : Int)), r.2)) = some r) :
    OneC e k A K v r fun a => sh140 (some ⟨k, 0, none⟩) (((1 : Nat) : Int), x0, x1, x2, x3, ()) v a := by
  intro L w R t h hc kk
  obtain ⟨r1, h1, rfl⟩ := Option.map_eq_some_iff.1 hm
  unfold sh140
  refine al.mk h fun b5 w3 h => al.mk h fun d5 w4 h => ldI.mk (h.p1.cell rfl) ?_
  (repeat (first | ((with_reducible refine cs.yes ?_ ?_); · rfl) | ((with_reducible refine cs.no ?_ ?_); · rfl) | refine jn.mk fun J hJ => ?_ | with_reducible apply_assumption -exfalso -symm))
  refine call105 (act_kern (h.p2) h1 fun w5 h => ⟨(r1.1, ()), rfl, ?_⟩)
  exact fin_code ((Ok.emb (h) (.cons (A := pts d5 [.int .i64 0, .int .i64 0]) (by with_reducible first | exact sl0 | exact .there sl0 | exact .there sl1 | exact .there sl2 | exact .there sl3 | exact .there sl4 | exact .there sl5 | exact .there sl6 | exact .there sl7 | exact .there sl8 | exact .there sl9 | exact .there sl10 | exact .there sl11 | exact .there sl12) (.same _)))) fun w6 h => kk w6 (h.emb (by repeat' (first | with_reducible exact Emb.same _ | exact Emb.nil _ | refine Emb.cons (by with_reducible first | exact sl0 | exact .there sl0 | exact .there sl1 | exact .there sl2 | exact .there sl3 | exact .there sl4 | exact .there sl5 | exact .there sl6 | exact .there sl7 | exact .there sl8 | exact .there sl9 | exact .there sl10 | exact .there sl11 | exact .there sl12) ?_ | refine Emb.skip ?_)))

theorem tasks_1 {e k A K r x0 x1 x2 x3} (hm : KM.cAct x0 K = some r) : GrpC e k A K r (sh79 (some ⟨k, 0, none⟩) (((1 : Nat) : Int), x0, x1, x2, x3, ())) := by
  intro L w R h kk
  unfold KM.cAct KM.byTask at hm
  refine tasks_pre h (n := 1) rfl (by decide) (by decide) (by decide) (by decide) (fun hz w' h => ?_) (fun hz b d w' h => ?_)
  · rw [if_pos (show K.named x0 true = 0 from hz)] at hm
    cases hm
    exact kk w' h
  · rw [if_neg (show ¬ K.named x0 true = 0 from hz)] at hm
    have hv : nmd K 1 1 x0 = K.named x0 true := rfl
    rw [hv]
    generalize K.named x0 true = v at hm
    obtain ⟨r1, h1, h2⟩ := Option.map_eq_some_iff.1 hm
    obtain ⟨u, hu, -⟩ := Option.bind_eq_some_iff.1 h1
    unfold tasksR
    refine ldI.mk (h.p1.cell rfl) ?_
    (repeat (first | ((with_reducible refine cs.yes ?_ ?_); · rfl) | ((with_reducible refine cs.no ?_ ?_); · rfl) | refine jn.mk fun J hJ => ?_ | with_reducible apply_assumption -exfalso -symm))
    exact one_pre h hu (one_1 hm) kk

theorem tasks_4 {e k A K r x0 x1 x2 x3} (hm : KM.cExt K = some r) : GrpC e k A K r (sh79 (some ⟨k, 0, none⟩) (((4 : Nat) : Int), x0, x1, x2, x3, ())) := by
  intro L w R h kk
  unfold KM.cExt at hm
  refine tasks_pre h (n := 4) rfl (by decide) (by decide) (by decide) (by decide) (fun hz w' h => ?_) (fun hz b d w' h => ?_)
  · rw [if_pos (show K.who = 0 from hz)] at hm
    cases hm
    exact kk w' h
  · rw [if_neg (show ¬ K.who = 0 from hz)] at hm
    obtain ⟨K', hK, rfl⟩ := Option.map_eq_some_iff.1 hm
    rw [show nmd K 4 4 x0 = K.who from rfl]
    unfold tasksR
    refine ldI.mk (h.p1.cell rfl) ?_
    (repeat (first | ((with_reducible refine cs.yes ?_ ?_); · rfl) | ((with_reducible refine cs.no ?_ ?_); · rfl) | refine jn.mk fun J hJ => ?_ | with_reducible apply_assumption -exfalso -symm))
    obtain ⟨ho, h2⟩ := kerE h.p2
    have h : Ok e (pts k (kC A K) :: unitsP A.ub A.us K.us :: semsP A.ss K.sems :: flgP A.fs :: datasP A.ds K.datas :: poolsP A.ps K.pools :: mmP A.lk K.mm :: placeP A.pl K.pl :: hnP A.hn K.tic K.up K.tb K.last K.ents :: rdyP A.rq K.rdy :: pts d [.int .i64 0, .int .i64 0] :: pts b [.int .i64 ((4 : Nat) : Int), .int .i64 x0, .int .i64 x1, .int .i64 x2, .int .i64 x3] :: old e :: L) w' := (Ok.emb (h2) (by repeat' (first | with_reducible exact Emb.same _ | exact Emb.nil _ | refine Emb.cons (by with_reducible first | exact sl0 | exact .there sl0 | exact .there sl1 | exact .there sl2 | exact .there sl3 | exact .there sl4 | exact .there sl5 | exact .there sl6 | exact .there sl7 | exact .there sl8 | exact .there sl9 | exact .there sl10 | exact .there sl11 | exact .there sl12) ?_ | refine Emb.skip ?_)))
    refine nn.mk (ldP.mk (h.cell rfl) ?_)
    refine call131 (Lock_ctx ((Ok.emb (h) (.cons (A := placeP A.pl K.pl) (by with_reducible first | exact sl0 | exact .there sl0 | exact .there sl1 | exact .there sl2 | exact .there sl3 | exact .there sl4 | exact .there sl5 | exact .there sl6 | exact .there sl7 | exact .there sl8 | exact .there sl9 | exact .there sl10 | exact .there sl11 | exact .there sl12) (.same _)))) fun w1 h => ⟨(), rfl, nn.mk (ldP.mk (by refine Ok.cellS h (by with_reducible first | exact sl0 | exact .there sl0 | exact .there sl1 | exact .there sl2 | exact .there sl3 | exact .there sl4 | exact .there sl5 | exact .there sl6 | exact .there sl7 | exact .there sl8 | exact .there sl9 | exact .there sl10 | exact .there sl11 | exact .there sl12) ?_; rfl) ?_)⟩)
    refine call132 (Disable_ctx h fun w2 h => ⟨(), rfl, ?_⟩)
    have h : Ok e (pts k (kC A K) :: unitsP A.ub A.us K.us :: semsP A.ss K.sems :: flgP A.fs :: datasP A.ds K.datas :: poolsP A.ps K.pools :: mmP A.lk K.mm :: placeP A.pl { K.pl with locked := false, disabled := false } :: hnP A.hn K.tic K.up K.tb K.last K.ents :: rdyP A.rq K.rdy :: pts d [.int .i64 0, .int .i64 0] :: pts b [.int .i64 ((4 : Nat) : Int), .int .i64 x0, .int .i64 x1, .int .i64 x2, .int .i64 x3] :: old e :: L) w2 := (h.emb (by repeat' (first | with_reducible exact Emb.same _ | exact Emb.nil _ | refine Emb.cons (by with_reducible first | exact sl0 | exact .there sl0 | exact .there sl1 | exact .there sl2 | exact .there sl3 | exact .there sl4 | exact .there sl5 | exact .there sl6 | exact .there sl7 | exact .there sl8 | exact .there sl9 | exact .there sl10 | exact .there sl11 | exact .there sl12) ?_ | refine Emb.skip ?_)))
    have h := kerI (K := { K with pl := { K.pl with locked := false, disabled := false } }) (A := A) ⟨ho.t0, ho.t1, ho.us, ho.sems, ho.datas, ho.pools⟩ h
    refine call133 (over_kern h hK fun w3 h => ⟨(), rfl, ?_⟩)
    exact fin_code ((Ok.emb (h) (.cons (A := pts d [.int .i64 0, .int .i64 0]) (by with_reducible first | exact sl0 | exact .there sl0 | exact .there sl1 | exact .there sl2 | exact .there sl3 | exact .there sl4 | exact .there sl5 | exact .there sl6 | exact .there sl7 | exact .there sl8 | exact .there sl9 | exact .there sl10 | exact .there sl11 | exact .there sl12) (.same _)))) fun w4 h => kk w4 (h.emb (by repeat' (first | with_reducible exact Emb.same _ | exact Emb.nil _ | refine Emb.cons (by with_reducible first | exact sl0 | exact .there sl0 | exact .there sl1 | exact .there sl2 | exact .there sl3 | exact .there sl4 | exact .there sl5 | exact .there sl6 | exact .there sl7 | exact .there sl8 | exact .there sl9 | exact .there sl10 | exact .there sl11 | exact .there sl12) ?_ | refine Emb.skip ?_)))

end Go.Proofs.YtenonfkfoedfmaaGreatDoor.B


/- Calls of mutexes, of the state. -/
namespace Go.Proofs.YtenonfkfoedfmaaGreatDoor.B
open Go
set_option linter.unusedVariables false

/-- an object's number as the calls take it -/
abbrev clO (x : Int) : Int := if 0 > (if 9 < x then 9 else x) then 0 else (if 9 < x then 9 else x)

theorem clO_in {x n : Int} (hn : n ≤ 8) : (1 ≤ clO x ∧ clO x ≤ n) ↔ (1 ≤ x ∧ x ≤ n) := by
  unfold clO
  split <;> split at * <;> omega

theorem clO_eq {x : Int} (h : 1 ≤ x ∧ x ≤ 8) : clO x = x := by
  unfold clO
  split <;> split at * <;> omega

/-- no time-out is told -/
theorem timeout_none {e w L R} {n : Nat} {a1 a2 x0 x1 x2 x3 : Int} (h : Ok e L w) (h1 : (n : Int) ≠ a1) (h2 : (n : Int) ≠ a2) (k : ∀ w', Ok e L w' → R [.int .i64 (-1)] w') : sh141 ((n : Int), x0, x1, x2, x3, ()) a1 a2 R w := by
  unfold sh141
  exact al.mk h fun b w1 h => ldI.mk (h.cell rfl) (cs.no (by simpa using h1) (cs.no (by simpa using h2) (k w1 h.drop)))

def cIn (K : KM) : Option ((Int × Int) × KM) := some ((0, if K.pl.inn = true then 1 else 0), K)

theorem mutex_43 {e k A K r x0 x1 x2 x3} (hm : KM.cLoc x0 K = some r) : GrpC e k A K r (sh83 (some ⟨k, 0, none⟩) (((43 : Nat) : Int), x0, x1, x2, x3, ())) := by
  intro L w R h kk
  unfold KM.cLoc at hm
  unfold sh83
  refine al.mk h fun b w1 h => al.mk h fun d w2 h => ⟨by decide, by decide, ldI.mk (h.p1.cell rfl) (ldI.mk (h.p1.cell rfl) (ldI.mk (h.p1.cell rfl) (ldI.mk (h.p1.cell rfl) (ldI.mk (h.p1.cell rfl) (ldI.mk (h.p1.cell rfl) ?_)))))⟩
  refine call141 (a0 := (((43 : Nat) : Int), x0, x1, x2, x3, ())) (timeout_none h (by decide) (by decide) fun w3 h => ⟨((-1 : Int), ()), rfl, ?_⟩)
  obtain ⟨ho, h2⟩ := kerE h.p2
  obtain ⟨_, _, ⟨-, -, h8⟩, -, -⟩ := mmE ((Ok.emb (h2) (.cons (A := mmP A.lk K.mm) (by with_reducible first | exact sl0 | exact .there sl0 | exact .there sl1 | exact .there sl2 | exact .there sl3 | exact .there sl4 | exact .there sl5 | exact .there sl6 | exact .there sl7 | exact .there sl8 | exact .there sl9 | exact .there sl10 | exact .there sl11 | exact .there sl12) (.same _))))
  have hin := clO_in (x := x0) (n := (K.mm.m.length : Int) - 1) (by omega)
  refine jn.bool (decide ¬ (1 ≤ x0 ∧ x0 < K.mm.m.length)) (fun J hJ => ?_) (cs.mk (fun hc => ?_) (fun hc => ?_))
  · refine cs.mk (fun hc => ?_) (fun hc => ?_)
    · have hc : clO x0 < 1 := of_decide_eq_true hc
      rw [decide_eq_true (by omega)] at hJ
      exact hJ
    · have hc : ¬ clO x0 < 1 := of_decide_eq_false hc
      refine nn.mk (ldI.mk (h2.cell rfl) ?_)
      rw [show decide (¬ (1 ≤ x0 ∧ x0 < K.mm.m.length)) = decide ((clO x0 : Int) > (K.mm.m.length : Int) - 1) from decide_eq_decide.2 (by omega)] at hJ
      exact hJ
  · rw [if_pos (of_decide_eq_true hc)] at hm
    cases hm
    exact fin_code h fun w4 h => kk w4 h.drop
  have hc := of_decide_eq_false hc
  rw [if_neg hc] at hm
  obtain ⟨r1, hr1, hm⟩ := Option.bind_eq_some_iff.1 hm
  refine call136 (late_kern ⟨(true, ()), rfl, cs.no rfl (ldI.mk (h.p1.cell rfl) (cs.no rfl (nn.mk (ldP.mk (h2.cell rfl) ?_))))⟩)
  refine jn.mk fun J hJ => cs.no rfl (hJ _ _ (nn.mk (ldI.mk (h2.cell rfl) ⟨by kernel_rfl, ?_⟩)))
  have hx : clO x0 = x0 := clO_eq (by omega)
  show cl Pg 32 [pV A.lk, .int .i64 (clO x0), .int .i64 K.who] [kB, kI] w3 _
  rw [hx]
  have h2 : Ok e (mmP A.lk K.mm :: pts k (kC A K) :: unitsP A.ub A.us K.us :: semsP A.ss K.sems :: flgP A.fs :: datasP A.ds K.datas :: poolsP A.ps K.pools :: placeP A.pl K.pl :: hnP A.hn K.tic K.up K.tb K.last K.ents :: rdyP A.rq K.rdy :: pts d [.int .i64 0, .int .i64 0] :: pts b [.int .i64 ((43 : Nat) : Int), .int .i64 x0, .int .i64 x1, .int .i64 x2, .int .i64 x3] :: old e :: L) w3 := (Ok.emb (h2) (by repeat' (first | with_reducible exact Emb.same _ | exact Emb.nil _ | refine Emb.cons (by with_reducible first | exact sl0 | exact .there sl0 | exact .there sl1 | exact .there sl2 | exact .there sl3 | exact .there sl4 | exact .there sl5 | exact .there sl6 | exact .there sl7 | exact .there sl8 | exact .there sl9 | exact .there sl10 | exact .there sl11 | exact .there sl12) ?_ | refine Emb.skip ?_)))
  refine call32 (Lock_mtx h2 hr1 fun w4 h => ⟨(r1.1.1, r1.1.2, ()), rfl, ?_⟩)
  have hml := lock_len hr1
  have h : Ok e (pts k (kC A { K with mm := r1.2 }) :: unitsP A.ub A.us K.us :: semsP A.ss K.sems :: flgP A.fs :: datasP A.ds K.datas :: poolsP A.ps K.pools :: mmP A.lk r1.2 :: placeP A.pl K.pl :: hnP A.hn K.tic K.up K.tb K.last K.ents :: rdyP A.rq K.rdy :: pts d [.int .i64 0, .int .i64 0] :: pts b [.int .i64 ((43 : Nat) : Int), .int .i64 x0, .int .i64 x1, .int .i64 x2, .int .i64 x3] :: old e :: L) w4 := by
    have h : Ok e (pts k (kC A K) :: unitsP A.ub A.us K.us :: semsP A.ss K.sems :: flgP A.fs :: datasP A.ds K.datas :: poolsP A.ps K.pools :: mmP A.lk r1.2 :: placeP A.pl K.pl :: hnP A.hn K.tic K.up K.tb K.last K.ents :: rdyP A.rq K.rdy :: pts d [.int .i64 0, .int .i64 0] :: pts b [.int .i64 ((43 : Nat) : Int), .int .i64 x0, .int .i64 x1, .int .i64 x2, .int .i64 x3] :: old e :: L) w4 := (h.emb (by repeat' (first | with_reducible exact Emb.same _ | exact Emb.nil _ | refine Emb.cons (by with_reducible first | exact sl0 | exact .there sl0 | exact .there sl1 | exact .there sl2 | exact .there sl3 | exact .there sl4 | exact .there sl5 | exact .there sl6 | exact .there sl7 | exact .there sl8 | exact .there sl9 | exact .there sl10 | exact .there sl11 | exact .there sl12) ?_ | refine Emb.skip ?_)))
    unfold kC at h ⊢
    rw [← hml] at h
    exact h
  have h := kerI (K := { K with mm := r1.2 }) (A := A) ⟨ho.t0, ho.t1, ho.us, ho.sems, ho.datas, ho.pools⟩ h
  refine jn.bool (decide (r1.1.1 = true ∨ r1.1.2 ≠ 0)) (fun J hJ => ?_) (cs.mk (fun hc => ?_) (fun hc => ?_))
  · refine cs.mk (fun hc => ?_) (fun hc => ?_)
    · rw [decide_eq_true (.inl hc)] at hJ; exact hJ
    · rw [show decide (r1.1.1 = true ∨ r1.1.2 ≠ 0) = (r1.1.2 != 0) by rw [show r1.1.1 = false from hc, Bool.eq_iff_iff]; simp] at hJ; exact hJ
  · rw [if_pos (of_decide_eq_true hc)] at hm
    obtain ⟨K', hK, rfl⟩ := Option.map_eq_some_iff.1 hm
    refine call56 (settle_kern h hK fun w5 h => ⟨(), rfl, ?_⟩)
    exact fin_code ((Ok.emb (h) (.cons (A := pts d [.int .i64 0, .int .i64 0]) (by with_reducible first | exact sl0 | exact .there sl0 | exact .there sl1 | exact .there sl2 | exact .there sl3 | exact .there sl4 | exact .there sl5 | exact .there sl6 | exact .there sl7 | exact .there sl8 | exact .there sl9 | exact .there sl10 | exact .there sl11 | exact .there sl12) (.same _)))) fun w6 h => kk w6 (h.emb (by repeat' (first | with_reducible exact Emb.same _ | exact Emb.nil _ | refine Emb.cons (by with_reducible first | exact sl0 | exact .there sl0 | exact .there sl1 | exact .there sl2 | exact .there sl3 | exact .there sl4 | exact .there sl5 | exact .there sl6 | exact .there sl7 | exact .there sl8 | exact .there sl9 | exact .there sl10 | exact .there sl11 | exact .there sl12) ?_ | refine Emb.skip ?_)))
  · rw [if_neg (of_decide_eq_false hc)] at hm
    obtain ⟨K', hK, rfl⟩ := Option.map_eq_some_iff.1 hm
    refine cs.no rfl ?_
    show cl Pg 138 [pV k, .int .i64 7, .int .i64 (clO x0), .int .i64 (-1)] [.a [(.i .i64), (.i .i64)]] w4 _
    rw [hx]
    exact call138 (stay_kern h hK fun w5 h => ⟨(((1 : Int), (0 : Int), ()), ()), rfl, fin_res ((Ok.emb (h) (.cons (A := pts d [.int .i64 0, .int .i64 0]) (by with_reducible first | exact sl0 | exact .there sl0 | exact .there sl1 | exact .there sl2 | exact .there sl3 | exact .there sl4 | exact .there sl5 | exact .there sl6 | exact .there sl7 | exact .there sl8 | exact .there sl9 | exact .there sl10 | exact .there sl11 | exact .there sl12) (.same _)))) fun w6 h => kk w6 (h.emb (by repeat' (first | with_reducible exact Emb.same _ | exact Emb.nil _ | refine Emb.cons (by with_reducible first | exact sl0 | exact .there sl0 | exact .there sl1 | exact .there sl2 | exact .there sl3 | exact .there sl4 | exact .there sl5 | exact .there sl6 | exact .there sl7 | exact .there sl8 | exact .there sl9 | exact .there sl10 | exact .there sl11 | exact .there sl12) ?_ | refine Emb.skip ?_)))⟩)

end Go.Proofs.YtenonfkfoedfmaaGreatDoor.B


/- More calls; the calls by their numbers. -/
namespace Go.Proofs.YtenonfkfoedfmaaGreatDoor.B
open Go
set_option linter.unusedVariables false

theorem do_1 {e} (tb : TabE e) : DoC e 1 1 fun x0 _ => KM.cAct x0 := by
  intro k A K r L w x0 x1 x2 x3 R h hm kk
  exact Do_kern (n := 1) tb rfl (by decide) h hm (fun r hr => .inl ⟨by decide, tasks_1 hr⟩) kk

theorem do_4 {e} (tb : TabE e) : DoC e 4 4 fun _ _ => KM.cExt := by
  intro k A K r L w x0 x1 x2 x3 R h hm kk
  exact Do_kern (n := 4) tb rfl (by decide) h hm (fun r hr => .inl ⟨by decide, tasks_4 hr⟩) kk

theorem do_43 {e} (tb : TabE e) : DoC e 43 2 fun x0 _ => KM.cLoc x0 := by
  intro k A K r L w x0 x1 x2 x3 R h hm kk
  exact Do_kern (n := 43) tb rfl (by decide) h hm (fun r hr => .inr (.inr (.inr (.inr (.inl ⟨by decide, by decide, mutex_43 hr⟩))))) kk

theorem Mtx_kern {e w L k A K R} {o : Int} (h : Ok e (kerP k A K :: L) w) (ho : 1 ≤ o ∧ o < K.mm.m.length) (hb : (K.mm.waiting o).length ≤ 2 ^ 20) (kk : ∀ s w', s.len = (K.mm.waiting o).length → Ok e (slc 1 s (ints (K.mm.waiting o)) :: kerP k A K :: L) w' → R [.int .i64 (K.mm.owner o), vS s, .int .i64 0] w') : sh29 (some ⟨k, 0, none⟩) o R w := by
  obtain ⟨hk, h⟩ := kerE h
  unfold sh29
  refine jn.bool false (fun J hJ => cs.no (decide_eq_false (by omega)) (nn.mk (ldI.mk (h.cell rfl) ?_))) (cs.no rfl (dr.mk h fun w1 h => nn.mk (ldP.mk (h.cell rfl) (nn.mk (ldP.mk (h.cell rfl) ?_)))))
  · rw [show decide ((o : Int) > (K.mm.m.length : Int) - 1) = false from decide_eq_false (by omega)]
    exact hJ
  refine call34 (Owner_mtx ((Ok.emb (h) (.cons (A := mmP A.lk K.mm) (by with_reducible first | exact sl0 | exact .there sl0 | exact .there sl1 | exact .there sl2 | exact .there sl3 | exact .there sl4 | exact .there sl5 | exact .there sl6 | exact .there sl7 | exact .there sl8 | exact .there sl9 | exact .there sl10 | exact .there sl11 | exact .there sl12) (.same _)))) ⟨(K.mm.owner o, ()), rfl, h.cell rfl, ?_⟩)
  refine call33 (Waiting_mtx ((Ok.emb (h) (.cons (A := mmP A.lk K.mm) (by with_reducible first | exact sl0 | exact .there sl0 | exact .there sl1 | exact .there sl2 | exact .there sl3 | exact .there sl4 | exact .there sl5 | exact .there sl6 | exact .there sl7 | exact .there sl8 | exact .there sl9 | exact .there sl10 | exact .there sl11 | exact .there sl12) (.same _)))) hb fun s w2 hs h => ⟨(s, ()), rfl, kk s w2 hs ?_⟩)
  exact (kerI (A := A) hk (h.emb (by repeat' (first | with_reducible exact Emb.same _ | exact Emb.nil _ | refine Emb.cons (by with_reducible first | exact sl0 | exact .there sl0 | exact .there sl1 | exact .there sl2 | exact .there sl3 | exact .there sl4 | exact .there sl5 | exact .there sl6 | exact .there sl7 | exact .there sl8 | exact .there sl9 | exact .there sl10 | exact .there sl11 | exact .there sl12) ?_ | refine Emb.skip ?_)))).p1

end Go.Proofs.YtenonfkfoedfmaaGreatDoor.B


/- TopDelays, as plain Lean. -/
namespace Go.Proofs.YtenonfkfoedfmaaGreatDoor.B
open Go
set_option linter.unusedVariables false

theorem tick_of {K : KM} (h : 0 ≤ K.up ∧ K.up ≤ 2 ^ 40) : K.tick = (KM.tickL ((dueE (K.up + K.tic) K.ents).map Ent.arg) { K with up := K.up + K.tic, ents := restE (K.up + K.tic) K.ents }).map KM.choose := if_pos h

theorem due_no {now : Int} {x : Ent} {l : List Ent} (h : now < x.at') : dueE now (x :: l) = [] := List.takeWhile_cons_of_neg (by simpa using h)

theorem rest_no {now : Int} {x : Ent} {l : List Ent} (h : now < x.at') : restE now (x :: l) = x :: l := List.dropWhile_cons_of_neg (by simpa using h)

namespace Del

def M1 : MM := (((MM.new []).setBase 1 1).getD (0, MM.new [])).2

def pl0 : PlaceM := ⟨[], false, false⟩

def u1 : Un := ⟨0, 0, 0, 2, false, 1, 1, 0, 0, 0, 0, 0⟩

def cf (t : Int) : ConfM := ⟨t, [(1, true)], [], [], [], []⟩

def K0 (t : Int) : KM := ⟨pl0, t, 0, 0, 0, [], [(1, 1)], M1, [u1], [], [], [], 1⟩

def KW (t d up : Int) : KM := ⟨pl0, t, up, 0, 1, [⟨d + t, 1, 1⟩], [], M1, [{ u1 with state := 4, kind := 2, handle := 1 }], [], [], [], 0⟩

def KR (t up : Int) : KM := ⟨pl0, t, up, 0, 1, [], [(1, 1)], M1, [u1], [], [], [], 1⟩

theorem ok_cf {t : Int} (ht : 1 ≤ t ∧ t ≤ 100) : (cf t).ok = true := by
  unfold ConfM.ok
  rw [decide_eq_true ⟨ht.1, by show t ≤ 1000; omega, by simp [cf], by simp [cf], by simp [cf], by simp [cf], by simp [cf], by simp [cf]⟩]
  rfl

end Del

end Go.Proofs.YtenonfkfoedfmaaGreatDoor.B


/- What every law's proof wants: arguments that came in, and the step from a shallow program to the call. -/
namespace Go.Proofs.YtenonfkfoedfmaaGreatDoor.B
open Go
theorem enc_i {a b : Int} (h : a = b) : encK [kI] (a, ()) = [.int .i64 b] := by rw [h]; rfl
theorem enc_b {a b : Bool} (h : a = b) : encK [kB] (a, ()) = [.bool b] := by rw [h]; rfl
/-- a slice of whole numbers that came in -/
structure ArgI (k : IntKind) (e : World) (s : Sl) (xs : List Int) : Prop where
  len : xs.length = s.len
  cell : ∀ i x, xs[i]? = some x → ∃ b o, s.a = some ⟨b, o, none⟩ ∧ b < e.heap.size ∧ e.cell? ⟨b, o + i, none⟩ = some (.int k x)
  wf : ∀ x ∈ xs, (Lit.int k x).wf = true
  cap : s.len ≤ s.cap
/-- a slice of elements of 'sz' cells that came in -/
structure ArgS (sz : Nat) (e : World) (s : Sl) (vs : List Value) : Prop where
  len : vs.length = s.len * sz
  cell : ∀ i x, vs[i]? = some x → ∃ b o, s.a = some ⟨b, o, none⟩ ∧ b < e.heap.size ∧ e.cell? ⟨b, o + i, none⟩ = some x
  cap : s.len ≤ s.cap
/-- a slice of whole numbers that may be read as long as a part of the memory stays -/
def Rd (e : World) (A : SP) (k : IntKind) (s : Sl) (xs : List Int) : Prop :=
  xs.length = s.len ∧ ∀ (i : Nat) (x : Int), xs[i]? = some x → ∃ b o, s.a = some ⟨b, o, none⟩ ∧ ∀ L w, Ok e (A :: L) w → w.cell? ⟨b, o + i, none⟩ = some (.int k x)
theorem rd_arg {k : IntKind} {e : World} {s : Sl} {xs : List Int} (h : ArgI k e s xs) : Rd e (old e) k s xs := by
  refine ⟨h.len, fun i x hx => ?_⟩
  obtain ⟨b, o, ha, hb, hc⟩ := h.cell i x hx
  exact ⟨b, o, ha, fun L w hw => by rw [hw.old_cell (a := ⟨b, o + i, none⟩) hb]; exact hc⟩
theorem rd_slc {k : IntKind} {e : World} {L : List SP} {w : World} {s : Sl} {xs : List Int} (h : Ok e (slc 1 s (xs.map (Value.int k)) :: L) w) : Rd e (slc 1 s (xs.map (Value.int k))) k s xs := by
  obtain ⟨hl, hv, hc, hcase⟩ := h.slcE
  rw [List.length_map, Nat.mul_one] at hl
  refine ⟨hl, fun i x hx => ?_⟩
  have hlt := (List.getElem?_eq_some_iff.1 hx).1
  rcases hcase with ⟨ha, hcap, _⟩ | ⟨b, post, ha, _, _⟩
  · omega
  · refine ⟨b, 0, ha, fun L w hw => ?_⟩
    have := hw.slc_cells ha i (.int k x) (by rw [List.getElem?_map, hx]; rfl)
    rw [Addr.add_lit] at this
    exact this
theorem ix_rd {e : World} {A : SP} {k : IntKind} {s : Sl} {xs : List Int} {i : Int} {f : Nat → Nat → Prop} (h : Rd e A k s xs) (h0 : 0 ≤ i) (h1 : i < s.len)
    (kk : ∀ b o x, xs[i.toNat]? = some x → (∀ L w, Ok e (A :: L) w → w.cell? ⟨b, o, none⟩ = some (.int k x)) → f b o) : ix s i 1 f := by
  have hlt : i.toNat < xs.length := by rw [h.1]; omega
  obtain ⟨b, o, ha, hc⟩ := h.2 i.toNat _ (List.getElem?_eq_getElem hlt)
  refine ⟨b, o, ha, h0, h1, ?_⟩
  rw [Nat.mul_one]
  exact kk b _ _ (List.getElem?_eq_getElem hlt) hc
/-- a part of such a slice -/
theorem sb_rd {e : World} {A : SP} {k : IntKind} {s : Sl} {xs : List Int} {lo hi mx : Int} {f : Sl → Prop} (h : Rd e A k s xs) (h0 : 0 ≤ lo) (h1 : lo ≤ hi) (h2 : hi ≤ s.len) (h3 : hi ≤ mx) (h4 : mx ≤ s.cap)
    (kk : ∀ x : Sl, x.len = hi.toNat - lo.toNat → x.len ≤ x.cap → Rd e A k x ((xs.take hi.toNat).drop lo.toNat) → f x) : sb s lo hi mx 1 f := by
  refine ⟨h0, h1, h3, h4, kk _ (by simp [Sl.sub]) (by simp [Sl.sub]; omega) ⟨by rw [List.length_drop, List.length_take, h.1]; simp [Sl.sub]; omega, fun i x hx => ?_⟩⟩
  rw [List.getElem?_drop] at hx
  have hlt := (List.getElem?_eq_some_iff.1 hx).1
  rw [List.length_take] at hlt
  rw [List.getElem?_take_of_lt (by omega)] at hx
  obtain ⟨b, o, ha, hc⟩ := h.2 _ x hx
  refine ⟨b, o + lo.toNat, ?_, fun L w hw => by rw [Nat.add_assoc]; exact hc L w hw⟩
  simp only [Sl.sub, ha, Option.map_some, Nat.mul_one]
  rw [if_neg (by omega), Addr.add_lit]
theorem wf_u8 {x : Int} (h : (Lit.int .u8 x).wf = true) : 0 ≤ x ∧ x ≤ 255 := by simpa [Lit.wf, IntKind.min, IntKind.max, IntKind.signed, IntKind.bits] using h
theorem wf_i64 {x : Int} (h : (Lit.int .i64 x).wf = true) : -9223372036854775808 ≤ x ∧ x ≤ 9223372036854775807 := by simpa [Lit.wf, IntKind.min, IntKind.max, IntKind.signed, IntKind.bits] using h
theorem wf_u32 {x : Int} (h : (Lit.int .u32 x).wf = true) : 0 ≤ x ∧ x ≤ 4294967295 := by simpa [Lit.wf, IntKind.min, IntKind.max, IntKind.signed, IntKind.bits] using h
theorem ArgI.u8 {e s xs} (h : ArgI .u8 e s xs) {x : Int} (hx : x ∈ xs) : 0 ≤ x ∧ x ≤ 255 := by
  have := h.wf x hx
  simpa [Lit.wf, IntKind.min, IntKind.max, IntKind.signed, IntKind.bits] using this
theorem ArgI.i64 {e s xs} (h : ArgI .i64 e s xs) {x : Int} (hx : x ∈ xs) : -9223372036854775808 ≤ x ∧ x ≤ 9223372036854775807 := by
  have := h.wf x hx
  simpa [Lit.wf, IntKind.min, IntKind.max, IntKind.signed, IntKind.bits] using this
section
variable {e : World} {L : List SP} {w : World} {s : Sl}
theorem ix_arg {k : IntKind} {xs : List Int} {i : Int} {f : Nat → Nat → Prop} (h : ArgI k e s xs) (h0 : 0 ≤ i) (h1 : i < s.len)
    (kk : ∀ b o x, xs[i.toNat]? = some x → (∀ w', (∃ L', Ok e (old e :: L') w') → w'.cell? ⟨b, o, none⟩ = some (.int k x)) → f b o) : ix s i 1 f := by
  have hlt : i.toNat < xs.length := by rw [h.len]; omega
  obtain ⟨b, o, ha, hb, hc⟩ := h.cell i.toNat _ (List.getElem?_eq_getElem hlt)
  refine ⟨b, o, ha, h0, h1, kk b _ _ (List.getElem?_eq_getElem hlt) ?_⟩
  rintro w' ⟨L', h'⟩
  rw [h'.old_cell (a := ⟨b, o + i.toNat * 1, none⟩) hb, Nat.mul_one]; exact hc
theorem ix_args {sz : Nat} {vs : List Value} {i : Int} {f : Nat → Nat → Prop} (h : ArgS sz e s vs) (hsz : 0 < sz) (h0 : 0 ≤ i) (h1 : i < s.len)
    (kk : ∀ b o, (∀ j v, j < sz → vs[i.toNat * sz + j]? = some v → ∀ w', (∃ L', Ok e (old e :: L') w') → w'.cell? ⟨b, o + j, none⟩ = some v) → f b o) : ix s i sz f := by
  have hlt : i.toNat * sz < vs.length := by
    rw [h.len]
    exact Nat.mul_lt_mul_of_pos_right (by omega) hsz
  obtain ⟨b, o, ha, hb, hc⟩ := h.cell (i.toNat * sz) _ (List.getElem?_eq_getElem hlt)
  refine ⟨b, o, ha, h0, h1, kk b _ fun j v hj hv w' ⟨L', h'⟩ => ?_⟩
  obtain ⟨b', o', ha', hb', hc'⟩ := h.cell _ _ hv
  rw [ha] at ha'; cases ha'
  rw [h'.old_cell (a := ⟨b, o + i.toNat * sz + j, none⟩) hb, Nat.add_assoc]; exact hc'
theorem law_calls {P : Program} {f : FuncId} {fn : Func} {pl : Plan} {args : List Value} {w : World} {S : Prop} (hf : P.funcs[f]? = some fn)
    (tie : compF P fn pl args (fun vs w' => vs = [.bool true] ∧ Ok w [old w] w') w = S) (h : S) :
    Calls P f args.toArray w fun e w' => e = .returned (.bool true) ∧ Go.RowKit.Below w.heap.size w w' := by
  rw [← tie] at h
  refine Calls.mono (calls_of hf h) ?_
  rintro e w' ⟨vs, rfl, rfl, hok⟩
  exact ⟨rfl, hok.below⟩
end
end Go.Proofs.YtenonfkfoedfmaaGreatDoor.B


/- TopDelays: the walk. -/
namespace Go.Proofs.YtenonfkfoedfmaaGreatDoor.B
open Go
set_option linter.unusedVariables false

theorem w64_mod {a m : Int} (ha : 0 ≤ a) (hm : 0 < m ∧ m ≤ 1000000) : w64 (1 + w64 (Int.tmod a m)) = 1 + a % m ∧ 0 ≤ a % m ∧ a % m < m := by
  have h1 : Int.tmod a m = a % m := Int.tmod_eq_emod_of_nonneg ha
  have h2 := Int.emod_nonneg a (show m ≠ 0 by omega)
  have h3 := Int.emod_lt_of_pos a hm.1
  rw [h1, w64_in (x := a % m) (by omega) (by omega), w64_in (by omega) (by omega)]
  exact ⟨rfl, h2, h3⟩

end Go.Proofs.YtenonfkfoedfmaaGreatDoor.B


/- TopSelf. -/
namespace Go.Proofs.YtenonfkfoedfmaaGreatDoor.B
open Go
set_option linter.unusedVariables false

/-- the law, as plain Lean -/
def selfM (q lev : Int) : Option Bool :=
  (KM.new ⟨1, [(q, true)], [], [], [], []⟩).bind fun K0 =>
  (K0.call 1 KM.cTid).bind fun r1 =>
  (r1.2.call 1 (KM.cPri 0)).bind fun r2 =>
  (r2.2.call 0 cIn).bind fun r3 =>
  ((r3.2.intr lev).2.call 0 cIn).bind fun r4 =>
  (r4.2.call 3 KM.cItid).bind fun r5 =>
  (r5.2.call 1 KM.cTid).bind fun r6 =>
  if ¬ (r3.2.pl.lv.length ≤ 100 ∧ r6.2.pl.lv.length ≤ 100) then none else
  some (decide (r1.1.1 = 0) && decide (r1.1.2 = 1) && decide (r2.1.1 = 0) && decide (r2.1.2 = q) && decide (r3.1.2 = 0) && decide ((r3.2.intr lev).1 = 0) && decide (r4.1.2 = 1) && decide (r5.1.1 = 0) && decide (r5.1.2 = 1) && decide (r6.1.1 = -25))

end Go.Proofs.YtenonfkfoedfmaaGreatDoor.B


/- TopInverts. -/
namespace Go.Proofs.YtenonfkfoedfmaaGreatDoor.B
open Go
set_option linter.unusedVariables false

/-- the law, as plain Lean: the kernel of three tasks and a mutex -/
def invM (a b h : Int) (inh : Bool) : Option Bool :=
  (KM.new ⟨1, [(a, true), (b, false), (h, false)], [], [], [(if inh = true then 2 else 1, 0)], []⟩).bind fun K0 =>
  (K0.call 2 (KM.cLoc 1)).bind fun r1 =>
  (r1.2.call 1 (KM.cAct 3)).bind fun r2 =>
  (r2.2.call 2 (KM.cLoc 1)).bind fun r3 =>
  (r3.2.call 1 (KM.cAct 2)).bind fun r4 => some (decide (r4.2.who = if inh = true then 1 else 2))

/-- all priorities -/
def invAll (inh : Bool) : Bool := (List.range 16).all fun a => (List.range a).all fun b => (List.range b).all fun h => invM (1 + (a : Int)) (1 + (b : Int)) (1 + (h : Int)) inh == some true

theorem invAll_f : invAll false = true := by decide +kernel

theorem invAll_t : invAll true = true := by decide +kernel

end Go.Proofs.YtenonfkfoedfmaaGreatDoor.B


/- TopInherits. -/
namespace Go.Proofs.YtenonfkfoedfmaaGreatDoor.B
open Go
set_option linter.unusedVariables false

def inhC (a b : Int) : ConfM := ⟨1, [(a, true), (b, false)], [], [], [(2, 0)], []⟩

/-- the law, as plain Lean -/
def inhM (a b : Int) : Option Bool :=
  (KM.new (inhC a b)).bind fun K0 =>
  (K0.call 2 (KM.cLoc 1)).bind fun r1 =>
  (r1.2.call 1 (KM.cAct 2)).bind fun r2 =>
  if ¬ (r1.1.1 = 0 ∧ r2.1.1 = 0 ∧ r2.2.who = 2) then none else
  (r2.2.call 2 (KM.cLoc 1)).bind fun r3 =>
  (r3.2.call 1 (KM.cPri 1)).bind fun r4 =>
  if ¬ (r3.1.1 = 1 ∧ r4.2.who = 1 ∧ r4.1.2 = b) then none else
  (r4.2.call 1 (KM.cUnl 1)).bind fun r5 =>
  (r5.2.call 1 (KM.cPri 1)).bind fun r6 =>
  (r6.2.task 2).bind fun f =>
  if ¬ (1 < r6.2.mm.m.length ∧ (r6.2.mm.waiting 1).length ≤ 100) then none else
  some (decide (r5.1.1 = 0) && decide (r6.2.who = 2) && decide (r6.1.2 = a) && decide (r6.2.mm.owner 1 = 2) && decide (f.lc = 0))

/-- a task of a configuration is made not active -/
theorem st_task {e : World} {L : List SP} {w : World} {s : Sl} {l : List (Int × Bool)} {x : Int × Bool} {i : Nat} {c : Bool} {g : World → Prop} (h : Ok e (slc 2 s (flat taC l) :: L) w) (hi : l[i]? = some x)
    (k : ∀ w', Ok e (slc 2 s (flat taC (l.set i (x.1, c))) :: L) w' → g w') : ix s (i : Int) 2 fun b2 o2 => st1 w b2 (o2 + 1) (.bool c) g := by
  have hlt := (List.getElem?_eq_some_iff.1 hi).1
  refine ix_flat taC_len (by decide) h (by omega) (by omega) fun b2 o2 y hy ha ho hc => ?_
  rw [Int.toNat_natCast] at hy ho
  rw [hi] at hy
  cases hy
  exact st_flat (i := i) (j := 1) (a := x) (a' := (x.1, c)) (v := .bool c) taC_len taC_one h hi (by decide) rfl ha (by rw [ho]) k

theorem conf_mtxs {e L w x m} {l : List (Int × Bool)} {ms : List (Int × Int)} (tic : Int) (h : Ok e (slc 2 x (flat taC l) :: slc 2 m (flat kdC ms) :: L) w) : Ok e (cfR ⟨tic, l, [], [], ms, []⟩ ⟨x, nilS, nilS, m, nilS⟩ L) w := by
  have h := ((h.slcNil 3).slcNil 2).slcNil 3
  have h2 : Ok e (slc 2 x (flat taC l) :: slc 3 nilS [] :: slc 2 nilS [] :: slc 2 m (flat kdC ms) :: slc 3 nilS [] :: L) w := (h.emb (by repeat' (first | with_reducible exact Emb.same _ | exact Emb.nil _ | refine Emb.cons (by with_reducible first | exact sl0 | exact .there sl0 | exact .there sl1 | exact .there sl2 | exact .there sl3 | exact .there sl4 | exact .there sl5 | exact .there sl6 | exact .there sl7 | exact .there sl8 | exact .there sl9 | exact .there sl10 | exact .there sl11 | exact .there sl12) ?_ | refine Emb.skip ?_)))
  exact h2

end Go.Proofs.YtenonfkfoedfmaaGreatDoor.B


/- TopInverts: the walk. -/
namespace Go.Proofs.YtenonfkfoedfmaaGreatDoor.B
open Go
set_option linter.unusedVariables false

theorem invM_true {a b h : Int} {inh : Bool} (ha : 0 ≤ a ∧ a < 16) (hb : 0 ≤ b ∧ b < a) (hh : 0 ≤ h ∧ h < b) : invM (1 + a) (1 + b) (1 + h) inh = some true := by
  have h0 : invAll inh = true := by cases inh; exact invAll_f; exact invAll_t
  have h1 := List.all_eq_true.1 h0 a.toNat (List.mem_range.2 (by omega))
  have h2 := List.all_eq_true.1 h1 b.toNat (List.mem_range.2 (by omega))
  have h3 := List.all_eq_true.1 h2 h.toNat (List.mem_range.2 (by omega))
  rw [Int.toNat_of_nonneg ha.1, Int.toNat_of_nonneg hb.1, Int.toNat_of_nonneg hh.1] at h3
  simpa using h3

def invC (a b h : Int) (inh : Bool) : ConfM := ⟨1, [(a, true), (b, false), (h, false)], [], [], [(if inh = true then 2 else 1, 0)], []⟩

theorem ok_inv {a b h : Int} {inh : Bool} (ha : 1 ≤ a ∧ a ≤ 16) (hb : 1 ≤ b ∧ b ≤ 16) (hh : 1 ≤ h ∧ h ≤ 16) : (invC a b h inh).ok = true := by
  unfold invC
  simp only [ConfM.ok, poolsOk, Bool.and_eq_true, decide_eq_true_eq, List.all_cons, List.all_nil, List.length_cons, List.length_nil]
  refine ⟨⟨⟨⟨⟨by omega, ?_⟩, ?_⟩, ?_⟩, ?_⟩, ?_⟩ <;> first | trivial | exact ⟨ha, hb, hh, trivial⟩ | (cases inh <;> exact ⟨rfl, trivial⟩)

theorem inverts_walk {e L w a0 a1 a2 a3 R} (tb : TabE e) (h : Ok e (old e :: L) w) (h0 : 0 ≤ a0 ∧ a0 ≤ 255) (h1 : 0 ≤ a1 ∧ a1 ≤ 255) (h2 : 0 ≤ a2 ∧ a2 ≤ 255) (kk : ∀ w', Ok e (old e :: L) w' → R [.bool true] w') : sh4 a0 a1 a2 a3 R w := by
  unfold sh4
  refine call17 (known_top tb h fun w1 h => ⟨(true, ()), rfl, cs.no rfl ?_⟩)
  obtain ⟨e1, e2, e3⟩ := w64_mod (a := a0) (m := 16) h0.1 (by decide)
  obtain ⟨f1, f2, f3⟩ := w64_mod (a := a1) (m := 16) h1.1 (by decide)
  obtain ⟨g1, g2, g3⟩ := w64_mod (a := a2) (m := 16) h2.1 (by decide)
  rw [e1, f1, g1]
  refine jn.bool (decide (a2 % 16 < a1 % 16 ∧ a1 % 16 < a0 % 16)) (fun J hJ => cs.mk (fun hc => ?_) (fun hc => ?_)) (cs.mk (fun hc => kk _ h) (fun hc => ?_))
  · have hc := of_decide_eq_true hc
    rw [show decide (1 + a1 % 16 < 1 + a0 % 16) = decide (a2 % 16 < a1 % 16 ∧ a1 % 16 < a0 % 16) from decide_eq_decide.2 (by omega)]
    exact hJ
  · have hc := of_decide_eq_false hc
    rw [decide_eq_false (by omega)] at hJ
    exact hJ
  have hc : a2 % 16 < a1 % 16 ∧ a1 % 16 < a0 % 16 := by simpa using hc
  have hM := invM_true (a := a0 % 16) (b := a1 % 16) (h := a2 % 16) (inh := a3) ⟨e2, e3⟩ ⟨f2, hc.2⟩ ⟨g2, hc.1⟩
  obtain ⟨a, ha⟩ : ∃ q, q = 1 + a0 % 16 := ⟨_, rfl⟩
  obtain ⟨b', hb⟩ : ∃ q, q = 1 + a1 % 16 := ⟨_, rfl⟩
  obtain ⟨c', hc'⟩ : ∃ q, q = 1 + a2 % 16 := ⟨_, rfl⟩
  rw [← ha, ← hb, ← hc'] at hM ⊢
  have ha1 : 1 ≤ a ∧ a ≤ 16 := by omega
  have hb1 : 1 ≤ b' ∧ b' ≤ 16 := by omega
  have hc1 : 1 ≤ c' ∧ c' ≤ 16 := by omega
  unfold invM at hM
  obtain ⟨K0, hK0, hM⟩ := Option.bind_eq_some_iff.1 hM
  obtain ⟨r1, hr1, hM⟩ := Option.bind_eq_some_iff.1 hM
  obtain ⟨r2, hr2, hM⟩ := Option.bind_eq_some_iff.1 hM
  obtain ⟨r3, hr3, hM⟩ := Option.bind_eq_some_iff.1 hM
  obtain ⟨r4, hr4, hM⟩ := Option.bind_eq_some_iff.1 hM
  have hM := of_decide_eq_true (Option.some.inj hM)
  refine al.mk h fun b w2 h => ?_
  refine call18 (a0 := ⟨some ⟨b, 0, none⟩, 3, 3⟩) (tasks_top (l := [a, b', c']) (slcOf (l := [a, b', c']) h) (by simp) fun x w2 h => ⟨(((1 : Int), x, nilS, nilS, nilS, nilS, nilS, nilS, (0 : Int), ()), ()), rfl, ?_⟩)
  refine al.mk h fun c w3 h => ?_
  refine st1.mk h (by simp) fun w1 h => st1.mk h (by simp) fun w1 h => st1.mk h (by simp) fun w1 h => st1.mk h (by simp) fun w1 h => st1.mk h (by simp) fun w1 h => st1.mk h (by simp) fun w1 h => st1.mk h (by simp) fun w1 h => st1.mk h (by simp) fun w1 h => st1.mk h (by simp) fun w1 h => ?_
  refine ldS.mk (h.cell rfl) (st_task (i := 1) (x := (b', true)) (c := false) h.p1 rfl fun w4 h => ?_)
  refine ldS.mk (h.p1.cell rfl) (st_task (i := 2) (x := (c', true)) (c := false) h rfl fun w4 h => ?_)
  refine al.mk h fun d w5 h => st1.mk h.p2 (by simp) fun w6 h => ?_
  have h : Ok e (pts c [.int .i64 1, vS x, vS nilS, vS nilS, vS nilS, vS ⟨some ⟨d, 0, none⟩, 1, 1⟩, vS nilS, vS nilS, .int .i64 0] :: pts d [.int .i64 1, .int .i64 0] :: slc 2 x (flat taC [(a, true), (b', false), (c', false)]) :: old e :: L) w6 := h
  refine jn.at (t := ()) (fun w6 => Ok e (pts c [.int .i64 1, vS x, vS nilS, vS nilS, vS nilS, vS ⟨some ⟨d, 0, none⟩, 1, 1⟩, vS nilS, vS nilS, .int .i64 0] :: pts d [.int .i64 (if a3 = true then 2 else 1), .int .i64 0] :: slc 2 x (flat taC [(a, true), (b', false), (c', false)]) :: old e :: L) w6) (fun J hJ => cs.mk (fun h3 => ?_) (fun h3 => ?_)) (fun w6 h => ?_)
  · refine ldS.mk (h.cell rfl) ⟨d, 0, rfl, by decide, (show (0 : Int) < ((1 : Nat) : Int) by decide), st1.mk h.p1 (by simp) fun w7 h => hJ w7 ?_⟩
    rw [if_pos h3]
    exact h.p1
  · refine hJ w6 ?_
    rw [if_neg (by rw [h3]; decide)]
    exact h
  refine ldI.mk (h.cell rfl) (ldS.mk (h.cell rfl) (ldS.mk (h.cell rfl) (ldS.mk (h.cell rfl) (ldS.mk (h.cell rfl) (ldS.mk (h.cell rfl) (ldS.mk (h.cell rfl) (ldS.mk (h.cell rfl) (ldI.mk (h.cell rfl) ?_))))))))
  have h : Ok e (slc 2 x (flat taC [(a, true), (b', false), (c', false)]) :: slc 2 ⟨some ⟨d, 0, none⟩, 1, 1⟩ (flat kdC [((if a3 = true then 2 else 1 : Int), (0 : Int))]) :: old e :: L) w6 :=
    (Ok.slcNew (vs := flat kdC [((if a3 = true then 2 else 1 : Int), (0 : Int))]) (sz := 2) (n := 1) (h.drop : Ok e (pts d (flat kdC [((if a3 = true then 2 else 1 : Int), (0 : Int))]) :: slc 2 x (flat taC [(a, true), (b', false), (c', false)]) :: old e :: L) w6) rfl (flat_one kdC_one1)).p1
  refine call19 (a0 := cfV (invC a b' c' a3) ⟨x, nilS, nilS, ⟨some ⟨d, 0, none⟩, 1, 1⟩, nilS⟩) (open_top tb (conf_mtxs 1 h) (ok_inv ha1 hb1 hc1) hK0 fun k A w3 h => ⟨(some ⟨k, 0, none⟩, ()), rfl, cs.no rfl ?_⟩)
  have h : Ok e (kerP k A K0 :: old e :: L) w3 := (h.emb (by repeat' (first | with_reducible exact Emb.same _ | exact Emb.nil _ | refine Emb.cons (by with_reducible first | exact sl0 | exact .there sl0 | exact .there sl1 | exact .there sl2 | exact .there sl3 | exact .there sl4 | exact .there sl5 | exact .there sl6 | exact .there sl7 | exact .there sl8 | exact .there sl9 | exact .there sl10 | exact .there sl11 | exact .there sl12) ?_ | refine Emb.skip ?_)))
  refine al.mk h fun b1 w4 h => ?_
  refine call20 (a2 := ⟨some ⟨b1, 0, none⟩, 1, 1⟩) (do_top (n := 43) (xs := [1]) (do_43 tb) (slcOf (l := [1]) h) (by simp) hr1 fun w5 h => ⟨(r1.1.1, r1.1.2, ()), rfl, ?_⟩)
  refine al.mk h fun b1 w4 h => ?_
  refine call20 (a2 := ⟨some ⟨b1, 0, none⟩, 1, 1⟩) (do_top (n := 1) (xs := [3]) (do_1 tb) (slcOf (l := [3]) h) (by simp) hr2 fun w5 h => ⟨(r2.1.1, r2.1.2, ()), rfl, ?_⟩)
  refine al.mk h fun b1 w4 h => ?_
  refine call20 (a2 := ⟨some ⟨b1, 0, none⟩, 1, 1⟩) (do_top (n := 43) (xs := [1]) (do_43 tb) (slcOf (l := [1]) h) (by simp) hr3 fun w5 h => ⟨(r3.1.1, r3.1.2, ()), rfl, ?_⟩)
  refine al.mk h fun b1 w4 h => ?_
  refine call20 (a2 := ⟨some ⟨b1, 0, none⟩, 1, 1⟩) (do_top (n := 1) (xs := [2]) (do_1 tb) (slcOf (l := [2]) h) (by simp) hr4 fun w5 h => ⟨(r4.1.1, r4.1.2, ()), rfl, ?_⟩)
  refine cs.mk (fun h3 => call21 (Running_kern h ⟨(r4.2.who, ()), rfl, ?_⟩)) (fun h3 => call21 (Running_kern h ⟨(r4.2.who, ()), rfl, ?_⟩))
  · rw [if_pos h3] at hM
    dsimp only
    rw [hM]
    exact kk _ h.drop
  · rw [if_neg (by rw [h3]; decide)] at hM
    dsimp only
    rw [hM]
    exact kk _ h.drop

theorem TopInverts_walk {W a0 a1 a2 a3} (tb : TabE W) (h0 : (Lit.int .u8 a0).wf = true) (h1 : (Lit.int .u8 a1).wf = true) (h2 : (Lit.int .u8 a2).wf = true) : sh4 a0 a1 a2 a3 (fun vs w' => vs = [.bool true] ∧ Ok W [old W] w') W :=
  inverts_walk tb (Ok.start W) (wf_u8 h0) (wf_u8 h1) (wf_u8 h2) fun w' h => ⟨rfl, h⟩

end Go.Proofs.YtenonfkfoedfmaaGreatDoor.B


/- What the rows of the whole lay: the library's table. -/
namespace Go.Proofs.YtenonfkfoedfmaaGreatDoor.B
open Go
open Go.ChangeShapes Go.WideShapes Go.ChangeAt Go.RowKit
set_option linter.unusedVariables false

abbrev laidL : List (String × DataW Unit) := [("math/bits.deBruijn64tab", Rows.laid_math_bits_deBruijn64tab)]

theorem gTab : Tryz.prog.globalNamed "math/bits.deBruijn64tab" = some 0 := by kernel_rfl

theorem tTab : (Tryz.prog.globals[0]?).map (·.type) = some 339 := by kernel_rfl

theorem uTab : Tryz.prog.underlying 339 = some (.array 64 5) := by kernel_rfl

theorem uU8 : Tryz.prog.underlying 5 = some (.int .u8) := by kernel_rfl

theorem door_met (os : Os) (args : Array Value) : laidMetH Tryz.prog laidL ((World.doorLaid Tryz.prog 400 os).forCall (fun _ _ => 0) ⟨#[], args, []⟩).memory :=
  laidMetH_of_parts3 (fuel := 8) (laidMet_of_run' 8 (by kernel_rfl) (by kernel_rfl)) (by kernel_rfl) (by kernel_rfl)

theorem of_laid {W : World} (h : laidMetH Tryz.prog laidL W) : TabE W := by
  rw [MakeChecks.laidMetH_plain _ _ _ (by kernel_rfl)] at h
  obtain ⟨ps, ⟨g0, t0, cs0, f0, p0, q0, hg0, ht0, hv0, hd0, _⟩, _, _⟩ := h
  obtain rfl := Option.some.inj (gTab.symm.trans hg0)
  obtain rfl := Option.some.inj (tTab.symm.trans ht0)
  obtain ⟨xs, m1, rfl, hx1, hlen, hn3, hel⟩ := DataW.trod_array uTab hd0
  have c1 : Tryz.prog.cellsOf 5 = 1 := by kernel_rfl
  rw [c1] at hel
  have hx2 : (tzTab.map fun v => (DataW.lit (.int .u8 v) : DataW Unit)) = xs.map (·.1) := by
    have := congrArg Prod.fst hx1
    exact (DataW.agg.injEq _ _).mp this
  refine ⟨fun j v hv => ?_, ?_⟩
  · have hj : j < 64 := (List.getElem?_eq_some_iff.1 hv).1
    have h1 : (xs.map (·.1))[j]? = some (DataW.lit (.int .u8 v)) := by rw [← hx2, List.getElem?_map, hv]; rfl
    rw [List.getElem?_map] at h1
    obtain ⟨x, hx, hxe⟩ := Option.map_eq_some_iff.1 h1
    have h2 := hel j hj
    rw [hx] at h2
    obtain ⟨n, e1, e2, _⟩ := DataW.trod_int uU8 h2
    have hnv : n = v := by
      rw [e2] at hxe
      simpa using hxe
    subst hnv
    rw [World.var?_cell hg0 hv0 j]
    have h3 : (cs0.toList.drop j)[0]? = some (.int .u8 n) := by
      rw [Nat.mul_one] at e1
      have : ((cs0.toList.drop j).take 1)[0]? = some (.int .u8 n) := by rw [e1]; rfl
      simpa using this
    rw [List.getElem?_drop] at h3
    simpa using h3
  · have := World.var?_cell hg0 hv0 0
    unfold World.var? at hv0
    rw [hg0, Option.bind_some] at hv0
    apply Nat.lt_of_not_le
    intro hc
    rw [Array.getElem?_eq_none hc] at hv0
    cases hv0

/-! ### what a row asks of the program -/
theorem and_i {a b : Bool} (h1 : a = true) (h2 : b = true) : (a && b) = true := by rw [h1, h2]; rfl

theorem pf1 : (laidOutB Tryz.prog) = true := by kernel_rfl

theorem pf2 : (mapsRowed Tryz.prog) = true := by kernel_rfl

theorem pf5 : ((Rows.topDelaysRow.stops == [])) = true := by kernel_rfl

theorem pf6 : ((Tryz.prog.stops == [])) = true := by kernel_rfl

theorem pf7 : ((Rows.topDelaysRow.knobs == [])) = true := by kernel_rfl

theorem pf8 : ((Tryz.prog.stopKnobs == [])) = true := by kernel_rfl

theorem pf22 : ((Rows.topDelaysRow.plainKeys == Tryz.prog.plainKeys)) = true := by kernel_rfl

theorem pf23 : (Rows.topDelaysRow.shortTexts.isNone) = true := by kernel_rfl

theorem pf24 : (Tryz.prog.stopsHeard) = true := by kernel_rfl

theorem pf25 : (Tryz.prog.mayEnter) = true := by kernel_rfl

theorem pf26 : ((Rows.topDelaysRow.lifted == Tryz.prog.liftsFinal)) = true := by kernel_rfl

theorem pf27 : ((Tryz.prog.make == some Rows.topDelaysRow.make)) = true := by kernel_rfl

end Go.Proofs.YtenonfkfoedfmaaGreatDoor.B


/- What came in: slices of scalars, and of structs of scalars, opened to their cells. -/
namespace Go.Proofs.YtenonfkfoedfmaaGreatDoor.B
open Go
open Go.Deep (open_slice choose_lt)
set_option linter.unusedVariables false
inductive Fk where
  | i (k : IntKind)
  | b
  | s (F : Fk)
def Fk.at (w : World) : Fk → Value → Prop
  | .i k, v => ∃ n, v = .int k n ∧ (Lit.int k n).wf = true
  | .b, v => ∃ x, v = .bool x
  | .s F, v => ∃ s vs, v = vS s ∧ ArgS 1 w s vs ∧ ∀ u ∈ vs, F.at w u
abbrev ArgF (Fs : List Fk) (e : World) (s : Sl) (vs : List Value) : Prop := ArgS Fs.length e s vs ∧ ∀ i, i < s.len → ∀ (j : Nat) F, Fs[j]? = some F → ∃ u, vs[i * Fs.length + j]? = some u ∧ F.at e u
def Fk.ty (P : Program) : TypeId → Fk → Bool
  | t, .i k => match P.underlying t with | some (.int k') => k == k' | _ => false
  | t, .b => match P.underlying t with | some .bool => true | _ => false
  | t, .s F => match P.underlying t with | some (.slice el) => P.cellsOf el == 1 && F.ty P el | _ => false
def fldsTok (P : Program) : Nat → List Field → List Fk → Bool
  | _, [], [] => true
  | j, f :: fs, F :: Fs => f.offset == j && P.cellsOf f.type == 1 && Fk.ty P f.type F && fldsTok P (j + 1) fs Fs
  | _, _, _ => false
def rowTok (P : Program) (el : TypeId) (Fs : List Fk) : Bool :=
  P.cellsOf el == Fs.length && match P.underlying el with
    | some (.struct fs) => fldsTok P 0 fs.toList Fs
    | _ => match Fs with | [F] => Fk.ty P el F | _ => false
section
variable {H : Type} {enc : TypeId × Value → H} {P : Program} {w : World} {base : Nat} {spare : Nat → Bool} {held : Bool}
theorem cell_block_lt {a : Addr} {v : Value} (h : w.cell? a = some v) : a.block < w.heap.size := by
  unfold World.cell? at h
  split at h
  · next hb => exact (Array.getElem?_eq_some_iff.1 hb).1
  · cases h
theorem Fk.open {F : Fk} : ∀ {t : TypeId} {fuel : Nat} {cs : List Value} {x : DataW H × List MemPlace}, Fk.ty P t F = true → DataW.trod enc P w base spare held fuel t cs = some x → ∃ v, cs = [v] ∧ F.at w v := by
  induction F with
  | i k =>
    intro t fuel cs x ht h
    simp only [Fk.ty] at ht
    split at ht
    · next k' hk =>
      have : k = k' := by simpa using ht
      subst this
      obtain ⟨n, rfl, _, hw⟩ := DataW.trod_int hk h
      exact ⟨_, rfl, n, rfl, hw⟩
    · cases ht
  | b =>
    intro t fuel cs x ht h
    simp only [Fk.ty] at ht
    split at ht
    · next hk =>
      obtain ⟨n, rfl, _⟩ := DataW.trod_bool hk h
      exact ⟨_, rfl, n, rfl⟩
    · cases ht
  | s F ih =>
    intro t fuel cs x ht h
    simp only [Fk.ty] at ht
    split at ht
    · next el hk =>
      simp only [Bool.and_eq_true, beq_iff_eq] at ht
      rcases Go.Deep.open_slice1 hk ht.1 h with ⟨rfl, _⟩ | ⟨a, len, cap, m, n, V, D, Pl, rfl, _, hl, _, hm, _, hx⟩
      · exact ⟨_, rfl, ⟨none, 0, 0⟩, [], rfl, ⟨by simp, fun i x h => by simp at h, Nat.le_refl _⟩, by simp⟩
      · have hle : len ≤ m := by rw [hm]; split <;> omega
        refine ⟨_, rfl, ⟨some a, len, cap⟩, (List.range len).map V, rfl, ⟨by simp, fun i x hi => ?_, hl⟩, fun u hu => ?_⟩
        · have hil : i < len := by
            have := (List.getElem?_eq_some_iff.1 hi).1
            simpa using this
          rw [List.getElem?_map, List.getElem?_range hil] at hi
          simp only [Option.map_some, Option.some.injEq] at hi
          subst hi
          have h1 := (hx i (by omega)).1
          have h0 := (hx 0 (by omega)).1
          have hsp := World.cell?_spot h0
          obtain ⟨b, o, sp⟩ := a
          have : sp = none := by simpa [Addr.add] using hsp
          subst this
          rw [Addr.add_lit] at h1
          exact ⟨b, o, rfl, cell_block_lt h1, h1⟩
        · obtain ⟨i, hi, rfl⟩ := List.mem_map.1 hu
          have hil : i < len := by simpa using hi
          obtain ⟨v, hv, hat⟩ := ih ht.2 (hx i (by omega)).2
          cases hv
          exact hat
    · cases ht
theorem fldsTok_at : ∀ {fs : List Field} {Fs : List Fk} {j0 : Nat}, fldsTok P j0 fs Fs = true → ∀ {j : Nat} {F : Fk}, Fs[j]? = some F → ∃ f, fs[j]? = some f ∧ f.offset = j0 + j ∧ P.cellsOf f.type = 1 ∧ Fk.ty P f.type F = true
  | [], [], _, _, j, F, hj => by simp at hj
  | [], _ :: _, _, h, _, _, _ => by simp [fldsTok] at h
  | _ :: _, [], _, h, _, _, _ => by simp [fldsTok] at h
  | f :: fs, F' :: Fs, j0, h, j, F, hj => by
    simp only [fldsTok, Bool.and_eq_true, beq_iff_eq] at h
    cases j with
    | zero =>
      cases hj
      exact ⟨f, rfl, h.1.1.1, h.1.1.2, h.1.2⟩
    | succ j =>
      obtain ⟨g, h1, h2, h3⟩ := fldsTok_at h.2 (j := j) (F := F) (by simpa using hj)
      exact ⟨g, by simpa using h1, by omega, h3⟩
theorem open_row {t el : TypeId} {Fs : List Fk} {r : Reach} {b0 : Nat} {v : Value} {d : DataW H} {ps : List MemPlace} (ht : P.underlying t = some (.slice el)) (hF : rowTok P el Fs = true) (hn : 0 < Fs.length)
    (hval : Value.okWide P w r b0 t v) (hd : DataW.Trod enc P w base spare held t v d ps) :
    ∃ s vs, v = vS s ∧ ArgS Fs.length w s vs ∧ ∀ i, i < s.len → ∀ (j : Nat) F, Fs[j]? = some F → ∃ u, vs[i * Fs.length + j]? = some u ∧ F.at w u := by
  obtain ⟨a, len, cap, rfl⟩ := Go.WideShapes.okWide_slice ht hval
  obtain ⟨fuel, hf⟩ := hd
  rcases open_slice ht hf with ⟨hcs, _⟩ | ⟨a', len', cap', m, n, D, Pl, hcs, _, hl, hm, hmm, _, hx⟩
  · simp [Value.cells] at hcs
    obtain ⟨rfl, rfl, rfl⟩ := hcs
    exact ⟨⟨none, 0, 0⟩, [], rfl, ⟨by simp, fun i x h => by simp at h, Nat.le_refl _⟩, fun i hi => absurd hi (Nat.not_lt_zero _)⟩
  · simp [Value.cells] at hcs
    obtain ⟨rfl, rfl, rfl⟩ := hcs
    simp only [rowTok, Bool.and_eq_true, beq_iff_eq] at hF
    have each : ∀ i, i < len → ∀ (j : Nat) F, Fs[j]? = some F → ∃ u, w.cell? (a'.add (i * Fs.length + j)) = some u ∧ F.at w u := by
      intro i hi j F hj
      have him : i < m := by rw [hmm]; split <;> omega
      obtain ⟨cs', h1, h2⟩ := hx i him
      have hjl : j < Fs.length := (List.getElem?_eq_some_iff.1 hj).1
      rw [hF.1] at h1
      obtain ⟨_, hlen, hc⟩ := World.cells?_some h1
      have hc := hc j hjl
      rw [show (a'.add (i * Fs.length)).add j = a'.add (i * Fs.length + j) from Go.Deep.add_add ..] at hc
      have h3 := hF.2
      split at h3
      · next fs hfs =>
        obtain ⟨f, hf1, hf2, hf3, hf4⟩ := fldsTok_at h3 hj
        obtain ⟨xs, n', _, _, _, hxl, hfx⟩ := DataW.trod_struct hfs h2
        have hg := hfx j f (by simpa using hf1)
        rw [hf2, hf3, Nat.zero_add] at hg
        have hjx : j < xs.length := by
          rw [hxl]
          have := (List.getElem?_eq_some_iff.1 hf1).1
          simpa using this
        rw [List.getElem?_eq_getElem hjx] at hg
        obtain ⟨u, hu, hat⟩ := Fk.open hf4 hg
        refine ⟨u, ?_, hat⟩
        rw [hc]
        have : ((cs'.drop j).take 1)[0]? = some u := by rw [hu]; rfl
        rw [List.getElem?_take_of_lt (by decide), List.getElem?_drop] at this; simpa using this
      · split at h3
        · next F' =>
          have hj0 : j = 0 := by simp at hjl; omega
          subst hj0
          cases hj
          obtain ⟨u, rfl, hat⟩ := Fk.open h3 h2
          exact ⟨u, by rw [hc]; rfl, hat⟩
        · cases h3
    have eachq : ∀ q, q < len * Fs.length → ∃ u, w.cell? (a'.add q) = some u := by
      intro q hq
      have hq2 : q % Fs.length < Fs.length := Nat.mod_lt _ hn
      have hq1 : q / Fs.length < len := Nat.div_lt_of_lt_mul (by rw [Nat.mul_comm]; exact hq)
      obtain ⟨u, hu, _⟩ := each _ hq1 _ _ (List.getElem?_eq_getElem hq2)
      rw [Nat.div_add_mod'] at hu
      exact ⟨u, hu⟩
    refine ⟨⟨some a', len, cap⟩, (List.range (len * Fs.length)).map fun q => (w.cell? (a'.add q)).getD (.bool false), rfl, ⟨by simp, fun q x hq => ?_, hl⟩, fun i hi j F hj => ?_⟩
    · have hql : q < len * Fs.length := by
        have := (List.getElem?_eq_some_iff.1 hq).1
        simpa using this
      obtain ⟨u, hu⟩ := eachq q hql
      have hxu : x = u := by
        rw [List.getElem?_map, List.getElem?_range hql] at hq
        simp only [Option.map_some, hu, Option.getD_some, Option.some.injEq] at hq
        exact hq.symm
      subst hxu
      obtain ⟨u0, hu0⟩ := eachq 0 (by omega)
      have hsp := World.cell?_spot hu0
      obtain ⟨b, o, sp⟩ := a'
      have : sp = none := by simpa [Addr.add] using hsp
      subst this
      have ha : (⟨b, o, none⟩ : Addr).add q = ⟨b, o + q, none⟩ := by
        simp only [Addr.add]
        split
        · next h0 => rw [h0]; rfl
        · rfl
      rw [ha] at hu
      exact ⟨b, o, rfl, cell_block_lt hu, hu⟩
    · obtain ⟨u, hu, hat⟩ := each i hi j F hj
      have hjl : j < Fs.length := (List.getElem?_eq_some_iff.1 hj).1
      have hlt : i * Fs.length + j < len * Fs.length := by
        calc i * Fs.length + j < i * Fs.length + Fs.length := by omega
          _ = (i + 1) * Fs.length := by rw [Nat.succ_mul]
          _ ≤ len * Fs.length := Nat.mul_le_mul_right _ hi
      refine ⟨u, ?_, hat⟩
      rw [List.getElem?_map, List.getElem?_range hlt]
      simp [hu]
theorem open_argI {t el : TypeId} {k : IntKind} {r : Reach} {b0 : Nat} {v : Value} {d : DataW H} {ps : List MemPlace} (ht : P.underlying t = some (.slice el)) (hF : rowTok P el [.i k] = true)
    (hval : Value.okWide P w r b0 t v) (hd : DataW.Trod enc P w base spare held t v d ps) : ∃ s xs, v = vS s ∧ ArgI k w s xs := by
  obtain ⟨s, vs, rfl, ha, hv⟩ := open_row ht hF (by simp) hval hd
  have hlen : vs.length = s.len := by rw [ha.len]; simp
  have hv' : ∀ i, i < s.len → ∃ n, vs[i]? = some (.int k n) ∧ (Lit.int k n).wf = true := by
    intro i hi
    obtain ⟨u, hu, n, rfl, hw⟩ := hv i hi 0 _ rfl
    exact ⟨n, by simpa using hu, hw⟩
  obtain ⟨f, hf⟩ := choose_lt (p := fun i (n : Int) => vs[i]? = some (.int k n) ∧ (Lit.int k n).wf = true) hv'
  refine ⟨s, (List.range s.len).map f, rfl, by simp, fun i x hi => ?_, fun x hx => ?_, ha.cap⟩
  · have hil : i < s.len := by
      have := (List.getElem?_eq_some_iff.1 hi).1
      simpa using this
    rw [List.getElem?_map, List.getElem?_range hil] at hi
    simp only [Option.map_some, Option.some.injEq] at hi
    subst hi
    exact ha.cell i _ (hf i hil).1
  · obtain ⟨i, hi, rfl⟩ := List.mem_map.1 hx
    exact (hf i (by simpa using hi)).2
/-- a slice of whole numbers in a row -/
theorem argI_of {k : IntKind} {v : Value} (h : (Fk.s (.i k)).at w v) : ∃ s xs, v = vS s ∧ ArgI k w s xs := by
  obtain ⟨s, vs, rfl, ha, hv⟩ := h
  have hlen : vs.length = s.len := by rw [ha.len, Nat.mul_one]
  have hv' : ∀ i, i < s.len → ∃ n, vs[i]? = some (.int k n) ∧ (Lit.int k n).wf = true := by
    intro i hi
    have hlt : i < vs.length := by omega
    obtain ⟨n, hn, hw⟩ := hv vs[i] (List.getElem_mem hlt)
    exact ⟨n, by rw [List.getElem?_eq_getElem hlt, hn], hw⟩
  obtain ⟨f, hf⟩ := choose_lt (p := fun i (n : Int) => vs[i]? = some (.int k n) ∧ (Lit.int k n).wf = true) hv'
  refine ⟨s, (List.range s.len).map f, rfl, by simp, fun i x hi => ?_, fun x hx => ?_, ha.cap⟩
  · have hil : i < s.len := by
      have := (List.getElem?_eq_some_iff.1 hi).1
      simpa using this
    rw [List.getElem?_map, List.getElem?_range hil] at hi
    simp only [Option.map_some, Option.some.injEq] at hi
    subst hi
    exact ha.cell i _ (hf i hil).1
  · obtain ⟨i, hi, rfl⟩ := List.mem_map.1 hx
    exact (hf i (by simpa using hi)).2
/-- an array of whole numbers -/
def arrTok (P : Program) (t : TypeId) (n : Nat) (k : IntKind) : Bool :=
  match P.underlying t with
  | some (.array m e) => Nat.beq m n && Nat.beq (P.cellsOf e) 1 && Nat.beq (P.cellsOf t) m && (match P.underlying e with | some (.int k') => k == k' | _ => false)
  | _ => false
theorem mapM_all {α β : Type} {f : α → Option β} : ∀ {l : List α} {ys : List β}, l.mapM f = some ys → ∀ x ∈ l, ∃ y, f x = some y := by
  intro l
  induction l with
  | nil => intro ys _ x hx; cases hx
  | cons a r ih =>
    intro ys h x hx
    rw [List.mapM_cons] at h
    obtain ⟨y, hy, h⟩ := Option.bind_eq_some_iff.1 h
    obtain ⟨zs, hz, _⟩ := Option.bind_eq_some_iff.1 h
    rcases List.mem_cons.1 hx with rfl | hx
    · exact ⟨y, hy⟩
    · exact ih hz x hx
theorem open_arr {t : TypeId} {n : Nat} {k : IntKind} {r : Reach} {b0 : Nat} {v : Value} {d : DataW H} {ps : List MemPlace} (ht : arrTok P t n k = true)
    (hval : Value.okWide P w r b0 t v) (hd : DataW.Trod enc P w base spare held t v d ps) : ∃ xs : List Int, xs.length = n ∧ v = .agg (xs.map (Value.int k)).toArray ∧ ∀ x ∈ xs, (Lit.int k x).wf = true := by
  unfold arrTok at ht
  split at ht
  · next m e hu =>
    simp only [Bool.and_eq_true] at ht
    obtain ⟨⟨⟨h1, h2⟩, h4⟩, h3⟩ := ht
    have h4 := Nat.eq_of_beq_eq_true h4
    have h1 := Nat.eq_of_beq_eq_true h1
    have h2 := Nat.eq_of_beq_eq_true h2
    subst h1
    split at h3
    · next k' he =>
      have : k = k' := by simpa using h3
      subst this
      simp only [Value.okWide, hu] at hval
      obtain ⟨cs, rfl, hsz, -⟩ := hval
      obtain ⟨fuel, hf⟩ := hd
      cases fuel with
      | zero => simp [DataW.trod] at hf
      | succ fuel =>
        unfold DataW.trod at hf
        rw [hu] at hf
        change (if cs.toList.length = P.cellsOf t then _ else none) = _ at hf
        rw [if_pos (show cs.toList.length = P.cellsOf t by rw [Array.length_toList, hsz])] at hf
        obtain ⟨ys, hy, -⟩ := Option.map_eq_some_iff.1 hf
        have hx : ∀ i, i < m → ∃ x : Int, cs.toList[i]? = some (.int k x) ∧ (Lit.int k x).wf = true := by
          intro i hi
          obtain ⟨y, hy⟩ := mapM_all hy i (List.mem_range.2 hi)
          rw [h2, Nat.mul_one] at hy
          obtain ⟨x, hx, _, hw⟩ := DataW.trod_int he hy
          refine ⟨x, ?_, hw⟩
          have := congrArg (fun l => l[0]?) hx
          simp only [List.getElem?_take_of_lt (show 0 < 1 by decide), List.getElem?_drop, Nat.add_zero] at this
          exact this
        obtain ⟨f, hf⟩ := choose_lt (p := fun i (x : Int) => cs.toList[i]? = some (.int k x) ∧ (Lit.int k x).wf = true) hx
        have hlen : cs.toList.length = m := by
          rw [Array.length_toList, hsz, h4]
        refine ⟨(List.range m).map f, by simp, ?_, fun x hx => ?_⟩
        · have : cs.toList = ((List.range m).map f).map (Value.int k) := by
            refine List.ext_getElem? fun i => ?_
            by_cases hi : i < m
            · rw [(hf i hi).1]
              simp [hi]
            · rw [List.getElem?_eq_none (by omega), List.getElem?_eq_none (by simp; omega)]
          rw [← this]
        · obtain ⟨i, hi, rfl⟩ := List.mem_map.1 hx
          exact (hf i (List.mem_range.1 hi)).2
    · cases h3
  · cases ht
theorem open_arr3 {t : TypeId} {k : IntKind} {r : Reach} {b0 : Nat} {v : Value} {d : DataW H} {ps : List MemPlace} (ht : arrTok P t 3 k = true)
    (hval : Value.okWide P w r b0 t v) (hd : DataW.Trod enc P w base spare held t v d ps) : ∃ x0 x1 x2 : Int, v = .agg #[.int k x0, .int k x1, .int k x2] ∧ (Lit.int k x0).wf = true ∧ (Lit.int k x1).wf = true ∧ (Lit.int k x2).wf = true := by
  obtain ⟨xs, hl, rfl, hw⟩ := open_arr ht hval hd
  match xs, hl with
  | [x0, x1, x2], _ => exact ⟨x0, x1, x2, rfl, hw _ (by simp), hw _ (by simp), hw _ (by simp)⟩
theorem open_arr4 {t : TypeId} {k : IntKind} {r : Reach} {b0 : Nat} {v : Value} {d : DataW H} {ps : List MemPlace} (ht : arrTok P t 4 k = true)
    (hval : Value.okWide P w r b0 t v) (hd : DataW.Trod enc P w base spare held t v d ps) : ∃ x0 x1 x2 x3 : Int, v = .agg #[.int k x0, .int k x1, .int k x2, .int k x3] ∧ (Lit.int k x0).wf = true ∧ (Lit.int k x1).wf = true ∧ (Lit.int k x2).wf = true ∧ (Lit.int k x3).wf = true := by
  obtain ⟨xs, hl, rfl, hw⟩ := open_arr ht hval hd
  match xs, hl with
  | [x0, x1, x2, x3], _ => exact ⟨x0, x1, x2, x3, rfl, hw _ (by simp), hw _ (by simp), hw _ (by simp), hw _ (by simp)⟩
end
end Go.Proofs.YtenonfkfoedfmaaGreatDoor.B


/- A task's priority is changed. -/
namespace Go.Proofs.YtenonfkfoedfmaaGreatDoor.B
open Go
set_option linter.unusedVariables false

def chgM (n pri : Int) (K : KM) : Option ((Int × Int) × KM) := (K.un n).bind fun u =>
  if pri < 0 ∨ pri > 16 then some ((-17, 0), K)
  else if u.state = 16 then some ((-41, 0), K)
  else (K.mm.setBase n (if pri = 0 then u.base else pri)).bind fun b =>
    if b.1 ≠ 0 then some ((b.1, 0), { K with mm := b.2 })
    else (({ K with mm := b.2 } : KM).settle).bind fun K => (K.mm.pri n).map fun p => ((0, 0), { K with rdy := (chgL true K.rdy n p).2 })

theorem change_kern {e w L k A K n pri r R} (h : Ok e (kerP k A K :: L) w) (hm : chgM n pri K = some r) (kk : ∀ w', Ok e (kerP k A r.2 :: L) w' → R [.int .i64 r.1.1] w') : sh139 (some ⟨k, 0, none⟩) n pri R w := by
  obtain ⟨u, hu, hm⟩ := Option.bind_eq_some_iff.1 hm
  unfold sh139
  refine jn.bool (decide (pri < 0 ∨ pri > 16)) (fun J hJ => cs.mk (fun hc => ?_) (fun hc => ?_)) (cs.mk (fun hc => ?_) (fun hc => ?_))
  · have hc := of_decide_eq_true hc
    rw [decide_eq_true (.inl hc)] at hJ; exact hJ
  · have hc := of_decide_eq_false hc
    rw [show decide (pri < 0 ∨ pri > 16) = decide (pri > 16) from decide_eq_decide.2 (by omega)] at hJ; exact hJ
  · rw [if_pos (of_decide_eq_true hc)] at hm
    cases hm
    exact kk w h
  rw [if_neg (of_decide_eq_false hc)] at hm
  obtain ⟨t, H, ho, h, back, read⟩ := ker_un h hu
  have fin : ∀ w' L', Ok e (pts k (kC A K) :: pts (A.ub (n - 1).toNat) (unC t u) :: pts t (tcC u) :: H :: kR A K L') w' → Ok e (kerP k A K :: L') w' := fun w' L' h => by
    have h := back K u e _ w' ho rfl h
    rwa [setU_same hu] at h
  refine nn.mk (ldS.mk (h.cell rfl) (read e _ w _ ((Ok.emb (h) (.cons (A := H) (by with_reducible first | exact sl0 | exact .there sl0 | exact .there sl1 | exact .there sl2 | exact .there sl3 | exact .there sl4 | exact .there sl5 | exact .there sl6 | exact .there sl7 | exact .there sl8 | exact .there sl9 | exact .there sl10 | exact .there sl11 | exact .there sl12) (.same _)))) fun b2 o2 hc => ldP.mk hc (nn.mk (ldP.mk (h.p1.cell rfl) ?_))))
  refine is_step (u := u) (x := 16) ((Ok.emb (h) (.cons (A := pts t (tcC u)) (by with_reducible first | exact sl0 | exact .there sl0 | exact .there sl1 | exact .there sl2 | exact .there sl3 | exact .there sl4 | exact .there sl5 | exact .there sl6 | exact .there sl7 | exact .there sl8 | exact .there sl9 | exact .there sl10 | exact .there sl11 | exact .there sl12) (.same _)))) fun w1 h1 => cs.mk (fun hc => ?_) (fun hc => ?_)
  · have hc : (16 : Int) = u.state := by simpa using hc
    rw [if_pos hc.symm] at hm
    cases hm
    exact kk w1 (fin w1 _ (Ok.emb (h1) (by repeat' (first | with_reducible exact Emb.same _ | exact Emb.nil _ | refine Emb.cons (by with_reducible first | exact sl0 | exact .there sl0 | exact .there sl1 | exact .there sl2 | exact .there sl3 | exact .there sl4 | exact .there sl5 | exact .there sl6 | exact .there sl7 | exact .there sl8 | exact .there sl9 | exact .there sl10 | exact .there sl11 | exact .there sl12) ?_ | refine Emb.skip ?_))))
  have hc : ¬ (16 : Int) = u.state := by simpa using hc
  rw [if_neg (fun hx => hc hx.symm)] at hm
  obtain ⟨q, hq⟩ : ∃ q : Int, q = if pri = 0 then u.base else pri := ⟨_, rfl⟩
  rw [← hq] at hm
  obtain ⟨b, hb, hm⟩ := Option.bind_eq_some_iff.1 hm
  have h : Ok e (pts k (kC A K) :: pts (A.ub (n - 1).toNat) (unC t u) :: pts t (tcC u) :: H :: kR A K L) w1 := (Ok.emb (h1) (by repeat' (first | with_reducible exact Emb.same _ | exact Emb.nil _ | refine Emb.cons (by with_reducible first | exact sl0 | exact .there sl0 | exact .there sl1 | exact .there sl2 | exact .there sl3 | exact .there sl4 | exact .there sl5 | exact .there sl6 | exact .there sl7 | exact .there sl8 | exact .there sl9 | exact .there sl10 | exact .there sl11 | exact .there sl12) ?_ | refine Emb.skip ?_)))
  refine jn.at (t := (q, ())) (fun w => Ok e (pts k (kC A K) :: pts (A.ub (n - 1).toNat) (unC t u) :: pts t (tcC u) :: H :: kR A K L) w) (fun J hJ => cs.mk (fun h3 => ?_) (fun h3 => ?_)) (fun w2 h => ?_)
  · have h3 : pri = 0 := by simpa using h3
    have hq2 : q = u.base := by rw [hq, if_pos h3]
    rw [hq2] at hJ
    exact nn.mk (ldS.mk (h.cell rfl) (read e _ w1 _ ((Ok.emb (h) (.cons (A := H) (by with_reducible first | exact sl0 | exact .there sl0 | exact .there sl1 | exact .there sl2 | exact .there sl3 | exact .there sl4 | exact .there sl5 | exact .there sl6 | exact .there sl7 | exact .there sl8 | exact .there sl9 | exact .there sl10 | exact .there sl11 | exact .there sl12) (.same _)))) fun b2 o2 hc => ldP.mk hc (nn.mk (ldI.mk (h.p1.cell rfl) (hJ w1 h)))))
  · have h3 : ¬ pri = 0 := by simpa using h3
    have hq2 : q = pri := by rw [hq, if_neg h3]
    rw [hq2] at hJ
    exact hJ w1 h
  refine nn.mk (ldP.mk (h.cell rfl) ?_)
  have hml := setBase_len hb
  refine call31 (SetBase_mtx ((Ok.emb (h) (.cons (A := mmP A.lk K.mm) (by with_reducible first | exact sl0 | exact .there sl0 | exact .there sl1 | exact .there sl2 | exact .there sl3 | exact .there sl4 | exact .there sl5 | exact .there sl6 | exact .there sl7 | exact .there sl8 | exact .there sl9 | exact .there sl10 | exact .there sl11 | exact .there sl12) (.same _)))) hb fun w3 h => ⟨(b.1, ()), rfl, ?_⟩)
  have h : Ok e (pts k (kC A { K with mm := b.2 }) :: pts (A.ub (n - 1).toNat) (unC t u) :: pts t (tcC u) :: H :: kR A { K with mm := b.2 } L) w3 := by
    have h : Ok e (pts k (kC A K) :: pts (A.ub (n - 1).toNat) (unC t u) :: pts t (tcC u) :: H :: kR A { K with mm := b.2 } L) w3 := (h.emb (by repeat' (first | with_reducible exact Emb.same _ | exact Emb.nil _ | refine Emb.cons (by with_reducible first | exact sl0 | exact .there sl0 | exact .there sl1 | exact .there sl2 | exact .there sl3 | exact .there sl4 | exact .there sl5 | exact .there sl6 | exact .there sl7 | exact .there sl8 | exact .there sl9 | exact .there sl10 | exact .there sl11 | exact .there sl12) ?_ | refine Emb.skip ?_)))
    unfold kC at h ⊢
    rw [← hml] at h
    exact h
  have h := back { K with mm := b.2 } u e L w3 ⟨ho.t0, ho.t1, ho.us, ho.sems, ho.datas, ho.pools⟩ rfl h
  rw [setU_same (K := { K with mm := b.2 }) hu] at h
  refine cs.mk (fun h3 => ?_) (fun h3 => ?_)
  · have h3 : b.1 ≠ 0 := by simpa using h3
    rw [if_pos h3] at hm
    cases hm
    exact kk w3 h
  have h3 : ¬ b.1 ≠ 0 := by simpa using h3
  rw [if_neg h3] at hm
  obtain ⟨K1, hK1, hm⟩ := Option.bind_eq_some_iff.1 hm
  obtain ⟨p, hp, rfl⟩ := Option.map_eq_some_iff.1 hm
  refine call56 (settle_kern h hK1 fun w4 h => ⟨(), rfl, dr.mk h fun w5 h => ?_⟩)
  obtain ⟨ho, h⟩ := kerE h
  refine nn.mk (ldP.mk (h.cell rfl) (nn.mk (ldP.mk (h.cell rfl) ?_)))
  refine call35 (Pri_mtx ((Ok.emb (h) (.cons (A := mmP A.lk K1.mm) (by with_reducible first | exact sl0 | exact .there sl0 | exact .there sl1 | exact .there sl2 | exact .there sl3 | exact .there sl4 | exact .there sl5 | exact .there sl6 | exact .there sl7 | exact .there sl8 | exact .there sl9 | exact .there sl10 | exact .there sl11 | exact .there sl12) (.same _)))) hp ⟨(p, ()), rfl, h.cell rfl, ?_⟩)
  refine call117 (Change_ready (p := p) ((Ok.emb (h) (.cons (A := rdyP A.rq K1.rdy) (by with_reducible first | exact sl0 | exact .there sl0 | exact .there sl1 | exact .there sl2 | exact .there sl3 | exact .there sl4 | exact .there sl5 | exact .there sl6 | exact .there sl7 | exact .there sl8 | exact .there sl9 | exact .there sl10 | exact .there sl11 | exact .there sl12) (.same _)))) fun w6 h => ⟨((chgL true K1.rdy n p).1, ()), rfl, kk w6 ?_⟩)
  exact kerI (A := A) (K := { K1 with rdy := (chgL true K1.rdy n p).2 }) ⟨ho.t0, ho.t1, ho.us, ho.sems, ho.datas, ho.pools⟩ (h.emb (by repeat' (first | with_reducible exact Emb.same _ | exact Emb.nil _ | refine Emb.cons (by with_reducible first | exact sl0 | exact .there sl0 | exact .there sl1 | exact .there sl2 | exact .there sl3 | exact .there sl4 | exact .there sl5 | exact .there sl6 | exact .there sl7 | exact .there sl8 | exact .there sl9 | exact .there sl10 | exact .there sl11 | exact .there sl12) ?_ | refine Emb.skip ?_)))

end Go.Proofs.YtenonfkfoedfmaaGreatDoor.B


/- TopEnds. -/
namespace Go.Proofs.YtenonfkfoedfmaaGreatDoor.B
open Go
set_option linter.unusedVariables false

theorem chgM_val {n pri : Int} {K : KM} {r} (h : chgM n pri K = some r) : r.1.2 = 0 := by
  obtain ⟨u, -, h⟩ := Option.bind_eq_some_iff.1 h
  split at h
  · cases h; rfl
  split at h
  · cases h; rfl
  obtain ⟨b, -, h⟩ := Option.bind_eq_some_iff.1 h
  split at h
  · cases h; rfl
  obtain ⟨K1, -, h⟩ := Option.bind_eq_some_iff.1 h
  obtain ⟨p, -, rfl⟩ := Option.map_eq_some_iff.1 h
  rfl

theorem tasks_6 {e k A K r x0 x1 x2 x3} (hm : KM.cChg x0 x1 K = some r) : GrpC e k A K r (sh79 (some ⟨k, 0, none⟩) (((6 : Nat) : Int), x0, x1, x2, x3, ())) := by
  intro L w R h kk
  unfold KM.cChg KM.byTask at hm
  refine tasks_pre h (n := 6) rfl (by decide) (by decide) (by decide) (by decide) (fun hz w' h => ?_) (fun hz b d w' h => ?_)
  · rw [if_pos (show K.named x0 true = 0 from hz)] at hm
    cases hm
    exact kk w' h
  · rw [if_neg (show ¬ K.named x0 true = 0 from hz)] at hm
    have hv : nmd K 6 1 x0 = K.named x0 true := rfl
    rw [hv]
    generalize K.named x0 true = v at hm
    have hm : chgM v x1 K = some r := hm
    unfold tasksR
    refine ldI.mk (h.p1.cell rfl) ?_
    (repeat (first | ((with_reducible refine cs.yes ?_ ?_); · rfl) | ((with_reducible refine cs.no ?_ ?_); · rfl) | refine jn.mk fun J hJ => ?_ | with_reducible apply_assumption -exfalso -symm))
    refine ⟨by decide, by decide, ldI.mk (h.p1.cell rfl) ?_⟩
    refine call139 (change_kern h.p2 hm fun w3 h => ⟨(r.1.1, ()), rfl, ?_⟩)
    refine fin_code h.p1 fun w4 h => ?_
    have := kk w4 h.p1.drop
    rw [chgM_val hm] at this
    exact this

theorem do_6 {e} (tb : TabE e) : DoC e 6 1 KM.cChg := by
  intro k A K r L w x0 x1 x2 x3 R h hm kk
  exact Do_kern (n := 6) tb rfl (by decide) h hm (fun r hr => .inl ⟨by decide, tasks_6 hr⟩) kk

def endC : ConfM := ⟨1, [(3, true), (8, true)], [], [], [(0, 0)], []⟩

/-- the law, as plain Lean -/
def endM (b : Int) : Option Bool :=
  (KM.new endC).bind fun K0 =>
  (K0.call 2 (KM.cLoc 1)).bind fun r1 =>
  (r1.2.call 2 (KM.cDly 0)).bind fun r2 =>
  (r2.2.call 2 (KM.cLoc 1)).bind fun r3 =>
  if ¬ (r3.1.1 = 1 ∧ r3.2.who = 0) then none else
  r3.2.tick.bind fun K4 =>
  if ¬ (K4.who = 1) then none else
  (K4.call 1 (KM.cChg 0 b)).bind fun r5 =>
  (r5.2.call 4 KM.cExt).bind fun r6 =>
  (r6.2.task 1).bind fun f => (r6.2.task 2).bind fun g =>
  if ¬ (1 < r6.2.mm.m.length ∧ (r6.2.mm.waiting 1).length = 0) then none else
  some (decide (r6.1.1 = 0) && decide (r6.2.mm.owner 1 = 2) && decide (f.state = 16) && decide (f.pri = 3) && decide (f.base = 3) && decide (g.lc = 0) && decide (r6.2.who = 2))

theorem endM_all : ((List.range 16).all fun b => endM (1 + (b : Int)) == some true) = true := by decide +kernel

theorem endM_true {b : Int} (hb : 0 ≤ b ∧ b < 16) : endM (1 + b) = some true := by
  have h := List.all_eq_true.1 endM_all b.toNat (List.mem_range.2 (by omega))
  rw [Int.toNat_of_nonneg hb.1] at h
  simpa using h

theorem ends_walk {e L w a0 R} (tb : TabE e) (h : Ok e (old e :: L) w) (h0 : 0 ≤ a0 ∧ a0 ≤ 255) (kk : ∀ w', Ok e (old e :: L) w' → R [.bool true] w') : sh10 a0 R w := by
  unfold sh10
  refine call17 (known_top tb h fun w1 h => ⟨(true, ()), rfl, cs.no rfl ?_⟩)
  obtain ⟨e1, e2, e3⟩ := w64_mod (a := a0) (m := 16) h0.1 (by decide)
  rw [e1]
  have hM := endM_true ⟨e2, e3⟩
  generalize 1 + a0 % 16 = q at hM ⊢
  unfold endM at hM
  obtain ⟨K0, hK0, hM⟩ := Option.bind_eq_some_iff.1 hM
  obtain ⟨r1, hr1, hM⟩ := Option.bind_eq_some_iff.1 hM
  obtain ⟨r2, hr2, hM⟩ := Option.bind_eq_some_iff.1 hM
  obtain ⟨r3, hr3, hM⟩ := Option.bind_eq_some_iff.1 hM
  split at hM
  · cases hM
  next hg1 =>
  obtain ⟨g1, g2⟩ := Classical.not_not.1 hg1
  obtain ⟨K4, hK4, hM⟩ := Option.bind_eq_some_iff.1 hM
  split at hM
  · cases hM
  next hg2 =>
  have g3 := Classical.not_not.1 hg2
  obtain ⟨r5, hr5, hM⟩ := Option.bind_eq_some_iff.1 hM
  obtain ⟨r6, hr6, hM⟩ := Option.bind_eq_some_iff.1 hM
  obtain ⟨f, hf, hM⟩ := Option.bind_eq_some_iff.1 hM
  obtain ⟨g, hg, hM⟩ := Option.bind_eq_some_iff.1 hM
  split at hM
  · cases hM
  next hg3 =>
  obtain ⟨g7, g8⟩ := Classical.not_not.1 hg3
  have hM := Option.some.inj hM
  simp only [Bool.and_eq_true, decide_eq_true_eq] at hM
  obtain ⟨⟨⟨⟨⟨⟨m1, m2⟩, m3⟩, m4⟩, m5⟩, m6⟩, m7⟩ := hM
  refine al.mk h fun b w2 h => ?_
  refine call18 (a0 := ⟨some ⟨b, 0, none⟩, 2, 2⟩) (tasks_top (l := [3, 8]) (slcOf (l := [3, 8]) h) (by simp) fun x w2 h => ⟨(((1 : Int), x, nilS, nilS, nilS, nilS, nilS, nilS, (0 : Int), ()), ()), rfl, ?_⟩)
  refine al.mk h fun c w3 h => ?_
  refine st1.mk h (by simp) fun w1 h => st1.mk h (by simp) fun w1 h => st1.mk h (by simp) fun w1 h => st1.mk h (by simp) fun w1 h => st1.mk h (by simp) fun w1 h => st1.mk h (by simp) fun w1 h => st1.mk h (by simp) fun w1 h => st1.mk h (by simp) fun w1 h => st1.mk h (by simp) fun w1 h => ?_
  refine al.mk h fun d w5 h => st1.mk h.p1 (by simp) fun w6 h => ?_
  refine ldI.mk (h.cell rfl) (ldS.mk (h.cell rfl) (ldS.mk (h.cell rfl) (ldS.mk (h.cell rfl) (ldS.mk (h.cell rfl) (ldS.mk (h.cell rfl) (ldS.mk (h.cell rfl) (ldS.mk (h.cell rfl) (ldI.mk (h.cell rfl) ?_))))))))
  have h : Ok e (slc 2 x (flat taC [(3, true), (8, true)]) :: slc 2 ⟨some ⟨d, 0, none⟩, 1, 1⟩ (flat kdC [(0, 0)]) :: old e :: L) w6 :=
    (Ok.slcNew (vs := flat kdC [(0, 0)]) (sz := 2) (n := 1) (h.drop : Ok e (pts d (flat kdC [(0, 0)]) :: slc 2 x (flat taC [(3, true), (8, true)]) :: old e :: L) w6) rfl (flat_one kdC_one1)).p1
  refine call19 (a0 := cfV endC ⟨x, nilS, nilS, ⟨some ⟨d, 0, none⟩, 1, 1⟩, nilS⟩) (open_top tb (conf_mtxs 1 h) (by decide) hK0 fun k A w3 h => ⟨(some ⟨k, 0, none⟩, ()), rfl, cs.no rfl ?_⟩)
  have h : Ok e (kerP k A K0 :: old e :: L) w3 := (h.emb (by repeat' (first | with_reducible exact Emb.same _ | exact Emb.nil _ | refine Emb.cons (by with_reducible first | exact sl0 | exact .there sl0 | exact .there sl1 | exact .there sl2 | exact .there sl3 | exact .there sl4 | exact .there sl5 | exact .there sl6 | exact .there sl7 | exact .there sl8 | exact .there sl9 | exact .there sl10 | exact .there sl11 | exact .there sl12) ?_ | refine Emb.skip ?_)))
  refine al.mk h fun b1 w4 h => ?_
  refine call20 (a2 := ⟨some ⟨b1, 0, none⟩, 1, 1⟩) (do_top (n := 43) (xs := [1]) (do_43 tb) (slcOf (l := [1]) h) (by simp) hr1 fun w5 h => ⟨(r1.1.1, r1.1.2, ()), rfl, ?_⟩)
  refine al.mk h fun b1 w4 h => ?_
  refine call20 (a2 := ⟨some ⟨b1, 0, none⟩, 1, 1⟩) (do_top (n := 22) (xs := [0]) (do_22 tb) (slcOf (l := [0]) h) (by simp) hr2 fun w5 h => ⟨(r2.1.1, r2.1.2, ()), rfl, ?_⟩)
  refine al.mk h fun b1 w4 h => ?_
  refine call20 (a2 := ⟨some ⟨b1, 0, none⟩, 1, 1⟩) (do_top (n := 43) (xs := [1]) (do_43 tb) (slcOf (l := [1]) h) (by simp) hr3 fun w5 h => ⟨(r3.1.1, r3.1.2, ()), rfl, ?_⟩)
  refine jn.mk fun J1 hJ1 => cs.no (by simpa using g1) (call21 (Running_kern h ⟨(r3.2.who, ()), rfl, hJ1 _ _ (cs.no (by simpa using g2) ?_)⟩))
  clear hJ1 J1
  refine call22 (Tick_kern tb h hK4 fun w6 h => ⟨(nilS, ()), rfl, ?_⟩)
  refine call21 (Running_kern h ⟨(K4.who, ()), rfl, cs.no (by simpa using g3) ?_⟩)
  refine al.mk h fun b1 w4 h => ?_
  refine call20 (a2 := ⟨some ⟨b1, 0, none⟩, 2, 2⟩) (do_top (n := 6) (xs := [0, q]) (do_6 tb) (slcOf (l := [0, q]) h) (by simp) hr5 fun w5 h => ⟨(r5.1.1, r5.1.2, ()), rfl, ?_⟩)
  refine call20 (a2 := nilS) (do_top (n := 4) (xs := []) (do_4 tb) (h.slcNil 1) (by simp) hr6 fun w5 h => ⟨(r6.1.1, r6.1.2, ()), rfl, ?_⟩)
  refine call29 (Mtx_kern (o := (1 : Int)) h ⟨by decide, by omega⟩ (by rw [g8]; decide) fun s w6 hs h => ⟨(r6.2.mm.owner 1, s, (0 : Int), ()), rfl, ?_⟩)
  refine call24 (Task_kern h.drop hf fun w1 h => ⟨((f.state, f.pri, f.base, (0 : Int), f.kind, f.obj, f.lc, f.lv, ()), (f.acts, f.wups, f.susps, ()), (0 : Int), ()), rfl, ?_⟩)
  refine al.mk h fun b2 w1 h => al.mk h fun d2 w1 h => ?_
  have h := h.p1
  refine st1.mk h (by simp) fun w1 h => st1.mk h (by simp) fun w1 h => st1.mk h (by simp) fun w1 h => st1.mk h (by simp) fun w1 h => st1.mk h (by simp) fun w1 h => st1.mk h (by simp) fun w1 h => st1.mk h (by simp) fun w1 h => st1.mk h (by simp) fun w1 h => ?_
  refine st1.mk h.p1 (by simp) fun w1 h => st1.mk h (by simp) fun w1 h => st1.mk h (by simp) fun w1 h => ?_
  have h := h.p1
  have h : Ok e (kerP k A r6.2 :: pts b2 [.int .i64 f.state, .int .i64 f.pri, .int .i64 f.base, .int .i64 0, .int .i64 f.kind, .int .i64 f.obj, .int .i64 f.lc, .int .i64 f.lv] :: old e :: L) w1 := by
    have h2 := h.p1.drop.p1
    exact h2
  refine call23 (last_top h hg fun w7 h => ⟨(g.lc, g.lv, ()), rfl, ?_⟩)
  have hsl : ((s.len : Int) == (0 : Int)) = true := by rw [hs, g8]; rfl
  refine jn.mk fun J1 hJ1 => cs.yes (by simpa using m1) (hJ1 _ _ ?_)
  refine jn.mk fun J2 hJ2 => cs.yes (by simpa using m2) (hJ2 _ _ ?_)
  refine jn.mk fun J3 hJ3 => cs.yes hsl (ldI.mk (h.p1.cell rfl) (hJ3 _ _ ?_))
  refine jn.mk fun J4 hJ4 => cs.yes (by simpa using m3) (ldI.mk (h.p1.cell rfl) (hJ4 _ _ ?_))
  refine jn.mk fun J5 hJ5 => cs.yes (by simpa using m4) (ldI.mk (h.p1.cell rfl) (hJ5 _ _ ?_))
  refine jn.mk fun J6 hJ6 => cs.yes (by simpa using m5) (hJ6 _ _ ?_)
  refine jn.mk fun J7 hJ7 => cs.yes (by simpa using m6) ?_
  refine call21 (Running_kern h ⟨(r6.2.who, ()), rfl, hJ7 _ _ ?_⟩)
  have fin := kk w7 h.drop.drop
  have e9 : ((r6.2.who : Int) == (2 : Int)) = true := by simpa using m7
  dsimp only
  rw [e9]
  exact fin

theorem TopEnds_walk {W a0} (tb : TabE W) (h0 : (Lit.int .u8 a0).wf = true) : sh10 a0 (fun vs w' => vs = [.bool true] ∧ Ok W [old W] w') W :=
  ends_walk tb (Ok.start W) (wf_u8 h0) fun w' h => ⟨rfl, h⟩

end Go.Proofs.YtenonfkfoedfmaaGreatDoor.B


/- Calls of the time. -/
namespace Go.Proofs.YtenonfkfoedfmaaGreatDoor.B
open Go
set_option linter.unusedVariables false

def cSetT (v : Int) (K : KM) : Option ((Int × Int) × KM) :=
  if v < 0 ∨ v ≥ 281474976710656 then some ((-17, 0), K)
  else if 0 ≤ K.up ∧ K.up ≤ 2 ^ 40 then some ((0, 0), { K with tb := (v - K.up) % 281474976710656 }) else none

def nowM (K : KM) : Option Int := if 0 ≤ K.up ∧ K.up ≤ 2 ^ 40 ∧ 0 ≤ K.tb ∧ K.tb < 281474976710656 then some ((K.tb + K.up) % 281474976710656) else none

def cGetT (K : KM) : Option ((Int × Int) × KM) := (nowM K).map fun t => ((0, t), K)

theorem w64_u48 {x : Int} (h : 0 ≤ x ∧ x < 281474976710656) : w64 x = x := w64_in (by omega) (by omega)

theorem time_51 {e k A K r x0 x1 x2 x3} (hm : cSetT x0 K = some r) : GrpC e k A K r (sh85 (some ⟨k, 0, none⟩) (((51 : Nat) : Int), x0, x1, x2, x3, ())) := by
  intro L w R h kk
  unfold cSetT at hm
  unfold sh85
  refine al.mk h fun b w1 h => al.mk h fun d w2 h => ⟨by decide, by decide, ldI.mk (h.p1.cell rfl) (ldI.mk (h.p1.cell rfl) (cs.yes rfl ⟨by decide, by decide, ldI.mk (h.p1.cell rfl) ?_⟩))⟩
  refine jn.bool (decide (x0 < 0 ∨ x0 ≥ 281474976710656)) (fun J hJ => cs.mk (fun hc => ?_) (fun hc => ?_)) (cs.mk (fun hc => ?_) (fun hc => ?_))
  · have hc := of_decide_eq_true hc
    rw [decide_eq_true (.inl hc)] at hJ; exact hJ
  · have hc : ¬ x0 < 0 := of_decide_eq_false hc
    refine ⟨by decide, by decide, ldI.mk (h.p1.cell rfl) ?_⟩
    rw [show decide (x0 < 0 ∨ x0 ≥ 281474976710656) = decide (x0 ≥ 281474976710656) from decide_eq_decide.2 (by omega)] at hJ; exact hJ
  · rw [if_pos (of_decide_eq_true hc)] at hm
    cases hm
    exact fin_code h fun w4 h => kk w4 h.drop
  have hc := of_decide_eq_false hc
  rw [if_neg hc] at hm
  split at hm
  · next hu =>
    cases hm
    obtain ⟨ho, h2⟩ := kerE h.p2
    obtain ⟨c, t, h3⟩ := hnE ((Ok.emb (h2) (.cons (A := hnP A.hn K.tic K.up K.tb K.last K.ents) (by with_reducible first | exact sl0 | exact .there sl0 | exact .there sl1 | exact .there sl2 | exact .there sl3 | exact .there sl4 | exact .there sl5 | exact .there sl6 | exact .there sl7 | exact .there sl8 | exact .there sl9 | exact .there sl10 | exact .there sl11 | exact .there sl12) (.same _))))
    refine dr.mk h3 fun w3 h3 => nn.mk (ldP.mk ((Ok.emb (h3) (.cons (A := pts k (kC A K)) (by with_reducible first | exact sl0 | exact .there sl0 | exact .there sl1 | exact .there sl2 | exact .there sl3 | exact .there sl4 | exact .there sl5 | exact .there sl6 | exact .there sl7 | exact .there sl8 | exact .there sl9 | exact .there sl10 | exact .there sl11 | exact .there sl12) (.same _))).cell rfl) (nn.mk (ldP.mk (h3.cell rfl) ⟨by decide, by decide, ldI.mk ((Ok.emb (h3) (.cons (A := pts b [.int .i64 ((51 : Nat) : Int), .int .i64 x0, .int .i64 x1, .int .i64 x2, .int .i64 x3]) (by with_reducible first | exact sl0 | exact .there sl0 | exact .there sl1 | exact .there sl2 | exact .there sl3 | exact .there sl4 | exact .there sl5 | exact .there sl6 | exact .there sl7 | exact .there sl8 | exact .there sl9 | exact .there sl10 | exact .there sl11 | exact .there sl12) (.same _))).cell rfl) ?_⟩)))
    rw [u64_in (x := x0) (by omega) (by omega)]
    refine call159 (Set_clock ((Ok.emb (h3) (.cons (A := pts c [.pointer (some ⟨t, 0, none⟩), .int .u64 K.tic, .int .u64 K.up, .int .u64 K.tb]) (by with_reducible first | exact sl0 | exact .there sl0 | exact .there sl1 | exact .there sl2 | exact .there sl3 | exact .there sl4 | exact .there sl5 | exact .there sl6 | exact .there sl7 | exact .there sl8 | exact .there sl9 | exact .there sl10 | exact .there sl11 | exact .there sl12) (.same _)))) hu (by omega) fun w4 h => ⟨(), rfl, ?_⟩)
    have h := hnI (b := A.hn) (c := c) (t := t) (tic := K.tic) (up := K.up) (tb := (x0 - K.up) % 281474976710656) (last := K.last) (l := K.ents) (h.emb (by repeat' (first | with_reducible exact Emb.same _ | exact Emb.nil _ | refine Emb.cons (by with_reducible first | exact sl0 | exact .there sl0 | exact .there sl1 | exact .there sl2 | exact .there sl3 | exact .there sl4 | exact .there sl5 | exact .there sl6 | exact .there sl7 | exact .there sl8 | exact .there sl9 | exact .there sl10 | exact .there sl11 | exact .there sl12) ?_ | refine Emb.skip ?_)))
    have h := kerI (A := A) (K := { K with tb := (x0 - K.up) % 281474976710656 }) (L := pts d [.int .i64 0, .int .i64 0] :: pts b [.int .i64 ((51 : Nat) : Int), .int .i64 x0, .int .i64 x1, .int .i64 x2, .int .i64 x3] :: old e :: L) ⟨ho.t0, ho.t1, ho.us, ho.sems, ho.datas, ho.pools⟩ (h.emb (by repeat' (first | with_reducible exact Emb.same _ | exact Emb.nil _ | refine Emb.cons (by with_reducible first | exact sl0 | exact .there sl0 | exact .there sl1 | exact .there sl2 | exact .there sl3 | exact .there sl4 | exact .there sl5 | exact .there sl6 | exact .there sl7 | exact .there sl8 | exact .there sl9 | exact .there sl10 | exact .there sl11 | exact .there sl12) ?_ | refine Emb.skip ?_)))
    exact fin_code ((Ok.emb (h) (.cons (A := pts d [.int .i64 0, .int .i64 0]) (by with_reducible first | exact sl0 | exact .there sl0 | exact .there sl1 | exact .there sl2 | exact .there sl3 | exact .there sl4 | exact .there sl5 | exact .there sl6 | exact .there sl7 | exact .there sl8 | exact .there sl9 | exact .there sl10 | exact .there sl11 | exact .there sl12) (.same _)))) fun w4 h => kk w4 (h.emb (by repeat' (first | with_reducible exact Emb.same _ | exact Emb.nil _ | refine Emb.cons (by with_reducible first | exact sl0 | exact .there sl0 | exact .there sl1 | exact .there sl2 | exact .there sl3 | exact .there sl4 | exact .there sl5 | exact .there sl6 | exact .there sl7 | exact .there sl8 | exact .there sl9 | exact .there sl10 | exact .there sl11 | exact .there sl12) ?_ | refine Emb.skip ?_)))
  · cases hm

theorem time_52 {e k A K r x0 x1 x2 x3} (hm : cGetT K = some r) : GrpC e k A K r (sh85 (some ⟨k, 0, none⟩) (((52 : Nat) : Int), x0, x1, x2, x3, ())) := by
  intro L w R h kk
  obtain ⟨v, hv, rfl⟩ := Option.map_eq_some_iff.1 hm
  unfold nowM at hv
  split at hv
  · next hu =>
    have hv := Option.some.inj hv
    unfold sh85
    refine al.mk h fun b w1 h => al.mk h fun d w2 h => ⟨by decide, by decide, ldI.mk (h.p1.cell rfl) (ldI.mk (h.p1.cell rfl) (cs.no rfl (cs.yes rfl ?_)))⟩
    obtain ⟨ho, h2⟩ := kerE h.p2
    obtain ⟨c, t, h3⟩ := hnE ((Ok.emb (h2) (.cons (A := hnP A.hn K.tic K.up K.tb K.last K.ents) (by with_reducible first | exact sl0 | exact .there sl0 | exact .there sl1 | exact .there sl2 | exact .there sl3 | exact .there sl4 | exact .there sl5 | exact .there sl6 | exact .there sl7 | exact .there sl8 | exact .there sl9 | exact .there sl10 | exact .there sl11 | exact .there sl12) (.same _))))
    refine nn.mk (ldP.mk ((Ok.emb (h3) (.cons (A := pts k (kC A K)) (by with_reducible first | exact sl0 | exact .there sl0 | exact .there sl1 | exact .there sl2 | exact .there sl3 | exact .there sl4 | exact .there sl5 | exact .there sl6 | exact .there sl7 | exact .there sl8 | exact .there sl9 | exact .there sl10 | exact .there sl11 | exact .there sl12) (.same _))).cell rfl) (nn.mk (ldP.mk (h3.cell rfl) ?_)))
    refine call58 (Now_cyc ((Ok.emb (h3) (.cons (A := pts c [.pointer (some ⟨t, 0, none⟩), .int .u64 K.tic, .int .u64 K.up, .int .u64 K.tb]) (by with_reducible first | exact sl0 | exact .there sl0 | exact .there sl1 | exact .there sl2 | exact .there sl3 | exact .there sl4 | exact .there sl5 | exact .there sl6 | exact .there sl7 | exact .there sl8 | exact .there sl9 | exact .there sl10 | exact .there sl11 | exact .there sl12) (.same _)))) ⟨hu.1, hu.2.1⟩ hu.2.2 fun w4 h => ⟨(v, ()), by rw [← hv]; rfl, ?_⟩)
    have hb := Int.emod_nonneg (K.tb + K.up) (show (281474976710656 : Int) ≠ 0 by decide)
    have hb2 := Int.emod_lt_of_pos (K.tb + K.up) (show (0 : Int) < 281474976710656 by decide)
    rw [hv] at hb hb2
    have hw : w64 v = v := w64_u48 ⟨hb, hb2⟩
    dsimp only
    rw [hw]
    have h := hnI (b := A.hn) (c := c) (t := t) (tic := K.tic) (up := K.up) (tb := K.tb) (last := K.last) (l := K.ents) (h.emb (by repeat' (first | with_reducible exact Emb.same _ | exact Emb.nil _ | refine Emb.cons (by with_reducible first | exact sl0 | exact .there sl0 | exact .there sl1 | exact .there sl2 | exact .there sl3 | exact .there sl4 | exact .there sl5 | exact .there sl6 | exact .there sl7 | exact .there sl8 | exact .there sl9 | exact .there sl10 | exact .there sl11 | exact .there sl12) ?_ | refine Emb.skip ?_)))
    have h := kerI (A := A) (K := K) (L := pts d [.int .i64 0, .int .i64 0] :: pts b [.int .i64 ((52 : Nat) : Int), .int .i64 x0, .int .i64 x1, .int .i64 x2, .int .i64 x3] :: old e :: L) ho (h.emb (by repeat' (first | with_reducible exact Emb.same _ | exact Emb.nil _ | refine Emb.cons (by with_reducible first | exact sl0 | exact .there sl0 | exact .there sl1 | exact .there sl2 | exact .there sl3 | exact .there sl4 | exact .there sl5 | exact .there sl6 | exact .there sl7 | exact .there sl8 | exact .there sl9 | exact .there sl10 | exact .there sl11 | exact .there sl12) ?_ | refine Emb.skip ?_)))
    exact fin_val ((Ok.emb (h) (.cons (A := pts d [.int .i64 0, .int .i64 0]) (by with_reducible first | exact sl0 | exact .there sl0 | exact .there sl1 | exact .there sl2 | exact .there sl3 | exact .there sl4 | exact .there sl5 | exact .there sl6 | exact .there sl7 | exact .there sl8 | exact .there sl9 | exact .there sl10 | exact .there sl11 | exact .there sl12) (.same _)))) fun w4 h => kk w4 (h.emb (by repeat' (first | with_reducible exact Emb.same _ | exact Emb.nil _ | refine Emb.cons (by with_reducible first | exact sl0 | exact .there sl0 | exact .there sl1 | exact .there sl2 | exact .there sl3 | exact .there sl4 | exact .there sl5 | exact .there sl6 | exact .there sl7 | exact .there sl8 | exact .there sl9 | exact .there sl10 | exact .there sl11 | exact .there sl12) ?_ | refine Emb.skip ?_)))
  · cases hv

theorem Now_kern {e w L k A K v R} (h : Ok e (kerP k A K :: L) w) (hv : nowM K = some v) (kk : ∀ w', Ok e (kerP k A K :: L) w' → R [.int .u64 v] w') : sh26 (some ⟨k, 0, none⟩) R w := by
  unfold nowM at hv
  split at hv
  · next hu =>
    have hv := Option.some.inj hv
    unfold sh26
    obtain ⟨ho, h2⟩ := kerE h
    obtain ⟨c, t, h3⟩ := hnE ((Ok.emb (h2) (.cons (A := hnP A.hn K.tic K.up K.tb K.last K.ents) (by with_reducible first | exact sl0 | exact .there sl0 | exact .there sl1 | exact .there sl2 | exact .there sl3 | exact .there sl4 | exact .there sl5 | exact .there sl6 | exact .there sl7 | exact .there sl8 | exact .there sl9 | exact .there sl10 | exact .there sl11 | exact .there sl12) (.same _))))
    refine nn.mk (ldP.mk ((Ok.emb (h3) (.cons (A := pts k (kC A K)) (by with_reducible first | exact sl0 | exact .there sl0 | exact .there sl1 | exact .there sl2 | exact .there sl3 | exact .there sl4 | exact .there sl5 | exact .there sl6 | exact .there sl7 | exact .there sl8 | exact .there sl9 | exact .there sl10 | exact .there sl11 | exact .there sl12) (.same _))).cell rfl) (nn.mk (ldP.mk (h3.cell rfl) ?_)))
    refine call58 (Now_cyc ((Ok.emb (h3) (.cons (A := pts c [.pointer (some ⟨t, 0, none⟩), .int .u64 K.tic, .int .u64 K.up, .int .u64 K.tb]) (by with_reducible first | exact sl0 | exact .there sl0 | exact .there sl1 | exact .there sl2 | exact .there sl3 | exact .there sl4 | exact .there sl5 | exact .there sl6 | exact .there sl7 | exact .there sl8 | exact .there sl9 | exact .there sl10 | exact .there sl11 | exact .there sl12) (.same _)))) ⟨hu.1, hu.2.1⟩ hu.2.2 fun w4 h => ⟨(v, ()), by rw [← hv]; rfl, ?_⟩)
    have h := hnI (b := A.hn) (c := c) (t := t) (tic := K.tic) (up := K.up) (tb := K.tb) (last := K.last) (l := K.ents) (h.emb (by repeat' (first | with_reducible exact Emb.same _ | exact Emb.nil _ | refine Emb.cons (by with_reducible first | exact sl0 | exact .there sl0 | exact .there sl1 | exact .there sl2 | exact .there sl3 | exact .there sl4 | exact .there sl5 | exact .there sl6 | exact .there sl7 | exact .there sl8 | exact .there sl9 | exact .there sl10 | exact .there sl11 | exact .there sl12) ?_ | refine Emb.skip ?_)))
    exact kk w4 (kerI (A := A) (K := K) (L := L) ho (h.emb (by repeat' (first | with_reducible exact Emb.same _ | exact Emb.nil _ | refine Emb.cons (by with_reducible first | exact sl0 | exact .there sl0 | exact .there sl1 | exact .there sl2 | exact .there sl3 | exact .there sl4 | exact .there sl5 | exact .there sl6 | exact .there sl7 | exact .there sl8 | exact .there sl9 | exact .there sl10 | exact .there sl11 | exact .there sl12) ?_ | refine Emb.skip ?_))))
  · cases hv

theorem do_51 {e} (tb : TabE e) : DoC e 51 1 fun x0 _ => cSetT x0 := by
  intro k A K r L w x0 x1 x2 x3 R h hm kk
  exact Do_kern (n := 51) tb rfl (by decide) h hm (fun r hr => .inr (.inr (.inr (.inr (.inr (.inr (.inl ⟨by decide, by decide, time_51 hr⟩))))))) kk

theorem do_52 {e} (tb : TabE e) : DoC e 52 1 fun _ _ => cGetT := by
  intro k A K r L w x0 x1 x2 x3 R h hm kk
  exact Do_kern (n := 52) tb rfl (by decide) h hm (fun r hr => .inr (.inr (.inr (.inr (.inr (.inr (.inl ⟨by decide, by decide, time_52 hr⟩))))))) kk

end Go.Proofs.YtenonfkfoedfmaaGreatDoor.B


/- TopClocks. -/
namespace Go.Proofs.YtenonfkfoedfmaaGreatDoor.B
open Go
set_option linter.unusedVariables false

namespace Clk

def mmC : MM := ((((MM.new []).setBase 1 5).bind fun b => b.2.setBase 2 1).getD (0, MM.new [])).2

def cf : ConfM := ⟨1, [(5, true), (1, true)], [], [], [], []⟩

def KC (up tb : Int) : KM := ⟨⟨[], false, false⟩, 1, up, tb, 1, [⟨300, 1, 2⟩], [(1, 5)], mmC, [⟨0, 0, 0, 2, false, 5, 5, 0, 0, 0, 0, 0⟩, ⟨0, 0, 0, 4, false, 1, 1, 2, 0, 1, 0, 0⟩], [], [], [], 1⟩

theorem start : ((KM.new cf).bind fun K0 => K0.call 2 (KM.cDly 299)) = some ((1, 0), KC 0 0) := by kernel_rfl

theorem tick {up tb : Int} (h : 0 ≤ up ∧ up < 299) : (KC up tb).tick = some (KC (up + 1) tb) := by
  rw [tick_of (K := KC up tb) ⟨h.1, by show up ≤ 2 ^ 40; omega⟩]
  have h1 : dueE (up + 1) [⟨300, 1, 2⟩] = [] := due_no (by show up + 1 < 300; omega)
  have h2 : restE (up + 1) [⟨300, 1, 2⟩] = [⟨300, 1, 2⟩] := rest_no (by show up + 1 < 300; omega)
  show Option.map KM.choose (KM.tickL ((dueE (up + 1) [⟨300, 1, 2⟩]).map Ent.arg) { KC up tb with up := up + 1, ents := restE (up + 1) [⟨300, 1, 2⟩] }) = _
  rw [h1, h2]
  rfl

theorem set {up tb v : Int} (h : 0 ≤ up ∧ up < 299) (hv : 0 ≤ v ∧ v < 281474976710656) : (KC up tb).call 1 (cSetT v) = some ((0, 0), KC up ((v - up) % 281474976710656)) := by
  unfold KM.call
  rw [if_neg (fun h => h rfl)]
  unfold cSetT
  rw [if_neg (by omega), if_pos (show 0 ≤ (KC up tb).up ∧ (KC up tb).up ≤ 2 ^ 40 from ⟨h.1, by show up ≤ 2 ^ 40; omega⟩)]
  rfl

theorem now {up tb : Int} (h : 0 ≤ up ∧ up < 299) (ht : 0 ≤ tb ∧ tb < 281474976710656) : nowM (KC up tb) = some ((tb + up) % 281474976710656) := by
  unfold nowM
  rw [if_pos (show 0 ≤ (KC up tb).up ∧ (KC up tb).up ≤ 2 ^ 40 ∧ 0 ≤ (KC up tb).tb ∧ (KC up tb).tb < 281474976710656 from ⟨h.1, by show up ≤ 2 ^ 40; omega, ht.1, ht.2⟩)]
  rfl

theorem get {up tb : Int} (h : 0 ≤ up ∧ up < 299) (ht : 0 ≤ tb ∧ tb < 281474976710656) : (KC up tb).call 1 cGetT = some ((0, (tb + up) % 281474976710656), KC up tb) := by
  unfold KM.call
  rw [if_neg (fun h => h rfl)]
  unfold cGetT
  rw [now h ht]
  rfl

theorem state (up tb : Int) : (KC up tb).state 2 = some 4 := rfl

end Clk

/-- ticks in a loop -/
theorem clk_ticks {e w L k A} {f : World → Prop} {n : Int} {u0 tb : Int} (tbE : TabE e) (h : Ok e (kerP k A (Clk.KC u0 tb) :: old e :: L) w) (hn : 0 ≤ n ∧ n < 100) (hu : 0 ≤ u0 ∧ u0 < 100)
    (kk : ∀ w', Ok e (kerP k A (Clk.KC (u0 + n) tb) :: old e :: L) w' → f w') :
    lp [kI] w ((0 : Int), ()) fun (t33 : Int × Unit) J34 w35 => cs (decide ((t33.1 : Int) < n)) (cl Pg 22 [pV k] [kS] w35 fun (r36 : Sl × Unit) w37 => J34 (w64 (t33.1 + 1), ()) w37) (f w35) := by
  refine lp.mk (fun t w1 => ∃ i : Nat, @Eq Int t.1 (i : Int) ∧ (i : Int) ≤ n ∧ Ok e (kerP k A (Clk.KC (u0 + i) tb) :: old e :: L) w1) (fun t _ => Int.toNat (Int.sub n t.1)) ⟨0, rfl, hn.1, by rw [show u0 + ((0 : Nat) : Int) = u0 from Int.add_zero u0]; exact h⟩ ?_
  rintro ⟨(t : Int), _⟩ w1 ⟨i, (rfl : t = (i : Int)), hi, h⟩
  dsimp only
  refine cs.mk (fun h2 => ?_) (fun h2 => ?_)
  · have h2 : (i : Int) < n := of_decide_eq_true h2
    refine call22 (Tick_kern tbE h (Clk.tick ⟨by omega, by omega⟩) fun w2 h => ⟨(nilS, ()), rfl, ⟨i + 1, w64_in (by omega) (by omega), by omega, ?_⟩, ?_⟩)
    · rw [show u0 + ((i + 1 : Nat) : Int) = u0 + (i : Int) + 1 by omega]; exact h
    · show (n - w64 ((i : Int) + 1)).toNat < (n - (i : Int)).toNat
      rw [w64_in (by omega) (by omega)]; omega
  · have h2 : (i : Int) = n := by have := of_decide_eq_false h2; omega
    rw [h2] at h
    exact kk w1 h

theorem clocks_walk {e w L a0 a1 a2 R} (tb : TabE e) (h : Ok e (old e :: L) w) (h0 : 0 ≤ a0 ∧ a0 ≤ 18446744073709551615) (h1 : 0 ≤ a1 ∧ a1 ≤ 255) (h2 : 0 ≤ a2 ∧ a2 ≤ 255) (kk : ∀ w', Ok e (old e :: L) w' → R [.bool true] w') : sh7 a0 a1 a2 R w := by
  unfold sh7
  refine call17 (known_top tb h fun w1 h => ⟨(true, ()), rfl, cs.no rfl ?_⟩)
  have e1 : w64 (Int.tmod a1 100) = a1 % 100 := by rw [Int.tmod_eq_emod_of_nonneg h1.1, w64_in (by omega) (by omega)]
  have e2 : w64 (Int.tmod a2 100) = a2 % 100 := by rw [Int.tmod_eq_emod_of_nonneg h2.1, w64_in (by omega) (by omega)]
  have e0 : w64 (Int.tmod a0 281474976710656) = a0 % 281474976710656 := by rw [Int.tmod_eq_emod_of_nonneg h0.1, w64_in (by omega) (by omega)]
  rw [e0, e1, e2]
  obtain ⟨v, hv⟩ : ∃ v, v = a0 % 281474976710656 := ⟨_, rfl⟩
  obtain ⟨b, hb⟩ : ∃ v, v = a1 % 100 := ⟨_, rfl⟩
  obtain ⟨c, hc⟩ : ∃ v, v = a2 % 100 := ⟨_, rfl⟩
  rw [← hv, ← hb, ← hc]
  have hv1 : 0 ≤ v ∧ v < 281474976710656 := by omega
  have hb1 : 0 ≤ b ∧ b < 100 := by omega
  have hc1 : 0 ≤ c ∧ c < 100 := by omega
  obtain ⟨K0, hK0, hr1⟩ := Option.bind_eq_some_iff.1 Clk.start
  refine al.mk h fun b0 w2 h => ?_
  refine call18 (a0 := ⟨some ⟨b0, 0, none⟩, 2, 2⟩) (tasks_top (l := [5, 1]) (slcOf (l := [5, 1]) h) (by simp) fun x w2 h => ⟨(((1 : Int), x, nilS, nilS, nilS, nilS, nilS, nilS, (0 : Int), ()), ()), rfl, ?_⟩)
  refine al.mk h fun c0 w3 h => ?_
  refine st1.mk h (by simp) fun w1 h => st1.mk h (by simp) fun w1 h => st1.mk h (by simp) fun w1 h => st1.mk h (by simp) fun w1 h => st1.mk h (by simp) fun w1 h => st1.mk h (by simp) fun w1 h => st1.mk h (by simp) fun w1 h => st1.mk h (by simp) fun w1 h => st1.mk h (by simp) fun w1 h => ?_
  refine ldI.mk (h.cell rfl) (ldS.mk (h.cell rfl) (ldS.mk (h.cell rfl) (ldS.mk (h.cell rfl) (ldS.mk (h.cell rfl) (ldS.mk (h.cell rfl) (ldS.mk (h.cell rfl) (ldS.mk (h.cell rfl) (ldI.mk (h.cell rfl) ?_))))))))
  refine call19 (a0 := cfV Clk.cf ⟨x, nilS, nilS, nilS, nilS⟩) (open_top tb (conf_tasks 1 h.drop) (by decide) hK0 fun k A w3 h => ⟨(some ⟨k, 0, none⟩, ()), rfl, cs.no rfl ?_⟩)
  have h : Ok e (kerP k A K0 :: old e :: L) w3 := (h.emb (by repeat' (first | with_reducible exact Emb.same _ | exact Emb.nil _ | refine Emb.cons (by with_reducible first | exact sl0 | exact .there sl0 | exact .there sl1 | exact .there sl2 | exact .there sl3 | exact .there sl4 | exact .there sl5 | exact .there sl6 | exact .there sl7 | exact .there sl8 | exact .there sl9 | exact .there sl10 | exact .there sl11 | exact .there sl12) ?_ | refine Emb.skip ?_)))
  refine al.mk h fun b1 w4 h => ?_
  refine call20 (a2 := ⟨some ⟨b1, 0, none⟩, 1, 1⟩) (do_top (n := 22) (xs := [299]) (do_22 tb) (slcOf (l := [299]) h) (by simp) hr1 fun w5 h => ⟨((1 : Int), (0 : Int), ()), rfl, ?_⟩)
  refine clk_ticks tb h hb1 (by decide) fun w6 h => ?_
  rw [Int.zero_add] at h
  refine al.mk h fun b1 w4 h => ?_
  refine call20 (a2 := ⟨some ⟨b1, 0, none⟩, 1, 1⟩) (do_top (n := 51) (xs := [v]) (do_51 tb) (slcOf (l := [v]) h) (by simp) (Clk.set ⟨hb1.1, by omega⟩ hv1) fun w5 h => ⟨((0 : Int), (0 : Int), ()), rfl, ?_⟩)
  refine clk_ticks tb h hc1 hb1 fun w6 h => ?_
  have ht : 0 ≤ (v - b) % 281474976710656 ∧ (v - b) % 281474976710656 < 281474976710656 := by omega
  have hn : ((v - b) % 281474976710656 + (b + c)) % 281474976710656 = (v + c) % 281474976710656 := by omega
  have hg := Clk.get (up := b + c) ⟨by omega, by omega⟩ ht
  have hw := Clk.now (up := b + c) ⟨by omega, by omega⟩ ht
  rw [hn] at hg hw
  obtain ⟨z, hz⟩ : ∃ z, z = (v + c) % 281474976710656 := ⟨_, rfl⟩
  have hz1 : 0 ≤ z ∧ z < 281474976710656 := by omega
  have e5 : Int.tmod (w64 (v + c)) 281474976710656 = z := by rw [w64_in (by omega) (by omega), Int.tmod_eq_emod_of_nonneg (by omega), hz]
  have e6 : IntKind.u64.wrap z = z := u64_in (by omega) (by omega)
  rw [← hz] at hg hw
  refine call20 (a2 := nilS) (do_top (n := 52) (xs := []) (do_52 tb) (h.slcNil 1) (by simp) hg fun w7 h => ⟨((0 : Int), z, ()), rfl, ?_⟩)
  dsimp only
  rw [e5, e6]
  refine jn.mk fun J1 hJ1 => cs.yes rfl (hJ1 _ _ ?_)
  refine jn.mk fun J2 hJ2 => cs.yes rfl (hJ2 _ _ ?_)
  refine jn.mk fun J3 hJ3 => cs.yes (by simp) (call26 (Now_kern h hw fun w8 h => ⟨(z, ()), rfl, hJ3 _ _ ?_⟩))
  refine jn.mk fun J4 hJ4 => cs.yes (by simp) (call21 (Running_kern h ⟨((1 : Int), ()), rfl, hJ4 _ _ ?_⟩))
  refine jn.mk fun J5 hJ5 => cs.yes rfl (call27 (state_top h (Clk.state _ _) fun w9 h => ⟨((4 : Int), ()), rfl, hJ5 _ _ ?_⟩))
  exact kk w9 h.drop

theorem wf_u64 {x : Int} (h : (Lit.int .u64 x).wf = true) : 0 ≤ x ∧ x ≤ 18446744073709551615 := by simpa [Lit.wf, IntKind.min, IntKind.max, IntKind.signed, IntKind.bits] using h

theorem TopClocks_walk {W a0 a1 a2} (tb : TabE W) (h0 : (Lit.int .u64 a0).wf = true) (h1 : (Lit.int .u8 a1).wf = true) (h2 : (Lit.int .u8 a2).wf = true) : sh7 a0 a1 a2 (fun vs w' => vs = [.bool true] ∧ Ok W [old W] w') W :=
  clocks_walk tb (Ok.start W) (wf_u64 h0) (wf_u8 h1) (wf_u8 h2) fun w' h => ⟨rfl, h⟩

end Go.Proofs.YtenonfkfoedfmaaGreatDoor.B


/- Sleeps and wakeups. -/
namespace Go.Proofs.YtenonfkfoedfmaaGreatDoor.B
open Go
set_option linter.unusedVariables false

theorem sleep_kern {e w L k A K r R} (h : Ok e (kerP k A K :: L) w) (hw : K.who ≠ 0) (hm : KM.cSlp K = some r) (kk : ∀ w', Ok e (kerP k A r.2 :: L) w' → R [.agg #[.int .i64 r.1.1, .int .i64 r.1.2]] w') : sh135 (some ⟨k, 0, none⟩) (-1) R w := by
  unfold KM.cSlp at hm
  rw [if_neg hw] at hm
  obtain ⟨u, hu, hm⟩ := Option.bind_eq_some_iff.1 hm
  split at hm
  · cases hm
  next hb =>
  have hb := Classical.not_not.1 hb
  unfold sh135
  refine al.mk h fun d w1 h => dr.mk h fun w2 h => ?_
  obtain ⟨t, H, ho, h, back, read⟩ := ker_un h.p1 hu
  refine nn.mk (ldS.mk (h.cell rfl) (nn.mk (ldI.mk (h.cell rfl) (read e _ w2 _ ((Ok.emb (h) (.cons (A := H) (by with_reducible first | exact sl0 | exact .there sl0 | exact .there sl1 | exact .there sl2 | exact .there sl3 | exact .there sl4 | exact .there sl5 | exact .there sl6 | exact .there sl7 | exact .there sl8 | exact .there sl9 | exact .there sl10 | exact .there sl11 | exact .there sl12) (.same _)))) fun b2 o2 hc => ldP.mk hc (nn.mk (ldP.mk (h.p1.cell rfl) (nn.mk (ldI.mk (by refine Ok.cellS h (by with_reducible first | exact sl0 | exact .there sl0 | exact .there sl1 | exact .there sl2 | exact .there sl3 | exact .there sl4 | exact .there sl5 | exact .there sl6 | exact .there sl7 | exact .there sl8 | exact .there sl9 | exact .there sl10 | exact .there sl11 | exact .there sl12) ?_; rfl) ?_))))))))
  refine jn.bool false (fun J hJ => cs.mk (fun _ => hJ) (fun _ => hJ)) (cs.no rfl (nn.mk (ldP.mk (h.p1.cell rfl) ?_)))
  refine call204 (Sleep_tcb ((Ok.emb (h) (.cons (A := pts t (tcC u)) (by with_reducible first | exact sl0 | exact .there sl0 | exact .there sl1 | exact .there sl2 | exact .there sl3 | exact .there sl4 | exact .there sl5 | exact .there sl6 | exact .there sl7 | exact .there sl8 | exact .there sl9 | exact .there sl10 | exact .there sl11 | exact .there sl12) (.same _)))) ⟨hb.1, by omega⟩ (fun h1 w3 h => ⟨(false, (-41 : Int), ()), rfl, cs.yes rfl ?_⟩) (fun h1 h2 w3 h => ⟨(false, (0 : Int), ()), rfl, cs.yes rfl ?_⟩) (fun h1 h2 w3 h => ⟨(true, (0 : Int), ()), rfl, cs.no rfl ?_⟩))
  · rw [if_pos h1] at hm
    cases hm
    have h := back K u e (pts d [.int .i64 0, .int .i64 0] :: L) w3 ho rfl (h.emb (by repeat' (first | with_reducible exact Emb.same _ | exact Emb.nil _ | refine Emb.cons (by with_reducible first | exact sl0 | exact .there sl0 | exact .there sl1 | exact .there sl2 | exact .there sl3 | exact .there sl4 | exact .there sl5 | exact .there sl6 | exact .there sl7 | exact .there sl8 | exact .there sl9 | exact .there sl10 | exact .there sl11 | exact .there sl12) ?_ | refine Emb.skip ?_)))
    rw [setU_same hu] at h
    exact fin_code h.p1 fun w4 h => kk w4 h
  · rw [if_neg (fun hx => hx h1), if_pos h2] at hm
    cases hm
    have h := back K { u with wups := u.wups - 1 } e (pts d [.int .i64 0, .int .i64 0] :: L) w3 ho rfl (h.emb (by repeat' (first | with_reducible exact Emb.same _ | exact Emb.nil _ | refine Emb.cons (by with_reducible first | exact sl0 | exact .there sl0 | exact .there sl1 | exact .there sl2 | exact .there sl3 | exact .there sl4 | exact .there sl5 | exact .there sl6 | exact .there sl7 | exact .there sl8 | exact .there sl9 | exact .there sl10 | exact .there sl11 | exact .there sl12) ?_ | refine Emb.skip ?_)))
    exact fin_code h.p1 fun w4 h => kk w4 h
  · rw [if_neg (fun hx => hx h1), if_neg h2] at hm
    obtain ⟨K', hK, rfl⟩ := Option.map_eq_some_iff.1 hm
    have h := back K { u with state := 4, asleep := true } e (pts d [.int .i64 0, .int .i64 0] :: L) w3 ho rfl (h.emb (by repeat' (first | with_reducible exact Emb.same _ | exact Emb.nil _ | refine Emb.cons (by with_reducible first | exact sl0 | exact .there sl0 | exact .there sl1 | exact .there sl2 | exact .there sl3 | exact .there sl4 | exact .there sl5 | exact .there sl6 | exact .there sl7 | exact .there sl8 | exact .there sl9 | exact .there sl10 | exact .there sl11 | exact .there sl12) ?_ | refine Emb.skip ?_)))
    exact call138 (stay_kern h hK fun w4 h => ⟨(((1 : Int), (0 : Int), ()), ()), rfl, fin_res h.p1 fun w5 h => kk w5 h⟩)

theorem tasks_12 {e k A K r x0 x1 x2 x3} (hm : KM.cSlp K = some r) : GrpC e k A K r (sh79 (some ⟨k, 0, none⟩) (((12 : Nat) : Int), x0, x1, x2, x3, ())) := by
  intro L w R h kk
  refine tasks_pre h (n := 12) rfl (by decide) (by decide) (by decide) (by decide) (fun hz w' h => ?_) (fun hz b d w' h => ?_)
  · unfold KM.cSlp at hm
    rw [if_pos (show K.who = 0 from hz)] at hm
    cases hm
    exact kk w' h
  · unfold tasksR
    refine ldI.mk (h.p1.cell rfl) ?_
    (repeat (first | ((with_reducible refine cs.yes ?_ ?_); · rfl) | ((with_reducible refine cs.no ?_ ?_); · rfl) | refine jn.mk fun J hJ => ?_ | with_reducible apply_assumption -exfalso -symm))
    refine call135 (sleep_kern (h.p2) hz hm fun w3 h => ⟨((r.1.1, r.1.2, ()), ()), rfl, ?_⟩)
    exact fin_res h.p1 fun w4 h => kk w4 h.p1.drop

theorem one_15 {e k A K v u r x0 x1 x2 x3} (hu : K.un v = some u) (hm : K.wup v = some r) :
    OneC e k A K v r fun a => sh140 (some ⟨k, 0, none⟩) (((15 : Nat) : Int), x0, x1, x2, x3, ()) v a := by
  intro L w R t h hc kk
  obtain ⟨H, ho, h, back⟩ := open_t h hu hc
  unfold KM.wup at hm
  rw [hu, Option.bind_some] at hm
  split at hm
  · cases hm
  next hb =>
  have hb := Classical.not_not.1 hb
  unfold sh140
  refine al.mk h fun b5 w3 h => al.mk h fun d5 w4 h => ldI.mk (h.p1.cell rfl) ?_
  (repeat (first | ((with_reducible refine cs.yes ?_ ?_); · rfl) | ((with_reducible refine cs.no ?_ ?_); · rfl) | refine jn.mk fun J hJ => ?_ | with_reducible apply_assumption -exfalso -symm))
  have fin : ∀ u' w', Ok e (pts t (tcC u') :: pts d5 [.int .i64 0, .int .i64 0] :: pts b5 [.int .i64 ((15 : Nat) : Int), .int .i64 x0, .int .i64 x1, .int .i64 x2, .int .i64 x3] :: pts k (kC A K) :: pts (A.ub (v - 1).toNat) (unC t u) :: H :: kR A K (old e :: L)) w' → unC t u' = unC t u →
      Ok e (kerP k A (K.setU v u') :: pts d5 [.int .i64 0, .int .i64 0] :: pts b5 [.int .i64 ((15 : Nat) : Int), .int .i64 x0, .int .i64 x1, .int .i64 x2, .int .i64 x3] :: old e :: L) w' := fun u' w' h hx => by
    rw [← hx] at h
    exact back K u' e _ w' ho rfl (h.emb (by repeat' (first | with_reducible exact Emb.same _ | exact Emb.nil _ | refine Emb.cons (by with_reducible first | exact sl0 | exact .there sl0 | exact .there sl1 | exact .there sl2 | exact .there sl3 | exact .there sl4 | exact .there sl5 | exact .there sl6 | exact .there sl7 | exact .there sl8 | exact .there sl9 | exact .there sl10 | exact .there sl11 | exact .there sl12) ?_ | refine Emb.skip ?_)))
  refine call209 (Wake_tcb ((Ok.emb (h) (.cons (A := pts t (tcC u)) (by with_reducible first | exact sl0 | exact .there sl0 | exact .there sl1 | exact .there sl2 | exact .there sl3 | exact .there sl4 | exact .there sl5 | exact .there sl6 | exact .there sl7 | exact .there sl8 | exact .there sl9 | exact .there sl10 | exact .there sl11 | exact .there sl12) (.cons (A := pts d5 [.int .i64 0, .int .i64 0]) (by with_reducible first | exact sl0 | exact .there sl0 | exact .there sl1 | exact .there sl2 | exact .there sl3 | exact .there sl4 | exact .there sl5 | exact .there sl6 | exact .there sl7 | exact .there sl8 | exact .there sl9 | exact .there sl10 | exact .there sl11 | exact .there sl12) (.cons (A := pts b5 [.int .i64 ((15 : Nat) : Int), .int .i64 x0, .int .i64 x1, .int .i64 x2, .int .i64 x3]) (by with_reducible first | exact sl0 | exact .there sl0 | exact .there sl1 | exact .there sl2 | exact .there sl3 | exact .there sl4 | exact .there sl5 | exact .there sl6 | exact .there sl7 | exact .there sl8 | exact .there sl9 | exact .there sl10 | exact .there sl11 | exact .there sl12) (.same _)))))) hb.1 (fun h1 w3 h => ⟨(false, (-41 : Int), ()), rfl, ?_⟩) (fun h1 h2 w3 h => ⟨(true, (0 : Int), ()), rfl, ?_⟩) (fun h1 h2 h3 w3 h => ⟨(false, (-43 : Int), ()), rfl, ?_⟩) (fun h1 h2 h3 w3 h => ⟨(false, (0 : Int), ()), rfl, ?_⟩))
  · rw [if_pos h1] at hm
    cases hm
    have h := fin u w3 h rfl
    rw [setU_same hu] at h
    exact jn.mk fun J hJ => cs.no rfl (hJ _ _ (fin_code h.p1 fun w4 h => kk w4 h.p1.drop))
  · rw [if_neg h1, if_pos h2] at hm
    obtain ⟨K', hK, rfl⟩ := Option.map_eq_some_iff.1 hm
    have h := fin u.release w3 h (by unfold Un.release; (repeat (first | rfl | split)))
    refine jn.mk fun J hJ => cs.yes rfl (call116 (a2 := ((0 : Int), (0 : Int), ())) (told_kern h hK fun w4 h => ⟨(), rfl, hJ _ _ (fin_code h.p1 fun w5 h => kk w5 h.p1.drop)⟩))
  · rw [if_neg h1, if_neg (by rw [h2]; decide), if_pos h3] at hm
    cases hm
    have h := fin u w3 h rfl
    rw [setU_same hu] at h
    exact jn.mk fun J hJ => cs.no rfl (hJ _ _ (fin_code h.p1 fun w4 h => kk w4 h.p1.drop))
  · rw [if_neg h1, if_neg (by rw [h2]; decide), if_neg h3] at hm
    cases hm
    have h := fin { u with wups := u.wups + 1 } w3 h rfl
    exact jn.mk fun J hJ => cs.no rfl (hJ _ _ (fin_code h.p1 fun w4 h => kk w4 h.p1.drop))

theorem tasks_15 {e k A K r x0 x1 x2 x3} (hm : KM.cIwup x0 K = some r) : GrpC e k A K r (sh79 (some ⟨k, 0, none⟩) (((15 : Nat) : Int), x0, x1, x2, x3, ())) := by
  intro L w R h kk
  unfold KM.cIwup KM.byTask at hm
  refine tasks_pre h (n := 15) rfl (by decide) (by decide) (by decide) (by decide) (fun hz w' h => ?_) (fun hz b d w' h => ?_)
  · rw [if_pos (show K.named x0 false = 0 from hz)] at hm
    cases hm
    exact kk w' h
  · rw [if_neg (show ¬ K.named x0 false = 0 from hz)] at hm
    have hv : nmd K 15 3 x0 = K.named x0 false := rfl
    rw [hv]
    generalize K.named x0 false = v at hm
    obtain ⟨u, hu, -⟩ := Option.bind_eq_some_iff.1 hm
    unfold tasksR
    refine ldI.mk (h.p1.cell rfl) ?_
    (repeat (first | ((with_reducible refine cs.yes ?_ ?_); · rfl) | ((with_reducible refine cs.no ?_ ?_); · rfl) | refine jn.mk fun J hJ => ?_ | with_reducible apply_assumption -exfalso -symm))
    exact one_pre h hu (one_15 hu hm) kk

theorem do_12 {e} (tb : TabE e) : DoC e 12 2 fun _ _ => KM.cSlp := by
  intro k A K r L w x0 x1 x2 x3 R h hm kk
  exact Do_kern (n := 12) tb rfl (by decide) h hm (fun r hr => .inl ⟨by decide, tasks_12 hr⟩) kk

theorem do_15 {e} (tb : TabE e) : DoC e 15 3 fun x0 _ => KM.cIwup x0 := by
  intro k A K r L w x0 x1 x2 x3 R h hm kk
  exact Do_kern (n := 15) tb rfl (by decide) h hm (fun r hr => .inl ⟨by decide, tasks_15 hr⟩) kk

end Go.Proofs.YtenonfkfoedfmaaGreatDoor.B


/- TopInterrupts. -/
namespace Go.Proofs.YtenonfkfoedfmaaGreatDoor.B
open Go
set_option linter.unusedVariables false

namespace Itr

def cf (a : Int) : ConfM := ⟨1, [(a, true), (1, true)], [], [], [], []⟩

def mm (a : Int) : MM := ⟨[⟨0, 0, 0, []⟩], [MM.mt0, ⟨a, a, 0⟩, ⟨1, 1, 0⟩] ++ List.replicate 14 MM.mt0⟩

def K1 (a : Int) (lv : List Int) : KM := ⟨⟨lv, false, false⟩, 1, 0, 0, 0, [], [(1, a)], mm a, [⟨0, 0, 0, 2, false, a, a, 0, 0, 0, 0, 0⟩, ⟨0, 0, 0, 4, true, 1, 1, 1, 0, 0, 0, 0⟩], [], [], [], 1⟩

def K2 (a : Int) (lv : List Int) (who : Int) : KM := ⟨⟨lv, false, false⟩, 1, 0, 0, 0, [], [(2, 1), (1, a)], mm a, [⟨0, 0, 0, 2, false, a, a, 0, 0, 0, 0, 0⟩, ⟨0, 0, 0, 2, false, 1, 1, 0, 0, 0, 0, 0⟩], [], [], [], who⟩

theorem cases {a : Int} (h : 2 ≤ a ∧ a ≤ 16) : a = 2 ∨ a = 3 ∨ a = 4 ∨ a = 5 ∨ a = 6 ∨ a = 7 ∨ a = 8 ∨ a = 9 ∨ a = 10 ∨ a = 11 ∨ a = 12 ∨ a = 13 ∨ a = 14 ∨ a = 15 ∨ a = 16 := by omega

theorem start {a : Int} (h : 2 ≤ a ∧ a ≤ 16) : ((KM.new (cf a)).bind fun K0 => if K0.who ≠ 2 then none else K0.call 2 KM.cSlp) = some ((1, 0), K1 a []) := by
  rcases cases h with rfl | rfl | rfl | rfl | rfl | rfl | rfl | rfl | rfl | rfl | rfl | rfl | rfl | rfl | rfl <;> kernel_rfl

theorem inn_cons (x : Int) (r : List Int) (b c : Bool) : (⟨x :: r, b, c⟩ : PlaceM).inn = true := by
  unfold PlaceM.inn
  simp

theorem no_dispatch (x : Int) (r : List Int) : (⟨x :: r, false, false⟩ : PlaceM).dispatch = false := by
  unfold PlaceM.dispatch
  rw [inn_cons]
  rfl

theorem intr_eq {a l : Int} {lv : List Int} (hl : 1 ≤ l ∧ l ≤ 15) : ∃ lv' c, (K1 a lv).intr l = (c, K1 a lv') ∧ (c = 0 ∧ lv'.length = lv.length + 1 ∨ c ≠ 0 ∧ lv' = lv) := by
  unfold KM.intr PlaceM.enter
  rw [if_neg (by omega)]
  by_cases hc : (K1 a lv).pl.locked = true ∨ (K1 a lv).pl.inn = true ∧ l ≤ (K1 a lv).pl.top
  · rw [if_pos hc]
    cases lv with
    | nil => rcases hc with hc | ⟨hc, -⟩ <;> cases hc
    | cons x r =>
      refine ⟨x :: r, -25, ?_, .inr ⟨by decide, rfl⟩⟩
      unfold KM.choose
      show (-25, if (⟨x :: r, false, false⟩ : PlaceM).dispatch = true then _ else _) = _
      rw [no_dispatch]
      rfl
  · rw [if_neg hc]
    refine ⟨lv ++ [l], 0, ?_, .inl ⟨rfl, by simp⟩⟩
    unfold KM.choose
    show ((0 : Int), if (⟨lv ++ [l], false, false⟩ : PlaceM).dispatch = true then _ else _) = _
    have hd : (⟨lv ++ [l], false, false⟩ : PlaceM).dispatch = false := by
      cases lv with
      | nil => exact no_dispatch _ _
      | cons x r => exact no_dispatch _ _
    rw [hd]
    rfl

theorem may3 (x : Int) (r : List Int) (idle : Bool) : (⟨x :: r, false, false⟩ : PlaceM).may 3 idle = 0 := by
  simp [PlaceM.may, PlaceM.ok, PlaceM.ok4, PlaceM.ok1, PlaceM.ok2, PlaceM.ok3, inn_cons]

theorem wup {a : Int} (h : 2 ≤ a ∧ a ≤ 16) (lv : List Int) : KM.cIwup 2 (K1 a lv) = some ((0, 0), K2 a lv 1) := by
  rcases cases h with rfl | rfl | rfl | rfl | rfl | rfl | rfl | rfl | rfl | rfl | rfl | rfl | rfl | rfl | rfl <;> kernel_rfl

theorem call_wup {a x : Int} {r : List Int} (h : 2 ≤ a ∧ a ≤ 16) : (K1 a (x :: r)).call 3 (KM.cIwup 2) = some ((0, 0), K2 a (x :: r) 1) := by
  unfold KM.call
  rw [if_neg (fun hc => hc (may3 x r _)), wup h]
  show some ((0, 0), (K2 a (x :: r) 1).choose) = _
  unfold KM.choose
  rw [if_neg (by show ¬ (⟨x :: r, false, false⟩ : PlaceM).dispatch = true; rw [no_dispatch]; decide)]

theorem state2 (a who : Int) (lv : List Int) (h : who = 1) : (K2 a lv who).state 2 = some 2 := by subst h; rfl

theorem exit_eq (x : Int) (r : List Int) : (⟨x :: r, false, false⟩ : PlaceM).exit = (0, ⟨(x :: r).take r.length, false, false⟩) := by
  unfold PlaceM.exit
  rw [inn_cons]
  rfl

theorem retn_eq {a x : Int} {r : List Int} : (K2 a (x :: r) 1).retn = (0, K2 a ((x :: r).take r.length) (if r.length = 0 then 2 else 1)) := by
  unfold KM.retn
  show ((⟨x :: r, false, false⟩ : PlaceM).exit.1, ({ K2 a (x :: r) 1 with pl := (⟨x :: r, false, false⟩ : PlaceM).exit.2 } : KM).choose) = _
  rw [exit_eq]
  cases r with
  | nil => rfl
  | cons y s =>
    show ((0 : Int), (K2 a (x :: (y :: s).take s.length) 1).choose) = (0, K2 a (x :: (y :: s).take s.length) (if s.length + 1 = 0 then 2 else 1))
    unfold KM.choose
    rw [if_neg (by show ¬ (⟨x :: (y :: s).take s.length, false, false⟩ : PlaceM).dispatch = true; rw [no_dispatch]; decide), if_neg (by omega)]

theorem ok_cf {a : Int} (h : 2 ≤ a ∧ a ≤ 16) : (cf a).ok = true := by
  rcases cases h with rfl | rfl | rfl | rfl | rfl | rfl | rfl | rfl | rfl | rfl | rfl | rfl | rfl | rfl | rfl <;> decide

end Itr

theorem interrupts_walk {e L w s R} {lv : List Int} {a1 : Int} (tb : TabE e) (h : Ok e (old e :: L) w) (hlen : lv.length = s.len) (hr : ∀ x ∈ lv, 0 ≤ x ∧ x ≤ 255)
    (rd : ∀ {w' L'} {i : Int} {f : Nat → Nat → Prop}, Ok e (old e :: L') w' → 0 ≤ i → i < s.len → (∀ b o x, lv[i.toNat]? = some x → w'.cell? ⟨b, o, none⟩ = some (.int .u8 x) → f b o) → ix s i 1 f)
    (h1 : 0 ≤ a1 ∧ a1 ≤ 255) (kk : ∀ w', Ok e (old e :: L) w' → R [.bool true] w') : sh13 s a1 R w := by
  unfold sh13
  refine call17 (known_top tb h fun w1 h => ⟨(true, ()), rfl, cs.no rfl ?_⟩)
  refine cs.mk (fun hc => kk _ h) (fun hc => ?_)
  have hc : ¬ ((s.len : Int) > 15) := of_decide_eq_false hc
  have e1 : w64 (2 + w64 (Int.tmod a1 15)) = 2 + a1 % 15 := by
    rw [Int.tmod_eq_emod_of_nonneg h1.1, w64_in (x := a1 % 15) (by omega) (by omega), w64_in (by omega) (by omega)]
  rw [e1]
  obtain ⟨a, ha⟩ : ∃ q, q = 2 + a1 % 15 := ⟨_, rfl⟩
  rw [← ha]
  have ha1 : 2 ≤ a ∧ a ≤ 16 := by omega
  obtain ⟨K0, hK0, hM⟩ := Option.bind_eq_some_iff.1 (Itr.start ha1)
  split at hM
  · cases hM
  next hw0 =>
  have hw0 := Classical.not_not.1 hw0
  refine al.mk h fun b0 w2 h => ?_
  refine call18 (a0 := ⟨some ⟨b0, 0, none⟩, 2, 2⟩) (tasks_top (l := [a, 1]) (slcOf (l := [a, 1]) h) (by simp) fun x w2 h => ⟨(((1 : Int), x, nilS, nilS, nilS, nilS, nilS, nilS, (0 : Int), ()), ()), rfl, ?_⟩)
  refine al.mk h fun c0 w3 h => ?_
  refine st1.mk h (by simp) fun w1 h => st1.mk h (by simp) fun w1 h => st1.mk h (by simp) fun w1 h => st1.mk h (by simp) fun w1 h => st1.mk h (by simp) fun w1 h => st1.mk h (by simp) fun w1 h => st1.mk h (by simp) fun w1 h => st1.mk h (by simp) fun w1 h => st1.mk h (by simp) fun w1 h => ?_
  refine ldI.mk (h.cell rfl) (ldS.mk (h.cell rfl) (ldS.mk (h.cell rfl) (ldS.mk (h.cell rfl) (ldS.mk (h.cell rfl) (ldS.mk (h.cell rfl) (ldS.mk (h.cell rfl) (ldS.mk (h.cell rfl) (ldI.mk (h.cell rfl) ?_))))))))
  refine call19 (a0 := cfV (Itr.cf a) ⟨x, nilS, nilS, nilS, nilS⟩) (open_top tb (conf_tasks 1 h.drop) (Itr.ok_cf ha1) hK0 fun k A w3 h => ⟨(some ⟨k, 0, none⟩, ()), rfl, ?_⟩)
  have h : Ok e (kerP k A K0 :: old e :: L) w3 := (h.emb (by repeat' (first | with_reducible exact Emb.same _ | exact Emb.nil _ | refine Emb.cons (by with_reducible first | exact sl0 | exact .there sl0 | exact .there sl1 | exact .there sl2 | exact .there sl3 | exact .there sl4 | exact .there sl5 | exact .there sl6 | exact .there sl7 | exact .there sl8 | exact .there sl9 | exact .there sl10 | exact .there sl11 | exact .there sl12) ?_ | refine Emb.skip ?_)))
  refine jn.mk fun J hJ => cs.no rfl (call21 (Running_kern h ⟨(K0.who, ()), rfl, hJ _ _ (cs.no (by simpa using hw0) ?_)⟩))
  clear hJ J
  refine call20 (a2 := nilS) (do_top (n := 12) (xs := []) (do_12 tb) (h.slcNil 1) (by simp) hM fun w5 h => ⟨((1 : Int), (0 : Int), ()), rfl, ?_⟩)
  refine call21 (Running_kern h ⟨((1 : Int), ()), rfl, cs.no rfl ?_⟩)
  refine lp.mk (fun t w1 => ∃ (i : Nat) (l : List Int), @Eq Int t.1 (l.length : Int) ∧ @Eq Int t.2.1 (i : Int) ∧ i ≤ lv.length ∧ l.length ≤ i ∧ Ok e (kerP k A (Itr.K1 a l) :: old e :: L) w1)
    (fun t _ => Int.toNat (Int.sub lv.length t.2.1)) ⟨0, [], rfl, rfl, by omega, by simp, h⟩ ?_
  clear h
  rintro ⟨(n : Int), (t : Int), _⟩ w6 ⟨i, l, (rfl : n = (l.length : Int)), (rfl : t = (i : Int)), hi, hli, h⟩
  dsimp only
  refine cs.mk (fun h2 => ?_) (fun h2 => ?_)
  · have h2 : i < lv.length := by have := of_decide_eq_true h2; omega
    refine rd h.p1 (by omega) (by omega) fun b o x hx hcell => ldI.mk hcell ?_
    have hxm := hr x (List.mem_of_getElem? hx)
    obtain ⟨f1, f2, f3⟩ := w64_mod (a := x) (m := 15) hxm.1 (by decide)
    rw [f1]
    obtain ⟨l', c, hI, hcase⟩ := Itr.intr_eq (a := a) (l := 1 + x % 15) (lv := l) (by omega)
    refine call39 (Int_kern tb h (by show l.length ≤ 100; omega) fun w7 h => ⟨(((Itr.K1 a l).intr (1 + x % 15)).1, ()), rfl, ?_⟩)
    rw [hI] at h ⊢
    have meas : ((lv.length : Int) - w64 ((i : Int) + 1)).toNat < ((lv.length : Int) - (i : Int)).toNat := by
      rw [w64_in (by omega) (by omega)]; omega
    have inc : w64 ((i : Int) + 1) = ((i + 1 : Nat) : Int) := w64_in (by omega) (by omega)
    rcases hcase with ⟨hc0, hl'⟩ | ⟨hc0, hl'⟩
    · exact cs.yes (by simpa using hc0) ⟨⟨i + 1, l', by rw [hl']; exact w64_in (by omega) (by omega), inc, by omega, by omega, h⟩, meas⟩
    · rw [hl'] at h
      exact cs.no (by simpa using hc0) ⟨⟨i + 1, l, rfl, inc, by omega, by omega, h⟩, meas⟩
  refine cs.mk (fun h3 => kk _ h.drop) (fun h3 => ?_)
  have h3 : l.length ≠ 0 := by
    have h3 : ((l.length : Int) == (0 : Int)) = false := h3
    simpa using h3
  have hl15 : l.length ≤ 15 := by omega
  obtain ⟨x, r, rfl⟩ : ∃ x r, l = x :: r := by
    cases l with
    | nil => exact absurd rfl h3
    | cons x r => exact ⟨x, r, rfl⟩
  refine al.mk h fun b1 w4 h => ?_
  refine call20 (a2 := ⟨some ⟨b1, 0, none⟩, 1, 1⟩) (do_top (n := 15) (xs := [2]) (do_15 tb) (slcOf (l := [2]) h) (by simp) (Itr.call_wup ha1) fun w5 h => ⟨((0 : Int), (0 : Int), ()), rfl, ?_⟩)
  refine jn.mk fun J1 hJ1 => cs.no rfl (call21 (Running_kern h ⟨((1 : Int), ()), rfl, hJ1 _ _ ?_⟩))
  refine jn.mk fun J2 hJ2 => cs.no rfl (call27 (state_top h (Itr.state2 a 1 _ rfl) fun w7 h => ⟨((2 : Int), ()), rfl, hJ2 _ _ (cs.no rfl ?_)⟩))
  clear hJ1 hJ2 J1 J2
  refine lp.mk (fun t w1 => ∃ (j : Nat), @Eq Int t.1 (j : Int) ∧ j ≤ (x :: r).length ∧ Ok e (kerP k A (Itr.K2 a ((x :: r).take ((x :: r).length - j)) (if j = (x :: r).length then 2 else 1)) :: old e :: L) w1)
    (fun t _ => Int.toNat (Int.sub (x :: r).length t.1)) ⟨0, rfl, by omega, ?_⟩ ?_
  · rw [Nat.sub_zero, List.take_length, if_neg (by simp)]
    exact h
  rintro ⟨(t : Int), _⟩ w8 ⟨j, (rfl : t = (j : Int)), hj, h⟩
  dsimp only
  refine cs.mk (fun h4 => ?_) (fun h4 => ?_)
  · have h4 : j < (x :: r).length := by have := of_decide_eq_true h4; omega
    rw [if_neg (by omega)] at h
    refine call21 (Running_kern h ⟨((1 : Int), ()), rfl, ?_⟩)
    obtain ⟨m, hm⟩ : ∃ m, (x :: r).length - j = m + 1 := ⟨(x :: r).length - j - 1, by omega⟩
    rw [hm, List.take_succ_cons] at h
    have hml : (r.take m).length = m := by
      rw [List.length_take]; simp only [List.length_cons] at hm; omega
    refine jn.mk fun J1 hJ1 => cs.no rfl ?_
    refine call40 (Ret_kern tb h (by show (x :: r.take m).length ≤ 100; simp only [List.length_cons] at *; omega) fun w9 h => ⟨((Itr.K2 a (x :: r.take m) 1).retn.1, ()), rfl, ?_⟩)
    rw [Itr.retn_eq] at h ⊢
    refine hJ1 _ _ (cs.no rfl ⟨⟨j + 1, w64_in (by omega) (by omega), h4, ?_⟩, ?_⟩)
    · rw [show (x :: r).length - (j + 1) = m by omega]
      rw [hml] at h
      have e7 : (x :: r.take m).take m = (x :: r).take m := by
        cases m with
        | zero => rfl
        | succ m => rw [List.take_succ_cons, List.take_succ_cons, List.take_take, Nat.min_eq_left (by omega)]
      rw [e7] at h
      by_cases hm0 : m = 0
      · rw [if_pos hm0] at h
        rw [if_pos (by omega)]
        exact h
      · rw [if_neg hm0] at h
        rw [if_neg (by omega)]
        exact h
    · show (((x :: r).length : Int) - w64 ((j : Int) + 1)).toNat < (((x :: r).length : Int) - (j : Int)).toNat
      rw [w64_in (by omega) (by omega)]
      omega
  · have h4 : j = (x :: r).length := by have := of_decide_eq_false h4; omega
    rw [if_pos h4] at h
    refine call21 (Running_kern h ⟨((2 : Int), ()), rfl, kk _ h.drop⟩)

theorem TopInterrupts_walk {W a1} {s : Sl} {lv : List Int} (tb : TabE W) (h0 : ArgI .u8 W s lv) (h1 : (Lit.int .u8 a1).wf = true) : sh13 s a1 (fun vs w' => vs = [.bool true] ∧ Ok W [old W] w') W :=
  interrupts_walk tb (Ok.start W) h0.len (fun x hx => h0.u8 hx) (fun h hi0 hi1 k => ix_arg h0 hi0 hi1 fun b o x hx hc => k b o x hx (hc _ ⟨_, h⟩)) (wf_u8 h1) fun w' h => ⟨rfl, h⟩

end Go.Proofs.YtenonfkfoedfmaaGreatDoor.B

