/- Texts of ours, joined: Grp, Grp2, Grp3, Grp4, Del, Law, DelW, Row, TopLaid. -/
import Derived.Below
import Derived.ChangeOld
import Derived.ChangeShapes
import Derived.Deep.Slices
import Derived.FnData
import Derived.JoinedOf
import Derived.KernelRfl
import Derived.LaidLaws
import Derived.LaidMore
import Derived.MakeChecks
import Derived.OpenShut
import Derived.ProofKit
import Derived.Test.YtenonfkfoedfmaaGreatDoorRows
import Derived.Test.YtenonfkfoedfmaaGreatDoorJTop37
set_option linter.unusedSimpArgs false
set_option linter.unusedVariables false
/- Calls of tasks: what they share. -/
namespace Go.Proofs.YtenonfkfoedfmaaGreatDoor.B
open Go
set_option linter.unusedVariables false

/-- the calls of tasks, behind the task's name -/
def tasksR (k b1 b3 : Nat) (v : Int) (R : List Value → World → Prop) (w18 : World) : Prop :=
ldI w18 .i64 b1 0 fun n26 =>
cs ((n26 : Int) == (4 : Int)) (
nn (some ⟨k, 0, none⟩) fun b27 o28 =>
ldP w18 b27 (o28 + 6) fun p29 =>
cl Pg 131 [.pointer p29, .bool false] [] w18 fun (r30 : Unit) w31 =>
nn (some ⟨k, 0, none⟩) fun b32 o33 =>
ldP w31 b32 (o33 + 6) fun p34 =>
cl Pg 132 [.pointer p34, .bool false] [] w31 fun (r35 : Unit) w36 =>
cl Pg 133 [pV k, .int .i64 v] [] w36 fun (r37 : Unit) w38 =>
cl Pg 77 [.int .i64 0, .slice none 0 0] [.a [(.i .i64), (.i .i64)]] w38 fun (r39 : (Int × Int × Unit) × Unit) w40 =>
st1 w40 b3 0 (.int .i64 r39.1.1) fun w41 =>
st1 w41 b3 (0 + 1) (.int .i64 r39.1.2.1) fun w42 =>
ldI w42 .i64 b3 0 fun n43 =>
ldI w42 .i64 b3 (0 + 1) fun n44 =>
R [.agg #[.int .i64 n43, .int .i64 n44]] w42) (
jn [kB] w18 (fun (t46 : Bool × Unit) w47 =>
cs t46.1 (
ldI w47 .i64 b1 0 fun n49 =>
ldI w47 .i64 b1 (0 + 1) fun n50 =>
ldI w47 .i64 b1 (0 + 2) fun n51 =>
ldI w47 .i64 b1 (0 + 3) fun n52 =>
ldI w47 .i64 b1 (0 + 4) fun n53 =>
cl Pg 134 [pV k, .agg #[.int .i64 n49, .int .i64 n50, .int .i64 n51, .int .i64 n52, .int .i64 n53]] [.a [(.i .i64), (.i .i64)]] w47 fun (r54 : (Int × Int × Unit) × Unit) w55 =>
st1 w55 b3 0 (.int .i64 r54.1.1) fun w56 =>
st1 w56 b3 (0 + 1) (.int .i64 r54.1.2.1) fun w57 =>
ldI w57 .i64 b3 0 fun n58 =>
ldI w57 .i64 b3 (0 + 1) fun n59 =>
R [.agg #[.int .i64 n58, .int .i64 n59]] w57) (
jn [kB] w47 (fun (t61 : Bool × Unit) w62 =>
cs t61.1 (
nn (some ⟨k, 0, none⟩) fun b64 o65 =>
ldI w62 .i64 b64 (o65 + 12) fun n66 =>
al w62 2 [.int .i64 n66] fun b67 w68 =>
cl Pg 77 [.int .i64 0, vS ⟨some ⟨b67, 0, none⟩, 1, 1⟩] [.a [(.i .i64), (.i .i64)]] w68 fun (r69 : (Int × Int × Unit) × Unit) w70 =>
st1 w70 b3 0 (.int .i64 r69.1.1) fun w71 =>
st1 w71 b3 (0 + 1) (.int .i64 r69.1.2.1) fun w72 =>
ldI w72 .i64 b3 0 fun n73 =>
ldI w72 .i64 b3 (0 + 1) fun n74 =>
R [.agg #[.int .i64 n73, .int .i64 n74]] w72) (
cs ((n26 : Int) == (12 : Int)) (
cl Pg 135 [pV k, .int .i64 (-1)] [.a [(.i .i64), (.i .i64)]] w62 fun (r75 : (Int × Int × Unit) × Unit) w76 =>
st1 w76 b3 0 (.int .i64 r75.1.1) fun w77 =>
st1 w77 b3 (0 + 1) (.int .i64 r75.1.2.1) fun w78 =>
ldI w78 .i64 b3 0 fun n79 =>
ldI w78 .i64 b3 (0 + 1) fun n80 =>
R [.agg #[.int .i64 n79, .int .i64 n80]] w78) (
cs ((n26 : Int) == (13 : Int)) (
ixA b1 (0 + 1) 4 0 1 fun b81 o82 =>
ldI w62 .i64 b81 o82 fun n83 =>
cl Pg 136 [.int .i64 n83] [kB] w62 fun (r84 : Bool × Unit) w85 =>
cs (!r84.1) (
cl Pg 77 [.int .i64 (-17), .slice none 0 0] [.a [(.i .i64), (.i .i64)]] w85 fun (r86 : (Int × Int × Unit) × Unit) w87 =>
st1 w87 b3 0 (.int .i64 r86.1.1) fun w88 =>
st1 w88 b3 (0 + 1) (.int .i64 r86.1.2.1) fun w89 =>
ldI w89 .i64 b3 0 fun n90 =>
ldI w89 .i64 b3 (0 + 1) fun n91 =>
R [.agg #[.int .i64 n90, .int .i64 n91]] w89) (
ixA b1 (0 + 1) 4 0 1 fun b92 o93 =>
ldI w85 .i64 b92 o93 fun n94 =>
cl Pg 135 [pV k, .int .i64 n94] [.a [(.i .i64), (.i .i64)]] w85 fun (r95 : (Int × Int × Unit) × Unit) w96 =>
st1 w96 b3 0 (.int .i64 r95.1.1) fun w97 =>
st1 w97 b3 (0 + 1) (.int .i64 r95.1.2.1) fun w98 =>
ldI w98 .i64 b3 0 fun n99 =>
ldI w98 .i64 b3 (0 + 1) fun n100 =>
R [.agg #[.int .i64 n99, .int .i64 n100]] w98)) (
cs ((n26 : Int) == (22 : Int)) (
ixA b1 (0 + 1) 4 0 1 fun b101 o102 =>
ldI w62 .i64 b101 o102 fun n103 =>
cl Pg 137 [.int .i64 n103] [.l (.i .u64), kI] w62 fun (r104 : Int × Int × Unit) w105 =>
cs ((r104.2.1 : Int) != (0 : Int)) (
cl Pg 77 [.int .i64 r104.2.1, .slice none 0 0] [.a [(.i .i64), (.i .i64)]] w105 fun (r106 : (Int × Int × Unit) × Unit) w107 =>
st1 w107 b3 0 (.int .i64 r106.1.1) fun w108 =>
st1 w108 b3 (0 + 1) (.int .i64 r106.1.2.1) fun w109 =>
ldI w109 .i64 b3 0 fun n110 =>
ldI w109 .i64 b3 (0 + 1) fun n111 =>
R [.agg #[.int .i64 n110, .int .i64 n111]] w109) (
ixA b1 (0 + 1) 4 0 1 fun b112 o113 =>
ldI w105 .i64 b112 o113 fun n114 =>
cl Pg 138 [pV k, .int .i64 2, .int .i64 0, .int .i64 n114] [.a [(.i .i64), (.i .i64)]] w105 fun (r115 : (Int × Int × Unit) × Unit) w116 =>
st1 w116 b3 0 (.int .i64 r115.1.1) fun w117 =>
st1 w117 b3 (0 + 1) (.int .i64 r115.1.2.1) fun w118 =>
ldI w118 .i64 b3 0 fun n119 =>
ldI w118 .i64 b3 (0 + 1) fun n120 =>
R [.agg #[.int .i64 n119, .int .i64 n120]] w118)) (
cs ((n26 : Int) == (6 : Int)) (
ixA b1 (0 + 1) 4 1 1 fun b121 o122 =>
ldI w62 .i64 b121 o122 fun n123 =>
cl Pg 139 [pV k, .int .i64 v, .int .i64 n123] [kI] w62 fun (r124 : Int × Unit) w125 =>
cl Pg 77 [.int .i64 r124.1, .slice none 0 0] [.a [(.i .i64), (.i .i64)]] w125 fun (r126 : (Int × Int × Unit) × Unit) w127 =>
st1 w127 b3 0 (.int .i64 r126.1.1) fun w128 =>
st1 w128 b3 (0 + 1) (.int .i64 r126.1.2.1) fun w129 =>
ldI w129 .i64 b3 0 fun n130 =>
ldI w129 .i64 b3 (0 + 1) fun n131 =>
R [.agg #[.int .i64 n130, .int .i64 n131]] w129) (
dr w62 fun w132 =>
ldI w132 .i64 b1 0 fun n133 =>
ldI w132 .i64 b1 (0 + 1) fun n134 =>
ldI w132 .i64 b1 (0 + 2) fun n135 =>
ldI w132 .i64 b1 (0 + 3) fun n136 =>
ldI w132 .i64 b1 (0 + 4) fun n137 =>
nn (some ⟨k, 0, none⟩) fun b138 o139 =>
ldS w132 b138 (o139 + 9) fun s140 =>
ix s140 v 1 fun b141 o142 =>
ldP w132 b141 o142 fun p143 =>
nn p143 fun b144 o145 =>
ldP w132 b144 o145 fun p146 =>
cl Pg 140 [pV k, .agg #[.int .i64 n133, .int .i64 n134, .int .i64 n135, .int .i64 n136, .int .i64 n137], .int .i64 v, .pointer p146] [.a [(.i .i64), (.i .i64)]] w132 fun (r147 : (Int × Int × Unit) × Unit) w148 =>
st1 w148 b3 0 (.int .i64 r147.1.1) fun w149 =>
st1 w149 b3 (0 + 1) (.int .i64 r147.1.2.1) fun w150 =>
ldI w150 .i64 b3 0 fun n151 =>
ldI w150 .i64 b3 (0 + 1) fun n152 =>
R [.agg #[.int .i64 n151, .int .i64 n152]] w150)))))) fun J60 w63 =>
cs ((n26 : Int) == (10 : Int)) (
J60 (true, ()) w63) (
J60 ((n26 : Int) == (11 : Int), ()) w63))) fun J45 w48 =>
cs ((n26 : Int) == (8 : Int)) (
J45 (true, ()) w48) (
J45 ((n26 : Int) == (9 : Int), ()) w48))

/-- one of the calls of one task -/
def oneR (k b1 b3 : Nat) (v : Int) (R : List Value → World → Prop) (w62 : World) : Prop :=
dr w62 fun w132 =>
ldI w132 .i64 b1 0 fun n133 =>
ldI w132 .i64 b1 (0 + 1) fun n134 =>
ldI w132 .i64 b1 (0 + 2) fun n135 =>
ldI w132 .i64 b1 (0 + 3) fun n136 =>
ldI w132 .i64 b1 (0 + 4) fun n137 =>
nn (some ⟨k, 0, none⟩) fun b138 o139 =>
ldS w132 b138 (o139 + 9) fun s140 =>
ix s140 v 1 fun b141 o142 =>
ldP w132 b141 o142 fun p143 =>
nn p143 fun b144 o145 =>
ldP w132 b144 o145 fun p146 =>
cl Pg 140 [pV k, .agg #[.int .i64 n133, .int .i64 n134, .int .i64 n135, .int .i64 n136, .int .i64 n137], .int .i64 v, .pointer p146] [.a [(.i .i64), (.i .i64)]] w132 fun (r147 : (Int × Int × Unit) × Unit) w148 =>
st1 w148 b3 0 (.int .i64 r147.1.1) fun w149 =>
st1 w149 b3 (0 + 1) (.int .i64 r147.1.2.1) fun w150 =>
ldI w150 .i64 b3 0 fun n151 =>
ldI w150 .i64 b3 (0 + 1) fun n152 =>
R [.agg #[.int .i64 n151, .int .i64 n152]] w150

theorem tasks_pre {e k A K L w x0 x1 x2 x3 R} {n : Nat} {a kd : Int} (h : Ok e (kerP k A K :: old e :: L) w) (hn : akL[n]? = some (a, kd)) (h0 : 0 < n) (h22 : n ≤ 22) (h9 : n ≠ 9) (h11 : n ≠ 11)
    (kz : nmd K n kd x0 = 0 → ∀ w', Ok e (kerP k A K :: old e :: L) w' → R [.agg #[.int .i64 (-18), .int .i64 0]] w')
    (kn : nmd K n kd x0 ≠ 0 → ∀ b d w', Ok e (pts d [.int .i64 0, .int .i64 0] :: pts b [.int .i64 (n : Int), .int .i64 x0, .int .i64 x1, .int .i64 x2, .int .i64 x3] :: kerP k A K :: old e :: L) w' → tasksR k b d (nmd K n kd x0) R w') :
    sh79 (some ⟨k, 0, none⟩) ((n : Int), x0, x1, x2, x3, ()) R w := by
  unfold sh79
  refine al.mk h fun b w1 h => al.mk h fun d w2 h => ldI.mk (h.p1.cell rfl) (ldI.mk (h.p1.cell rfl) (ldI.mk (h.p1.cell rfl) (ldI.mk (h.p1.cell rfl) (ldI.mk (h.p1.cell rfl) ?_))))
  refine call130 (a1 := ((n : Int), x0, x1, x2, x3, ())) (named_kern h.p2 hn h0 h22 fun w3 h => ⟨(nmd K n kd x0, ()), rfl, ?_⟩)
  have h : Ok e (pts d [.int .i64 0, .int .i64 0] :: pts b [.int .i64 (n : Int), .int .i64 x0, .int .i64 x1, .int .i64 x2, .int .i64 x3] :: kerP k A K :: old e :: L) w3 := (h.emb (by repeat' (first | with_reducible exact Emb.same _ | exact Emb.nil _ | refine Emb.cons (by with_reducible first | exact sl0 | exact .there sl0 | exact .there sl1 | exact .there sl2 | exact .there sl3 | exact .there sl4 | exact .there sl5 | exact .there sl6 | exact .there sl7 | exact .there sl8 | exact .there sl9 | exact .there sl10 | exact .there sl11 | exact .there sl12) ?_ | refine Emb.skip ?_)))
  dsimp only
  generalize nmd K n kd x0 = v at kz kn ⊢
  refine jn.bool (decide (v = 0)) (fun J hJ => ?_) (jn.bool (decide (v = 0)) (fun J hJ => ?_) (cs.mk (fun hw => ?_) (fun hw => kn (of_decide_eq_false hw) b d w3 h)))
  · refine cs.mk (fun hc => ldI.mk (h.p1.cell rfl) ?_) (fun hc => ?_)
    · rw [decide_eq_true (by simpa using hc)] at hJ
      rw [show ((n : Int) != (9 : Int)) = true by simp; omega]; exact hJ
    · rw [decide_eq_false (by simpa using hc)] at hJ; exact hJ
  · refine cs.mk (fun hc => ldI.mk (h.p1.cell rfl) ?_) (fun hc => ?_)
    · have hc : decide (v = 0) = true := hc
      rw [hc] at hJ
      rw [show ((n : Int) != (11 : Int)) = true by simp; omega]; exact hJ
    · have hc : decide (v = 0) = false := hc
      rw [hc] at hJ; exact hJ
  · exact fin_code h fun w4 h => kz (of_decide_eq_true hw) w4 h.drop

/-- what a call of one task answers -/
def OneC (e : World) (k : Nat) (A : KA) (K : KM) (v : Int) (r : (Int × Int) × KM) (f : Option Addr → (List Value → World → Prop) → World → Prop) : Prop :=
  ∀ L w (R : List Value → World → Prop) t, Ok e (kerP k A K :: old e :: L) w → w.cell? ⟨A.ub (v - 1).toNat, 0, none⟩ = some (pV t) → (∀ w', Ok e (kerP k A r.2 :: old e :: L) w' → R [.agg #[.int .i64 r.1.1, .int .i64 r.1.2]] w') → f (some ⟨t, 0, none⟩) R w

theorem one_pre {e k A K L w x0 x1 x2 x3 v u r R} {n : Nat} {b d : Nat} (h : Ok e (pts d [.int .i64 0, .int .i64 0] :: pts b [.int .i64 (n : Int), .int .i64 x0, .int .i64 x1, .int .i64 x2, .int .i64 x3] :: kerP k A K :: old e :: L) w) (hu : K.un v = some u)
    (ho : OneC e k A K v r fun a => sh140 (some ⟨k, 0, none⟩) ((n : Int), x0, x1, x2, x3, ()) v a)
    (kk : ∀ w', Ok e (kerP k A r.2 :: old e :: L) w' → R [.agg #[.int .i64 r.1.1, .int .i64 r.1.2]] w') : oneR k b d v R w := by
  unfold oneR
  refine dr.mk h fun w2 h => ?_
  obtain ⟨t, H, hk, h2, back, read⟩ := ker_un h.p2 hu
  refine ldI.mk (h.p1.cell rfl) (ldI.mk (h.p1.cell rfl) (ldI.mk (h.p1.cell rfl) (ldI.mk (h.p1.cell rfl) (ldI.mk (h.p1.cell rfl) (nn.mk (ldS.mk (h2.cell rfl) (read e _ w2 _ ((Ok.emb (h2) (.cons (A := H) (by with_reducible first | exact sl0 | exact .there sl0 | exact .there sl1 | exact .there sl2 | exact .there sl3 | exact .there sl4 | exact .there sl5 | exact .there sl6 | exact .there sl7 | exact .there sl8 | exact .there sl9 | exact .there sl10 | exact .there sl11 | exact .there sl12) (.same _)))) fun b2 o2 hc => ldP.mk hc (nn.mk (ldP.mk (h2.p1.cell rfl) ?_)))))))))
  refine call140 (a1 := ((n : Int), x0, x1, x2, x3, ())) (ho (pts d [.int .i64 0, .int .i64 0] :: pts b [.int .i64 (n : Int), .int .i64 x0, .int .i64 x1, .int .i64 x2, .int .i64 x3] :: L) w2 _ t (h.emb (by repeat' (first | with_reducible exact Emb.same _ | exact Emb.nil _ | refine Emb.cons (by with_reducible first | exact sl0 | exact .there sl0 | exact .there sl1 | exact .there sl2 | exact .there sl3 | exact .there sl4 | exact .there sl5 | exact .there sl6 | exact .there sl7 | exact .there sl8 | exact .there sl9 | exact .there sl10 | exact .there sl11 | exact .there sl12) ?_ | refine Emb.skip ?_))) (h2.p1.cell rfl) fun w3 h => ⟨((r.1.1, r.1.2, ()), ()), rfl, ?_⟩)
  exact fin_res ((Ok.emb (h) (.cons (A := pts d [.int .i64 0, .int .i64 0]) (by with_reducible first | exact sl0 | exact .there sl0 | exact .there sl1 | exact .there sl2 | exact .there sl3 | exact .there sl4 | exact .there sl5 | exact .there sl6 | exact .there sl7 | exact .there sl8 | exact .there sl9 | exact .there sl10 | exact .there sl11 | exact .there sl12) (.same _)))) fun w5 h => kk w5 (h.emb (by repeat' (first | with_reducible exact Emb.same _ | exact Emb.nil _ | refine Emb.cons (by with_reducible first | exact sl0 | exact .there sl0 | exact .there sl1 | exact .there sl2 | exact .there sl3 | exact .there sl4 | exact .there sl5 | exact .there sl6 | exact .there sl7 | exact .there sl8 | exact .there sl9 | exact .there sl10 | exact .there sl11 | exact .there sl12) ?_ | refine Emb.skip ?_)))

/-- a task laid open, whose block is known -/
theorem open_t {e L w k A K v u t} (h : Ok e (kerP k A K :: L) w) (hu : K.un v = some u) (hc : w.cell? ⟨A.ub (v - 1).toNat, 0, none⟩ = some (pV t)) : ∃ H, kerOk K ∧
    Ok e (pts k (kC A K) :: pts (A.ub (v - 1).toNat) (unC t u) :: pts t (tcC u) :: H :: kR A K L) w ∧
    (∀ (K1 : KM) u' e1 L1 w1, kerOk K1 → K1.us = K.us → Ok e1 (pts k (kC A K1) :: pts (A.ub (v - 1).toNat) (unC t u') :: pts t (tcC u') :: H :: kR A K1 L1) w1 → Ok e1 (kerP k A (K1.setU v u') :: L1) w1) := by
  obtain ⟨t', H, ho, h2, back, -⟩ := ker_un h hu
  have h1 := h2.p1.cell (i := 0) rfl
  rw [hc] at h1
  have : t = t' := by simpa using h1
  subst this
  exact ⟨H, ho, h2, back⟩

end Go.Proofs.YtenonfkfoedfmaaGreatDoor.B


/- Calls of tasks: one by one. -/
namespace Go.Proofs.YtenonfkfoedfmaaGreatDoor.B
open Go
set_option linter.unusedVariables false

theorem one_1 {e k A K v r x0 x1 x2 x3} (hm : (K.act v).map (fun r => ((r.1, (0 : Int)), r.2)) = some r) :
    OneC e k A K v r fun a => sh140 (some ⟨k, 0, none⟩) (((1 : Nat) : Int), x0, x1, x2, x3, ()) v a := by
  intro L w R t h hc kk
  obtain ⟨r1, h1, rfl⟩ := Option.map_eq_some_iff.1 hm
  unfold sh140
  refine al.mk h fun b5 w3 h => al.mk h fun d5 w4 h => ldI.mk (h.p1.cell rfl) ?_
  (repeat (first | ((with_reducible refine cs.yes ?_ ?_); · rfl) | ((with_reducible refine cs.no ?_ ?_); · rfl) | refine jn.mk fun J hJ => ?_ | with_reducible apply_assumption -exfalso -symm))
  refine call105 (act_kern (h.p2) h1 fun w5 h => ⟨(r1.1, ()), rfl, ?_⟩)
  exact fin_code ((Ok.emb (h) (.cons (A := pts d5 [.int .i64 0, .int .i64 0]) (by with_reducible first | exact sl0 | exact .there sl0 | exact .there sl1 | exact .there sl2 | exact .there sl3 | exact .there sl4 | exact .there sl5 | exact .there sl6 | exact .there sl7 | exact .there sl8 | exact .there sl9 | exact .there sl10 | exact .there sl11 | exact .there sl12) (.same _)))) fun w6 h => kk w6 (h.emb (by repeat' (first | with_reducible exact Emb.same _ | exact Emb.nil _ | refine Emb.cons (by with_reducible first | exact sl0 | exact .there sl0 | exact .there sl1 | exact .there sl2 | exact .there sl3 | exact .there sl4 | exact .there sl5 | exact .there sl6 | exact .there sl7 | exact .there sl8 | exact .there sl9 | exact .there sl10 | exact .there sl11 | exact .there sl12) ?_ | refine Emb.skip ?_)))

theorem tasks_1 {e k A K r x0 x1 x2 x3} (hm : KM.cAct x0 K = some r) : GrpC e k A K r (sh79 (some ⟨k, 0, none⟩) (((1 : Nat) : Int), x0, x1, x2, x3, ())) := by
  intro L w R h kk
  unfold KM.cAct KM.byTask at hm
  refine tasks_pre h (n := 1) rfl (by decide) (by decide) (by decide) (by decide) (fun hz w' h => ?_) (fun hz b d w' h => ?_)
  · rw [if_pos (show K.named x0 true = 0 from hz)] at hm
    cases hm
    exact kk w' h
  · rw [if_neg (show ¬ K.named x0 true = 0 from hz)] at hm
    have hv : nmd K 1 1 x0 = K.named x0 true := rfl
    rw [hv]
    generalize K.named x0 true = v at hm
    obtain ⟨r1, h1, h2⟩ := Option.map_eq_some_iff.1 hm
    obtain ⟨u, hu, -⟩ := Option.bind_eq_some_iff.1 h1
    unfold tasksR
    refine ldI.mk (h.p1.cell rfl) ?_
    (repeat (first | ((with_reducible refine cs.yes ?_ ?_); · rfl) | ((with_reducible refine cs.no ?_ ?_); · rfl) | refine jn.mk fun J hJ => ?_ | with_reducible apply_assumption -exfalso -symm))
    exact one_pre h hu (one_1 hm) kk

end Go.Proofs.YtenonfkfoedfmaaGreatDoor.B


/- Calls of mutexes, of the state. -/
namespace Go.Proofs.YtenonfkfoedfmaaGreatDoor.B
open Go
set_option linter.unusedVariables false

/-- an object's number as the calls take it -/
abbrev clO (x : Int) : Int := if 0 > (if 9 < x then 9 else x) then 0 else (if 9 < x then 9 else x)

theorem clO_in {x n : Int} (hn : n ≤ 8) : (1 ≤ clO x ∧ clO x ≤ n) ↔ (1 ≤ x ∧ x ≤ n) := by
  unfold clO
  split <;> split at * <;> omega

theorem clO_eq {x : Int} (h : 1 ≤ x ∧ x ≤ 8) : clO x = x := by
  unfold clO
  split <;> split at * <;> omega

/-- no time-out is told -/
theorem timeout_none {e w L R} {n : Nat} {a1 a2 x0 x1 x2 x3 : Int} (h : Ok e L w) (h1 : (n : Int) ≠ a1) (h2 : (n : Int) ≠ a2) (k : ∀ w', Ok e L w' → R [.int .i64 (-1)] w') : sh141 ((n : Int), x0, x1, x2, x3, ()) a1 a2 R w := by
  unfold sh141
  exact al.mk h fun b w1 h => ldI.mk (h.cell rfl) (cs.no (by simpa using h1) (cs.no (by simpa using h2) (k w1 h.drop)))

theorem timeout_zero {e w L R} {n : Nat} {a2 x0 x1 x2 x3 : Int} (h : Ok e L w) (k : ∀ w', Ok e L w' → R [.int .i64 0] w') : sh141 ((n : Int), x0, x1, x2, x3, ()) (n : Int) a2 R w := by
  unfold sh141
  exact al.mk h fun b w1 h => ldI.mk (h.cell rfl) (cs.yes (by simp) (k w1 h.drop))

def cIn (K : KM) : Option ((Int × Int) × KM) := some ((0, if K.pl.inn = true then 1 else 0), K)

theorem mutex_43 {e k A K r x0 x1 x2 x3} (hm : KM.cLoc x0 K = some r) : GrpC e k A K r (sh83 (some ⟨k, 0, none⟩) (((43 : Nat) : Int), x0, x1, x2, x3, ())) := by
  intro L w R h kk
  unfold KM.cLoc at hm
  unfold sh83
  refine al.mk h fun b w1 h => al.mk h fun d w2 h => ⟨by decide, by decide, ldI.mk (h.p1.cell rfl) (ldI.mk (h.p1.cell rfl) (ldI.mk (h.p1.cell rfl) (ldI.mk (h.p1.cell rfl) (ldI.mk (h.p1.cell rfl) (ldI.mk (h.p1.cell rfl) ?_)))))⟩
  refine call141 (a0 := (((43 : Nat) : Int), x0, x1, x2, x3, ())) (timeout_none h (by decide) (by decide) fun w3 h => ⟨((-1 : Int), ()), rfl, ?_⟩)
  obtain ⟨ho, h2⟩ := kerE h.p2
  obtain ⟨_, _, ⟨-, -, h8⟩, -, -⟩ := mmE ((Ok.emb (h2) (.cons (A := mmP A.lk K.mm) (by with_reducible first | exact sl0 | exact .there sl0 | exact .there sl1 | exact .there sl2 | exact .there sl3 | exact .there sl4 | exact .there sl5 | exact .there sl6 | exact .there sl7 | exact .there sl8 | exact .there sl9 | exact .there sl10 | exact .there sl11 | exact .there sl12) (.same _))))
  have hin := clO_in (x := x0) (n := (K.mm.m.length : Int) - 1) (by omega)
  refine jn.bool (decide ¬ (1 ≤ x0 ∧ x0 < K.mm.m.length)) (fun J hJ => ?_) (cs.mk (fun hc => ?_) (fun hc => ?_))
  · refine cs.mk (fun hc => ?_) (fun hc => ?_)
    · have hc : clO x0 < 1 := of_decide_eq_true hc
      rw [decide_eq_true (by omega)] at hJ
      exact hJ
    · have hc : ¬ clO x0 < 1 := of_decide_eq_false hc
      refine nn.mk (ldI.mk (h2.cell rfl) ?_)
      rw [show decide (¬ (1 ≤ x0 ∧ x0 < K.mm.m.length)) = decide ((clO x0 : Int) > (K.mm.m.length : Int) - 1) from decide_eq_decide.2 (by omega)] at hJ
      exact hJ
  · rw [if_pos (of_decide_eq_true hc)] at hm
    cases hm
    exact fin_code h fun w4 h => kk w4 h.drop
  have hc := of_decide_eq_false hc
  rw [if_neg hc] at hm
  obtain ⟨r1, hr1, hm⟩ := Option.bind_eq_some_iff.1 hm
  refine call136 (late_kern ⟨(true, ()), rfl, cs.no rfl (ldI.mk (h.p1.cell rfl) (cs.no rfl (nn.mk (ldP.mk (h2.cell rfl) ?_))))⟩)
  refine jn.mk fun J hJ => cs.no rfl (hJ _ _ (nn.mk (ldI.mk (h2.cell rfl) ⟨by kernel_rfl, ?_⟩)))
  have hx : clO x0 = x0 := clO_eq (by omega)
  show cl Pg 32 [pV A.lk, .int .i64 (clO x0), .int .i64 K.who] [kB, kI] w3 _
  rw [hx]
  have h2 : Ok e (mmP A.lk K.mm :: pts k (kC A K) :: unitsP A.ub A.us K.us :: semsP A.ss K.sems :: flgP A.fs :: datasP A.ds K.datas :: poolsP A.ps K.pools :: placeP A.pl K.pl :: hnP A.hn K.tic K.up K.tb K.last K.ents :: rdyP A.rq K.rdy :: pts d [.int .i64 0, .int .i64 0] :: pts b [.int .i64 ((43 : Nat) : Int), .int .i64 x0, .int .i64 x1, .int .i64 x2, .int .i64 x3] :: old e :: L) w3 := (Ok.emb (h2) (by repeat' (first | with_reducible exact Emb.same _ | exact Emb.nil _ | refine Emb.cons (by with_reducible first | exact sl0 | exact .there sl0 | exact .there sl1 | exact .there sl2 | exact .there sl3 | exact .there sl4 | exact .there sl5 | exact .there sl6 | exact .there sl7 | exact .there sl8 | exact .there sl9 | exact .there sl10 | exact .there sl11 | exact .there sl12) ?_ | refine Emb.skip ?_)))
  refine call32 (Lock_mtx h2 hr1 fun w4 h => ⟨(r1.1.1, r1.1.2, ()), rfl, ?_⟩)
  have hml := lock_len hr1
  have h : Ok e (pts k (kC A { K with mm := r1.2 }) :: unitsP A.ub A.us K.us :: semsP A.ss K.sems :: flgP A.fs :: datasP A.ds K.datas :: poolsP A.ps K.pools :: mmP A.lk r1.2 :: placeP A.pl K.pl :: hnP A.hn K.tic K.up K.tb K.last K.ents :: rdyP A.rq K.rdy :: pts d [.int .i64 0, .int .i64 0] :: pts b [.int .i64 ((43 : Nat) : Int), .int .i64 x0, .int .i64 x1, .int .i64 x2, .int .i64 x3] :: old e :: L) w4 := by
    have h : Ok e (pts k (kC A K) :: unitsP A.ub A.us K.us :: semsP A.ss K.sems :: flgP A.fs :: datasP A.ds K.datas :: poolsP A.ps K.pools :: mmP A.lk r1.2 :: placeP A.pl K.pl :: hnP A.hn K.tic K.up K.tb K.last K.ents :: rdyP A.rq K.rdy :: pts d [.int .i64 0, .int .i64 0] :: pts b [.int .i64 ((43 : Nat) : Int), .int .i64 x0, .int .i64 x1, .int .i64 x2, .int .i64 x3] :: old e :: L) w4 := (h.emb (by repeat' (first | with_reducible exact Emb.same _ | exact Emb.nil _ | refine Emb.cons (by with_reducible first | exact sl0 | exact .there sl0 | exact .there sl1 | exact .there sl2 | exact .there sl3 | exact .there sl4 | exact .there sl5 | exact .there sl6 | exact .there sl7 | exact .there sl8 | exact .there sl9 | exact .there sl10 | exact .there sl11 | exact .there sl12) ?_ | refine Emb.skip ?_)))
    unfold kC at h ⊢
    rw [← hml] at h
    exact h
  have h := kerI (K := { K with mm := r1.2 }) (A := A) ⟨ho.t0, ho.t1, ho.us, ho.sems, ho.datas, ho.pools⟩ h
  refine jn.bool (decide (r1.1.1 = true ∨ r1.1.2 ≠ 0)) (fun J hJ => ?_) (cs.mk (fun hc => ?_) (fun hc => ?_))
  · refine cs.mk (fun hc => ?_) (fun hc => ?_)
    · rw [decide_eq_true (.inl hc)] at hJ; exact hJ
    · rw [show decide (r1.1.1 = true ∨ r1.1.2 ≠ 0) = (r1.1.2 != 0) by rw [show r1.1.1 = false from hc, Bool.eq_iff_iff]; simp] at hJ; exact hJ
  · rw [if_pos (of_decide_eq_true hc)] at hm
    obtain ⟨K', hK, rfl⟩ := Option.map_eq_some_iff.1 hm
    refine call56 (settle_kern h hK fun w5 h => ⟨(), rfl, ?_⟩)
    exact fin_code ((Ok.emb (h) (.cons (A := pts d [.int .i64 0, .int .i64 0]) (by with_reducible first | exact sl0 | exact .there sl0 | exact .there sl1 | exact .there sl2 | exact .there sl3 | exact .there sl4 | exact .there sl5 | exact .there sl6 | exact .there sl7 | exact .there sl8 | exact .there sl9 | exact .there sl10 | exact .there sl11 | exact .there sl12) (.same _)))) fun w6 h => kk w6 (h.emb (by repeat' (first | with_reducible exact Emb.same _ | exact Emb.nil _ | refine Emb.cons (by with_reducible first | exact sl0 | exact .there sl0 | exact .there sl1 | exact .there sl2 | exact .there sl3 | exact .there sl4 | exact .there sl5 | exact .there sl6 | exact .there sl7 | exact .there sl8 | exact .there sl9 | exact .there sl10 | exact .there sl11 | exact .there sl12) ?_ | refine Emb.skip ?_)))
  · rw [if_neg (of_decide_eq_false hc)] at hm
    obtain ⟨K', hK, rfl⟩ := Option.map_eq_some_iff.1 hm
    refine cs.no rfl ?_
    show cl Pg 138 [pV k, .int .i64 7, .int .i64 (clO x0), .int .i64 (-1)] [.a [(.i .i64), (.i .i64)]] w4 _
    rw [hx]
    exact call138 (stay_kern h hK fun w5 h => ⟨(((1 : Int), (0 : Int), ()), ()), rfl, fin_res ((Ok.emb (h) (.cons (A := pts d [.int .i64 0, .int .i64 0]) (by with_reducible first | exact sl0 | exact .there sl0 | exact .there sl1 | exact .there sl2 | exact .there sl3 | exact .there sl4 | exact .there sl5 | exact .there sl6 | exact .there sl7 | exact .there sl8 | exact .there sl9 | exact .there sl10 | exact .there sl11 | exact .there sl12) (.same _)))) fun w6 h => kk w6 (h.emb (by repeat' (first | with_reducible exact Emb.same _ | exact Emb.nil _ | refine Emb.cons (by with_reducible first | exact sl0 | exact .there sl0 | exact .there sl1 | exact .there sl2 | exact .there sl3 | exact .there sl4 | exact .there sl5 | exact .there sl6 | exact .there sl7 | exact .there sl8 | exact .there sl9 | exact .there sl10 | exact .there sl11 | exact .there sl12) ?_ | refine Emb.skip ?_)))⟩)

end Go.Proofs.YtenonfkfoedfmaaGreatDoor.B


/- More calls; the calls by their numbers. -/
namespace Go.Proofs.YtenonfkfoedfmaaGreatDoor.B
open Go
set_option linter.unusedVariables false

theorem do_1 {e} (tb : TabE e) : DoC e 1 1 fun x0 _ => KM.cAct x0 := by
  intro k A K r L w x0 x1 x2 x3 R h hm kk
  exact Do_kern (n := 1) tb rfl (by decide) h hm (fun r hr => .inl ⟨by decide, tasks_1 hr⟩) kk

theorem do_43 {e} (tb : TabE e) : DoC e 43 2 fun x0 _ => KM.cLoc x0 := by
  intro k A K r L w x0 x1 x2 x3 R h hm kk
  exact Do_kern (n := 43) tb rfl (by decide) h hm (fun r hr => .inr (.inr (.inr (.inr (.inl ⟨by decide, by decide, mutex_43 hr⟩))))) kk

theorem Mtx_kern {e w L k A K R} {o : Int} (h : Ok e (kerP k A K :: L) w) (ho : 1 ≤ o ∧ o < K.mm.m.length) (hb : (K.mm.waiting o).length ≤ 2 ^ 20) (kk : ∀ s w', s.len = (K.mm.waiting o).length → Ok e (slc 1 s (ints (K.mm.waiting o)) :: kerP k A K :: L) w' → R [.int .i64 (K.mm.owner o), vS s, .int .i64 0] w') : sh29 (some ⟨k, 0, none⟩) o R w := by
  obtain ⟨hk, h⟩ := kerE h
  unfold sh29
  refine jn.bool false (fun J hJ => cs.no (decide_eq_false (by omega)) (nn.mk (ldI.mk (h.cell rfl) ?_))) (cs.no rfl (dr.mk h fun w1 h => nn.mk (ldP.mk (h.cell rfl) (nn.mk (ldP.mk (h.cell rfl) ?_)))))
  · rw [show decide ((o : Int) > (K.mm.m.length : Int) - 1) = false from decide_eq_false (by omega)]
    exact hJ
  refine call34 (Owner_mtx ((Ok.emb (h) (.cons (A := mmP A.lk K.mm) (by with_reducible first | exact sl0 | exact .there sl0 | exact .there sl1 | exact .there sl2 | exact .there sl3 | exact .there sl4 | exact .there sl5 | exact .there sl6 | exact .there sl7 | exact .there sl8 | exact .there sl9 | exact .there sl10 | exact .there sl11 | exact .there sl12) (.same _)))) ⟨(K.mm.owner o, ()), rfl, h.cell rfl, ?_⟩)
  refine call33 (Waiting_mtx ((Ok.emb (h) (.cons (A := mmP A.lk K.mm) (by with_reducible first | exact sl0 | exact .there sl0 | exact .there sl1 | exact .there sl2 | exact .there sl3 | exact .there sl4 | exact .there sl5 | exact .there sl6 | exact .there sl7 | exact .there sl8 | exact .there sl9 | exact .there sl10 | exact .there sl11 | exact .there sl12) (.same _)))) hb fun s w2 hs h => ⟨(s, ()), rfl, kk s w2 hs ?_⟩)
  exact (kerI (A := A) hk (h.emb (by repeat' (first | with_reducible exact Emb.same _ | exact Emb.nil _ | refine Emb.cons (by with_reducible first | exact sl0 | exact .there sl0 | exact .there sl1 | exact .there sl2 | exact .there sl3 | exact .there sl4 | exact .there sl5 | exact .there sl6 | exact .there sl7 | exact .there sl8 | exact .there sl9 | exact .there sl10 | exact .there sl11 | exact .there sl12) ?_ | refine Emb.skip ?_)))).p1

end Go.Proofs.YtenonfkfoedfmaaGreatDoor.B


/- TopDelays, as plain Lean. -/
namespace Go.Proofs.YtenonfkfoedfmaaGreatDoor.B
open Go
set_option linter.unusedVariables false

theorem tick_of {K : KM} (h : 0 ≤ K.up ∧ K.up ≤ 2 ^ 40) : K.tick = (KM.tickL ((dueE (K.up + K.tic) K.ents).map Ent.arg) { K with up := K.up + K.tic, ents := restE (K.up + K.tic) K.ents }).map KM.choose := if_pos h

namespace Del

def M1 : MM := (((MM.new []).setBase 1 1).getD (0, MM.new [])).2

def pl0 : PlaceM := ⟨[], false, false⟩

def u1 : Un := ⟨0, 0, 0, 2, false, 1, 1, 0, 0, 0, 0, 0⟩

def cf (t : Int) : ConfM := ⟨t, [(1, true)], [], [], [], []⟩

def K0 (t : Int) : KM := ⟨pl0, t, 0, 0, 0, [], [(1, 1)], M1, [u1], [], [], [], 1⟩

def KW (t d up : Int) : KM := ⟨pl0, t, up, 0, 1, [⟨d + t, 1, 1⟩], [], M1, [{ u1 with state := 4, kind := 2, handle := 1 }], [], [], [], 0⟩

def KR (t up : Int) : KM := ⟨pl0, t, up, 0, 1, [], [(1, 1)], M1, [u1], [], [], [], 1⟩

theorem new_eq (t : Int) : KM.new (cf t) = some (K0 t) := by kernel_rfl

theorem ok_cf {t : Int} (ht : 1 ≤ t ∧ t ≤ 100) : (cf t).ok = true := by
  unfold ConfM.ok
  rw [decide_eq_true ⟨ht.1, by show t ≤ 1000; omega, by simp [cf], by simp [cf], by simp [cf], by simp [cf], by simp [cf], by simp [cf]⟩]
  rfl

end Del

end Go.Proofs.YtenonfkfoedfmaaGreatDoor.B


/- What every law's proof wants: arguments that came in, and the step from a shallow program to the call. -/
namespace Go.Proofs.YtenonfkfoedfmaaGreatDoor.B
open Go
theorem enc_i {a b : Int} (h : a = b) : encK [kI] (a, ()) = [.int .i64 b] := by rw [h]; rfl
theorem enc_b {a b : Bool} (h : a = b) : encK [kB] (a, ()) = [.bool b] := by rw [h]; rfl
/-- a slice of whole numbers that came in -/
structure ArgI (k : IntKind) (e : World) (s : Sl) (xs : List Int) : Prop where
  len : xs.length = s.len
  cell : ∀ i x, xs[i]? = some x → ∃ b o, s.a = some ⟨b, o, none⟩ ∧ b < e.heap.size ∧ e.cell? ⟨b, o + i, none⟩ = some (.int k x)
  wf : ∀ x ∈ xs, (Lit.int k x).wf = true
  cap : s.len ≤ s.cap
/-- a slice of elements of 'sz' cells that came in -/
structure ArgS (sz : Nat) (e : World) (s : Sl) (vs : List Value) : Prop where
  len : vs.length = s.len * sz
  cell : ∀ i x, vs[i]? = some x → ∃ b o, s.a = some ⟨b, o, none⟩ ∧ b < e.heap.size ∧ e.cell? ⟨b, o + i, none⟩ = some x
  cap : s.len ≤ s.cap
/-- a slice of whole numbers that may be read as long as a part of the memory stays -/
def Rd (e : World) (A : SP) (k : IntKind) (s : Sl) (xs : List Int) : Prop :=
  xs.length = s.len ∧ ∀ (i : Nat) (x : Int), xs[i]? = some x → ∃ b o, s.a = some ⟨b, o, none⟩ ∧ ∀ L w, Ok e (A :: L) w → w.cell? ⟨b, o + i, none⟩ = some (.int k x)
theorem rd_arg {k : IntKind} {e : World} {s : Sl} {xs : List Int} (h : ArgI k e s xs) : Rd e (old e) k s xs := by
  refine ⟨h.len, fun i x hx => ?_⟩
  obtain ⟨b, o, ha, hb, hc⟩ := h.cell i x hx
  exact ⟨b, o, ha, fun L w hw => by rw [hw.old_cell (a := ⟨b, o + i, none⟩) hb]; exact hc⟩
theorem rd_slc {k : IntKind} {e : World} {L : List SP} {w : World} {s : Sl} {xs : List Int} (h : Ok e (slc 1 s (xs.map (Value.int k)) :: L) w) : Rd e (slc 1 s (xs.map (Value.int k))) k s xs := by
  obtain ⟨hl, hv, hc, hcase⟩ := h.slcE
  rw [List.length_map, Nat.mul_one] at hl
  refine ⟨hl, fun i x hx => ?_⟩
  have hlt := (List.getElem?_eq_some_iff.1 hx).1
  rcases hcase with ⟨ha, hcap, _⟩ | ⟨b, post, ha, _, _⟩
  · omega
  · refine ⟨b, 0, ha, fun L w hw => ?_⟩
    have := hw.slc_cells ha i (.int k x) (by rw [List.getElem?_map, hx]; rfl)
    rw [Addr.add_lit] at this
    exact this
theorem ix_rd {e : World} {A : SP} {k : IntKind} {s : Sl} {xs : List Int} {i : Int} {f : Nat → Nat → Prop} (h : Rd e A k s xs) (h0 : 0 ≤ i) (h1 : i < s.len)
    (kk : ∀ b o x, xs[i.toNat]? = some x → (∀ L w, Ok e (A :: L) w → w.cell? ⟨b, o, none⟩ = some (.int k x)) → f b o) : ix s i 1 f := by
  have hlt : i.toNat < xs.length := by rw [h.1]; omega
  obtain ⟨b, o, ha, hc⟩ := h.2 i.toNat _ (List.getElem?_eq_getElem hlt)
  refine ⟨b, o, ha, h0, h1, ?_⟩
  rw [Nat.mul_one]
  exact kk b _ _ (List.getElem?_eq_getElem hlt) hc
/-- a part of such a slice -/
theorem sb_rd {e : World} {A : SP} {k : IntKind} {s : Sl} {xs : List Int} {lo hi mx : Int} {f : Sl → Prop} (h : Rd e A k s xs) (h0 : 0 ≤ lo) (h1 : lo ≤ hi) (h2 : hi ≤ s.len) (h3 : hi ≤ mx) (h4 : mx ≤ s.cap)
    (kk : ∀ x : Sl, x.len = hi.toNat - lo.toNat → x.len ≤ x.cap → Rd e A k x ((xs.take hi.toNat).drop lo.toNat) → f x) : sb s lo hi mx 1 f := by
  refine ⟨h0, h1, h3, h4, kk _ (by simp [Sl.sub]) (by simp [Sl.sub]; omega) ⟨by rw [List.length_drop, List.length_take, h.1]; simp [Sl.sub]; omega, fun i x hx => ?_⟩⟩
  rw [List.getElem?_drop] at hx
  have hlt := (List.getElem?_eq_some_iff.1 hx).1
  rw [List.length_take] at hlt
  rw [List.getElem?_take_of_lt (by omega)] at hx
  obtain ⟨b, o, ha, hc⟩ := h.2 _ x hx
  refine ⟨b, o + lo.toNat, ?_, fun L w hw => by rw [Nat.add_assoc]; exact hc L w hw⟩
  simp only [Sl.sub, ha, Option.map_some, Nat.mul_one]
  rw [if_neg (by omega), Addr.add_lit]
theorem wf_u8 {x : Int} (h : (Lit.int .u8 x).wf = true) : 0 ≤ x ∧ x ≤ 255 := by simpa [Lit.wf, IntKind.min, IntKind.max, IntKind.signed, IntKind.bits] using h
theorem wf_i64 {x : Int} (h : (Lit.int .i64 x).wf = true) : -9223372036854775808 ≤ x ∧ x ≤ 9223372036854775807 := by simpa [Lit.wf, IntKind.min, IntKind.max, IntKind.signed, IntKind.bits] using h
theorem wf_u32 {x : Int} (h : (Lit.int .u32 x).wf = true) : 0 ≤ x ∧ x ≤ 4294967295 := by simpa [Lit.wf, IntKind.min, IntKind.max, IntKind.signed, IntKind.bits] using h
theorem ArgI.u8 {e s xs} (h : ArgI .u8 e s xs) {x : Int} (hx : x ∈ xs) : 0 ≤ x ∧ x ≤ 255 := by
  have := h.wf x hx
  simpa [Lit.wf, IntKind.min, IntKind.max, IntKind.signed, IntKind.bits] using this
theorem ArgI.i64 {e s xs} (h : ArgI .i64 e s xs) {x : Int} (hx : x ∈ xs) : -9223372036854775808 ≤ x ∧ x ≤ 9223372036854775807 := by
  have := h.wf x hx
  simpa [Lit.wf, IntKind.min, IntKind.max, IntKind.signed, IntKind.bits] using this
section
variable {e : World} {L : List SP} {w : World} {s : Sl}
theorem ix_arg {k : IntKind} {xs : List Int} {i : Int} {f : Nat → Nat → Prop} (h : ArgI k e s xs) (h0 : 0 ≤ i) (h1 : i < s.len)
    (kk : ∀ b o x, xs[i.toNat]? = some x → (∀ w', (∃ L', Ok e (old e :: L') w') → w'.cell? ⟨b, o, none⟩ = some (.int k x)) → f b o) : ix s i 1 f := by
  have hlt : i.toNat < xs.length := by rw [h.len]; omega
  obtain ⟨b, o, ha, hb, hc⟩ := h.cell i.toNat _ (List.getElem?_eq_getElem hlt)
  refine ⟨b, o, ha, h0, h1, kk b _ _ (List.getElem?_eq_getElem hlt) ?_⟩
  rintro w' ⟨L', h'⟩
  rw [h'.old_cell (a := ⟨b, o + i.toNat * 1, none⟩) hb, Nat.mul_one]; exact hc
theorem ix_args {sz : Nat} {vs : List Value} {i : Int} {f : Nat → Nat → Prop} (h : ArgS sz e s vs) (hsz : 0 < sz) (h0 : 0 ≤ i) (h1 : i < s.len)
    (kk : ∀ b o, (∀ j v, j < sz → vs[i.toNat * sz + j]? = some v → ∀ w', (∃ L', Ok e (old e :: L') w') → w'.cell? ⟨b, o + j, none⟩ = some v) → f b o) : ix s i sz f := by
  have hlt : i.toNat * sz < vs.length := by
    rw [h.len]
    exact Nat.mul_lt_mul_of_pos_right (by omega) hsz
  obtain ⟨b, o, ha, hb, hc⟩ := h.cell (i.toNat * sz) _ (List.getElem?_eq_getElem hlt)
  refine ⟨b, o, ha, h0, h1, kk b _ fun j v hj hv w' ⟨L', h'⟩ => ?_⟩
  obtain ⟨b', o', ha', hb', hc'⟩ := h.cell _ _ hv
  rw [ha] at ha'; cases ha'
  rw [h'.old_cell (a := ⟨b, o + i.toNat * sz + j, none⟩) hb, Nat.add_assoc]; exact hc'
theorem law_calls {P : Program} {f : FuncId} {fn : Func} {pl : Plan} {args : List Value} {w : World} {S : Prop} (hf : P.funcs[f]? = some fn)
    (tie : compF P fn pl args (fun vs w' => vs = [.bool true] ∧ Ok w [old w] w') w = S) (h : S) :
    Calls P f args.toArray w fun e w' => e = .returned (.bool true) ∧ Go.RowKit.Below w.heap.size w w' := by
  rw [← tie] at h
  refine Calls.mono (calls_of hf h) ?_
  rintro e w' ⟨vs, rfl, rfl, hok⟩
  exact ⟨rfl, hok.below⟩
end
end Go.Proofs.YtenonfkfoedfmaaGreatDoor.B


/- TopDelays: the walk. -/
namespace Go.Proofs.YtenonfkfoedfmaaGreatDoor.B
open Go
set_option linter.unusedVariables false

theorem w64_mod {a m : Int} (ha : 0 ≤ a) (hm : 0 < m ∧ m ≤ 1000000) : w64 (1 + w64 (Int.tmod a m)) = 1 + a % m ∧ 0 ≤ a % m ∧ a % m < m := by
  have h1 : Int.tmod a m = a % m := Int.tmod_eq_emod_of_nonneg ha
  have h2 := Int.emod_nonneg a (show m ≠ 0 by omega)
  have h3 := Int.emod_lt_of_pos a hm.1
  rw [h1, w64_in (x := a % m) (by omega) (by omega), w64_in (by omega) (by omega)]
  exact ⟨rfl, h2, h3⟩

end Go.Proofs.YtenonfkfoedfmaaGreatDoor.B


/- What came in: slices of scalars, and of structs of scalars, opened to their cells. -/
namespace Go.Proofs.YtenonfkfoedfmaaGreatDoor.B
open Go
open Go.Deep (open_slice choose_lt)
set_option linter.unusedVariables false
inductive Fk where
  | i (k : IntKind)
  | b
  | s (F : Fk)
def Fk.at (w : World) : Fk → Value → Prop
  | .i k, v => ∃ n, v = .int k n ∧ (Lit.int k n).wf = true
  | .b, v => ∃ x, v = .bool x
  | .s F, v => ∃ s vs, v = vS s ∧ ArgS 1 w s vs ∧ ∀ u ∈ vs, F.at w u
abbrev ArgF (Fs : List Fk) (e : World) (s : Sl) (vs : List Value) : Prop := ArgS Fs.length e s vs ∧ ∀ i, i < s.len → ∀ (j : Nat) F, Fs[j]? = some F → ∃ u, vs[i * Fs.length + j]? = some u ∧ F.at e u
def Fk.ty (P : Program) : TypeId → Fk → Bool
  | t, .i k => match P.underlying t with | some (.int k') => k == k' | _ => false
  | t, .b => match P.underlying t with | some .bool => true | _ => false
  | t, .s F => match P.underlying t with | some (.slice el) => P.cellsOf el == 1 && F.ty P el | _ => false
def fldsTok (P : Program) : Nat → List Field → List Fk → Bool
  | _, [], [] => true
  | j, f :: fs, F :: Fs => f.offset == j && P.cellsOf f.type == 1 && Fk.ty P f.type F && fldsTok P (j + 1) fs Fs
  | _, _, _ => false
def rowTok (P : Program) (el : TypeId) (Fs : List Fk) : Bool :=
  P.cellsOf el == Fs.length && match P.underlying el with
    | some (.struct fs) => fldsTok P 0 fs.toList Fs
    | _ => match Fs with | [F] => Fk.ty P el F | _ => false
section
variable {H : Type} {enc : TypeId × Value → H} {P : Program} {w : World} {base : Nat} {spare : Nat → Bool} {held : Bool}
theorem cell_block_lt {a : Addr} {v : Value} (h : w.cell? a = some v) : a.block < w.heap.size := by
  unfold World.cell? at h
  split at h
  · next hb => exact (Array.getElem?_eq_some_iff.1 hb).1
  · cases h
theorem Fk.open {F : Fk} : ∀ {t : TypeId} {fuel : Nat} {cs : List Value} {x : DataW H × List MemPlace}, Fk.ty P t F = true → DataW.trod enc P w base spare held fuel t cs = some x → ∃ v, cs = [v] ∧ F.at w v := by
  induction F with
  | i k =>
    intro t fuel cs x ht h
    simp only [Fk.ty] at ht
    split at ht
    · next k' hk =>
      have : k = k' := by simpa using ht
      subst this
      obtain ⟨n, rfl, _, hw⟩ := DataW.trod_int hk h
      exact ⟨_, rfl, n, rfl, hw⟩
    · cases ht
  | b =>
    intro t fuel cs x ht h
    simp only [Fk.ty] at ht
    split at ht
    · next hk =>
      obtain ⟨n, rfl, _⟩ := DataW.trod_bool hk h
      exact ⟨_, rfl, n, rfl⟩
    · cases ht
  | s F ih =>
    intro t fuel cs x ht h
    simp only [Fk.ty] at ht
    split at ht
    · next el hk =>
      simp only [Bool.and_eq_true, beq_iff_eq] at ht
      rcases Go.Deep.open_slice1 hk ht.1 h with ⟨rfl, _⟩ | ⟨a, len, cap, m, n, V, D, Pl, rfl, _, hl, _, hm, _, hx⟩
      · exact ⟨_, rfl, ⟨none, 0, 0⟩, [], rfl, ⟨by simp, fun i x h => by simp at h, Nat.le_refl _⟩, by simp⟩
      · have hle : len ≤ m := by rw [hm]; split <;> omega
        refine ⟨_, rfl, ⟨some a, len, cap⟩, (List.range len).map V, rfl, ⟨by simp, fun i x hi => ?_, hl⟩, fun u hu => ?_⟩
        · have hil : i < len := by
            have := (List.getElem?_eq_some_iff.1 hi).1
            simpa using this
          rw [List.getElem?_map, List.getElem?_range hil] at hi
          simp only [Option.map_some, Option.some.injEq] at hi
          subst hi
          have h1 := (hx i (by omega)).1
          have h0 := (hx 0 (by omega)).1
          have hsp := World.cell?_spot h0
          obtain ⟨b, o, sp⟩ := a
          have : sp = none := by simpa [Addr.add] using hsp
          subst this
          rw [Addr.add_lit] at h1
          exact ⟨b, o, rfl, cell_block_lt h1, h1⟩
        · obtain ⟨i, hi, rfl⟩ := List.mem_map.1 hu
          have hil : i < len := by simpa using hi
          obtain ⟨v, hv, hat⟩ := ih ht.2 (hx i (by omega)).2
          cases hv
          exact hat
    · cases ht
theorem fldsTok_at : ∀ {fs : List Field} {Fs : List Fk} {j0 : Nat}, fldsTok P j0 fs Fs = true → ∀ {j : Nat} {F : Fk}, Fs[j]? = some F → ∃ f, fs[j]? = some f ∧ f.offset = j0 + j ∧ P.cellsOf f.type = 1 ∧ Fk.ty P f.type F = true
  | [], [], _, _, j, F, hj => by simp at hj
  | [], _ :: _, _, h, _, _, _ => by simp [fldsTok] at h
  | _ :: _, [], _, h, _, _, _ => by simp [fldsTok] at h
  | f :: fs, F' :: Fs, j0, h, j, F, hj => by
    simp only [fldsTok, Bool.and_eq_true, beq_iff_eq] at h
    cases j with
    | zero =>
      cases hj
      exact ⟨f, rfl, h.1.1.1, h.1.1.2, h.1.2⟩
    | succ j =>
      obtain ⟨g, h1, h2, h3⟩ := fldsTok_at h.2 (j := j) (F := F) (by simpa using hj)
      exact ⟨g, by simpa using h1, by omega, h3⟩
theorem open_row {t el : TypeId} {Fs : List Fk} {r : Reach} {b0 : Nat} {v : Value} {d : DataW H} {ps : List MemPlace} (ht : P.underlying t = some (.slice el)) (hF : rowTok P el Fs = true) (hn : 0 < Fs.length)
    (hval : Value.okWide P w r b0 t v) (hd : DataW.Trod enc P w base spare held t v d ps) :
    ∃ s vs, v = vS s ∧ ArgS Fs.length w s vs ∧ ∀ i, i < s.len → ∀ (j : Nat) F, Fs[j]? = some F → ∃ u, vs[i * Fs.length + j]? = some u ∧ F.at w u := by
  obtain ⟨a, len, cap, rfl⟩ := Go.WideShapes.okWide_slice ht hval
  obtain ⟨fuel, hf⟩ := hd
  rcases open_slice ht hf with ⟨hcs, _⟩ | ⟨a', len', cap', m, n, D, Pl, hcs, _, hl, hm, hmm, _, hx⟩
  · simp [Value.cells] at hcs
    obtain ⟨rfl, rfl, rfl⟩ := hcs
    exact ⟨⟨none, 0, 0⟩, [], rfl, ⟨by simp, fun i x h => by simp at h, Nat.le_refl _⟩, fun i hi => absurd hi (Nat.not_lt_zero _)⟩
  · simp [Value.cells] at hcs
    obtain ⟨rfl, rfl, rfl⟩ := hcs
    simp only [rowTok, Bool.and_eq_true, beq_iff_eq] at hF
    have each : ∀ i, i < len → ∀ (j : Nat) F, Fs[j]? = some F → ∃ u, w.cell? (a'.add (i * Fs.length + j)) = some u ∧ F.at w u := by
      intro i hi j F hj
      have him : i < m := by rw [hmm]; split <;> omega
      obtain ⟨cs', h1, h2⟩ := hx i him
      have hjl : j < Fs.length := (List.getElem?_eq_some_iff.1 hj).1
      rw [hF.1] at h1
      obtain ⟨_, hlen, hc⟩ := World.cells?_some h1
      have hc := hc j hjl
      rw [show (a'.add (i * Fs.length)).add j = a'.add (i * Fs.length + j) from Go.Deep.add_add ..] at hc
      have h3 := hF.2
      split at h3
      · next fs hfs =>
        obtain ⟨f, hf1, hf2, hf3, hf4⟩ := fldsTok_at h3 hj
        obtain ⟨xs, n', _, _, _, hxl, hfx⟩ := DataW.trod_struct hfs h2
        have hg := hfx j f (by simpa using hf1)
        rw [hf2, hf3, Nat.zero_add] at hg
        have hjx : j < xs.length := by
          rw [hxl]
          have := (List.getElem?_eq_some_iff.1 hf1).1
          simpa using this
        rw [List.getElem?_eq_getElem hjx] at hg
        obtain ⟨u, hu, hat⟩ := Fk.open hf4 hg
        refine ⟨u, ?_, hat⟩
        rw [hc]
        have : ((cs'.drop j).take 1)[0]? = some u := by rw [hu]; rfl
        rw [List.getElem?_take_of_lt (by decide), List.getElem?_drop] at this; simpa using this
      · split at h3
        · next F' =>
          have hj0 : j = 0 := by simp at hjl; omega
          subst hj0
          cases hj
          obtain ⟨u, rfl, hat⟩ := Fk.open h3 h2
          exact ⟨u, by rw [hc]; rfl, hat⟩
        · cases h3
    have eachq : ∀ q, q < len * Fs.length → ∃ u, w.cell? (a'.add q) = some u := by
      intro q hq
      have hq2 : q % Fs.length < Fs.length := Nat.mod_lt _ hn
      have hq1 : q / Fs.length < len := Nat.div_lt_of_lt_mul (by rw [Nat.mul_comm]; exact hq)
      obtain ⟨u, hu, _⟩ := each _ hq1 _ _ (List.getElem?_eq_getElem hq2)
      rw [Nat.div_add_mod'] at hu
      exact ⟨u, hu⟩
    refine ⟨⟨some a', len, cap⟩, (List.range (len * Fs.length)).map fun q => (w.cell? (a'.add q)).getD (.bool false), rfl, ⟨by simp, fun q x hq => ?_, hl⟩, fun i hi j F hj => ?_⟩
    · have hql : q < len * Fs.length := by
        have := (List.getElem?_eq_some_iff.1 hq).1
        simpa using this
      obtain ⟨u, hu⟩ := eachq q hql
      have hxu : x = u := by
        rw [List.getElem?_map, List.getElem?_range hql] at hq
        simp only [Option.map_some, hu, Option.getD_some, Option.some.injEq] at hq
        exact hq.symm
      subst hxu
      obtain ⟨u0, hu0⟩ := eachq 0 (by omega)
      have hsp := World.cell?_spot hu0
      obtain ⟨b, o, sp⟩ := a'
      have : sp = none := by simpa [Addr.add] using hsp
      subst this
      have ha : (⟨b, o, none⟩ : Addr).add q = ⟨b, o + q, none⟩ := by
        simp only [Addr.add]
        split
        · next h0 => rw [h0]; rfl
        · rfl
      rw [ha] at hu
      exact ⟨b, o, rfl, cell_block_lt hu, hu⟩
    · obtain ⟨u, hu, hat⟩ := each i hi j F hj
      have hjl : j < Fs.length := (List.getElem?_eq_some_iff.1 hj).1
      have hlt : i * Fs.length + j < len * Fs.length := by
        calc i * Fs.length + j < i * Fs.length + Fs.length := by omega
          _ = (i + 1) * Fs.length := by rw [Nat.succ_mul]
          _ ≤ len * Fs.length := Nat.mul_le_mul_right _ hi
      refine ⟨u, ?_, hat⟩
      rw [List.getElem?_map, List.getElem?_range hlt]
      simp [hu]
theorem open_argI {t el : TypeId} {k : IntKind} {r : Reach} {b0 : Nat} {v : Value} {d : DataW H} {ps : List MemPlace} (ht : P.underlying t = some (.slice el)) (hF : rowTok P el [.i k] = true)
    (hval : Value.okWide P w r b0 t v) (hd : DataW.Trod enc P w base spare held t v d ps) : ∃ s xs, v = vS s ∧ ArgI k w s xs := by
  obtain ⟨s, vs, rfl, ha, hv⟩ := open_row ht hF (by simp) hval hd
  have hlen : vs.length = s.len := by rw [ha.len]; simp
  have hv' : ∀ i, i < s.len → ∃ n, vs[i]? = some (.int k n) ∧ (Lit.int k n).wf = true := by
    intro i hi
    obtain ⟨u, hu, n, rfl, hw⟩ := hv i hi 0 _ rfl
    exact ⟨n, by simpa using hu, hw⟩
  obtain ⟨f, hf⟩ := choose_lt (p := fun i (n : Int) => vs[i]? = some (.int k n) ∧ (Lit.int k n).wf = true) hv'
  refine ⟨s, (List.range s.len).map f, rfl, by simp, fun i x hi => ?_, fun x hx => ?_, ha.cap⟩
  · have hil : i < s.len := by
      have := (List.getElem?_eq_some_iff.1 hi).1
      simpa using this
    rw [List.getElem?_map, List.getElem?_range hil] at hi
    simp only [Option.map_some, Option.some.injEq] at hi
    subst hi
    exact ha.cell i _ (hf i hil).1
  · obtain ⟨i, hi, rfl⟩ := List.mem_map.1 hx
    exact (hf i (by simpa using hi)).2
/-- a slice of whole numbers in a row -/
theorem argI_of {k : IntKind} {v : Value} (h : (Fk.s (.i k)).at w v) : ∃ s xs, v = vS s ∧ ArgI k w s xs := by
  obtain ⟨s, vs, rfl, ha, hv⟩ := h
  have hlen : vs.length = s.len := by rw [ha.len, Nat.mul_one]
  have hv' : ∀ i, i < s.len → ∃ n, vs[i]? = some (.int k n) ∧ (Lit.int k n).wf = true := by
    intro i hi
    have hlt : i < vs.length := by omega
    obtain ⟨n, hn, hw⟩ := hv vs[i] (List.getElem_mem hlt)
    exact ⟨n, by rw [List.getElem?_eq_getElem hlt, hn], hw⟩
  obtain ⟨f, hf⟩ := choose_lt (p := fun i (n : Int) => vs[i]? = some (.int k n) ∧ (Lit.int k n).wf = true) hv'
  refine ⟨s, (List.range s.len).map f, rfl, by simp, fun i x hi => ?_, fun x hx => ?_, ha.cap⟩
  · have hil : i < s.len := by
      have := (List.getElem?_eq_some_iff.1 hi).1
      simpa using this
    rw [List.getElem?_map, List.getElem?_range hil] at hi
    simp only [Option.map_some, Option.some.injEq] at hi
    subst hi
    exact ha.cell i _ (hf i hil).1
  · obtain ⟨i, hi, rfl⟩ := List.mem_map.1 hx
    exact (hf i (by simpa using hi)).2
/-- an array of whole numbers -/
def arrTok (P : Program) (t : TypeId) (n : Nat) (k : IntKind) : Bool :=
  match P.underlying t with
  | some (.array m e) => Nat.beq m n && Nat.beq (P.cellsOf e) 1 && Nat.beq (P.cellsOf t) m && (match P.underlying e with | some (.int k') => k == k' | _ => false)
  | _ => false
theorem mapM_all {α β : Type} {f : α → Option β} : ∀ {l : List α} {ys : List β}, l.mapM f = some ys → ∀ x ∈ l, ∃ y, f x = some y := by
  intro l
  induction l with
  | nil => intro ys _ x hx; cases hx
  | cons a r ih =>
    intro ys h x hx
    rw [List.mapM_cons] at h
    obtain ⟨y, hy, h⟩ := Option.bind_eq_some_iff.1 h
    obtain ⟨zs, hz, _⟩ := Option.bind_eq_some_iff.1 h
    rcases List.mem_cons.1 hx with rfl | hx
    · exact ⟨y, hy⟩
    · exact ih hz x hx
theorem open_arr {t : TypeId} {n : Nat} {k : IntKind} {r : Reach} {b0 : Nat} {v : Value} {d : DataW H} {ps : List MemPlace} (ht : arrTok P t n k = true)
    (hval : Value.okWide P w r b0 t v) (hd : DataW.Trod enc P w base spare held t v d ps) : ∃ xs : List Int, xs.length = n ∧ v = .agg (xs.map (Value.int k)).toArray ∧ ∀ x ∈ xs, (Lit.int k x).wf = true := by
  unfold arrTok at ht
  split at ht
  · next m e hu =>
    simp only [Bool.and_eq_true] at ht
    obtain ⟨⟨⟨h1, h2⟩, h4⟩, h3⟩ := ht
    have h4 := Nat.eq_of_beq_eq_true h4
    have h1 := Nat.eq_of_beq_eq_true h1
    have h2 := Nat.eq_of_beq_eq_true h2
    subst h1
    split at h3
    · next k' he =>
      have : k = k' := by simpa using h3
      subst this
      simp only [Value.okWide, hu] at hval
      obtain ⟨cs, rfl, hsz, -⟩ := hval
      obtain ⟨fuel, hf⟩ := hd
      cases fuel with
      | zero => simp [DataW.trod] at hf
      | succ fuel =>
        unfold DataW.trod at hf
        rw [hu] at hf
        change (if cs.toList.length = P.cellsOf t then _ else none) = _ at hf
        rw [if_pos (show cs.toList.length = P.cellsOf t by rw [Array.length_toList, hsz])] at hf
        obtain ⟨ys, hy, -⟩ := Option.map_eq_some_iff.1 hf
        have hx : ∀ i, i < m → ∃ x : Int, cs.toList[i]? = some (.int k x) ∧ (Lit.int k x).wf = true := by
          intro i hi
          obtain ⟨y, hy⟩ := mapM_all hy i (List.mem_range.2 hi)
          rw [h2, Nat.mul_one] at hy
          obtain ⟨x, hx, _, hw⟩ := DataW.trod_int he hy
          refine ⟨x, ?_, hw⟩
          have := congrArg (fun l => l[0]?) hx
          simp only [List.getElem?_take_of_lt (show 0 < 1 by decide), List.getElem?_drop, Nat.add_zero] at this
          exact this
        obtain ⟨f, hf⟩ := choose_lt (p := fun i (x : Int) => cs.toList[i]? = some (.int k x) ∧ (Lit.int k x).wf = true) hx
        have hlen : cs.toList.length = m := by
          rw [Array.length_toList, hsz, h4]
        refine ⟨(List.range m).map f, by simp, ?_, fun x hx => ?_⟩
        · have : cs.toList = ((List.range m).map f).map (Value.int k) := by
            refine List.ext_getElem? fun i => ?_
            by_cases hi : i < m
            · rw [(hf i hi).1]
              simp [hi]
            · rw [List.getElem?_eq_none (by omega), List.getElem?_eq_none (by simp; omega)]
          rw [← this]
        · obtain ⟨i, hi, rfl⟩ := List.mem_map.1 hx
          exact (hf i (List.mem_range.1 hi)).2
    · cases h3
  · cases ht
theorem open_arr3 {t : TypeId} {k : IntKind} {r : Reach} {b0 : Nat} {v : Value} {d : DataW H} {ps : List MemPlace} (ht : arrTok P t 3 k = true)
    (hval : Value.okWide P w r b0 t v) (hd : DataW.Trod enc P w base spare held t v d ps) : ∃ x0 x1 x2 : Int, v = .agg #[.int k x0, .int k x1, .int k x2] ∧ (Lit.int k x0).wf = true ∧ (Lit.int k x1).wf = true ∧ (Lit.int k x2).wf = true := by
  obtain ⟨xs, hl, rfl, hw⟩ := open_arr ht hval hd
  match xs, hl with
  | [x0, x1, x2], _ => exact ⟨x0, x1, x2, rfl, hw _ (by simp), hw _ (by simp), hw _ (by simp)⟩
theorem open_arr4 {t : TypeId} {k : IntKind} {r : Reach} {b0 : Nat} {v : Value} {d : DataW H} {ps : List MemPlace} (ht : arrTok P t 4 k = true)
    (hval : Value.okWide P w r b0 t v) (hd : DataW.Trod enc P w base spare held t v d ps) : ∃ x0 x1 x2 x3 : Int, v = .agg #[.int k x0, .int k x1, .int k x2, .int k x3] ∧ (Lit.int k x0).wf = true ∧ (Lit.int k x1).wf = true ∧ (Lit.int k x2).wf = true ∧ (Lit.int k x3).wf = true := by
  obtain ⟨xs, hl, rfl, hw⟩ := open_arr ht hval hd
  match xs, hl with
  | [x0, x1, x2, x3], _ => exact ⟨x0, x1, x2, x3, rfl, hw _ (by simp), hw _ (by simp), hw _ (by simp), hw _ (by simp)⟩
end
end Go.Proofs.YtenonfkfoedfmaaGreatDoor.B


/- What the rows of the whole lay: the library's table. -/
namespace Go.Proofs.YtenonfkfoedfmaaGreatDoor.B
open Go
open Go.ChangeShapes Go.WideShapes Go.ChangeAt Go.RowKit
set_option linter.unusedVariables false

abbrev laidL : List (String × DataW Unit) := [("math/bits.deBruijn64tab", Rows.laid_math_bits_deBruijn64tab)]

theorem gTab : Tryz.prog.globalNamed "math/bits.deBruijn64tab" = some 0 := by kernel_rfl

theorem tTab : (Tryz.prog.globals[0]?).map (·.type) = some 339 := by kernel_rfl

theorem uTab : Tryz.prog.underlying 339 = some (.array 64 5) := by kernel_rfl

theorem uU8 : Tryz.prog.underlying 5 = some (.int .u8) := by kernel_rfl

theorem door_met (os : Os) (args : Array Value) : laidMetH Tryz.prog laidL ((World.doorLaid Tryz.prog 400 os).forCall (fun _ _ => 0) ⟨#[], args, []⟩).memory :=
  laidMetH_of_parts3 (fuel := 8) (laidMet_of_run' 8 (by kernel_rfl) (by kernel_rfl)) (by kernel_rfl) (by kernel_rfl)

theorem of_laid {W : World} (h : laidMetH Tryz.prog laidL W) : TabE W := by
  rw [MakeChecks.laidMetH_plain _ _ _ (by kernel_rfl)] at h
  obtain ⟨ps, ⟨g0, t0, cs0, f0, p0, q0, hg0, ht0, hv0, hd0, _⟩, _, _⟩ := h
  obtain rfl := Option.some.inj (gTab.symm.trans hg0)
  obtain rfl := Option.some.inj (tTab.symm.trans ht0)
  obtain ⟨xs, m1, rfl, hx1, hlen, hn3, hel⟩ := DataW.trod_array uTab hd0
  have c1 : Tryz.prog.cellsOf 5 = 1 := by kernel_rfl
  rw [c1] at hel
  have hx2 : (tzTab.map fun v => (DataW.lit (.int .u8 v) : DataW Unit)) = xs.map (·.1) := by
    have := congrArg Prod.fst hx1
    exact (DataW.agg.injEq _ _).mp this
  refine ⟨fun j v hv => ?_, ?_⟩
  · have hj : j < 64 := (List.getElem?_eq_some_iff.1 hv).1
    have h1 : (xs.map (·.1))[j]? = some (DataW.lit (.int .u8 v)) := by rw [← hx2, List.getElem?_map, hv]; rfl
    rw [List.getElem?_map] at h1
    obtain ⟨x, hx, hxe⟩ := Option.map_eq_some_iff.1 h1
    have h2 := hel j hj
    rw [hx] at h2
    obtain ⟨n, e1, e2, _⟩ := DataW.trod_int uU8 h2
    have hnv : n = v := by
      rw [e2] at hxe
      simpa using hxe
    subst hnv
    rw [World.var?_cell hg0 hv0 j]
    have h3 : (cs0.toList.drop j)[0]? = some (.int .u8 n) := by
      rw [Nat.mul_one] at e1
      have : ((cs0.toList.drop j).take 1)[0]? = some (.int .u8 n) := by rw [e1]; rfl
      simpa using this
    rw [List.getElem?_drop] at h3
    simpa using h3
  · have := World.var?_cell hg0 hv0 0
    unfold World.var? at hv0
    rw [hg0, Option.bind_some] at hv0
    apply Nat.lt_of_not_le
    intro hc
    rw [Array.getElem?_eq_none hc] at hv0
    cases hv0

/-! ### what a row asks of the program -/
theorem and_i {a b : Bool} (h1 : a = true) (h2 : b = true) : (a && b) = true := by rw [h1, h2]; rfl

theorem pf1 : (laidOutB Tryz.prog) = true := by kernel_rfl

theorem pf2 : (mapsRowed Tryz.prog) = true := by kernel_rfl

theorem pf5 : ((Rows.topDelaysRow.stops == [])) = true := by kernel_rfl

theorem pf6 : ((Tryz.prog.stops == [])) = true := by kernel_rfl

theorem pf7 : ((Rows.topDelaysRow.knobs == [])) = true := by kernel_rfl

theorem pf8 : ((Tryz.prog.stopKnobs == [])) = true := by kernel_rfl

theorem pf22 : ((Rows.topDelaysRow.plainKeys == Tryz.prog.plainKeys)) = true := by kernel_rfl

theorem pf23 : (Rows.topDelaysRow.shortTexts.isNone) = true := by kernel_rfl

theorem pf24 : (Tryz.prog.stopsHeard) = true := by kernel_rfl

theorem pf25 : (Tryz.prog.mayEnter) = true := by kernel_rfl

theorem pf26 : ((Rows.topDelaysRow.lifted == Tryz.prog.liftsFinal)) = true := by kernel_rfl

theorem pf27 : ((Tryz.prog.make == some Rows.topDelaysRow.make)) = true := by kernel_rfl

end Go.Proofs.YtenonfkfoedfmaaGreatDoor.B

