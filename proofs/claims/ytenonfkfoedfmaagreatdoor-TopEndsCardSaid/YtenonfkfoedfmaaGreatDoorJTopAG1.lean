/- Texts of ours, joined: Grp, Grp2, Grp3, Grp4. -/
import Derived.Test.YtenonfkfoedfmaaGreatDoorJTopA7
set_option linter.unusedSimpArgs false
set_option linter.unusedVariables false
/- Calls of tasks: what they share. -/
namespace Go.Proofs.YtenonfkfoedfmaaGreatDoor.B
open Go
set_option linter.unusedVariables false

/-- the calls of tasks, behind the task's name -/
def tasksR (k b1 b3 : Nat) (v : Int) (R : List Value → World → Prop) (w18 : World) : Prop :=
 ldI w18 .i64 b1 0 fun n26 =>
 cs ((n26 : Int) == (4 : Int)) (
 nn (some ⟨k, 0, none⟩) fun b27 o28 =>
 ldP w18 b27 (o28 + 6) fun p29 =>
 cl Pg 131 [.pointer p29, .bool false] [] w18 fun (r30 : Unit) w31 =>
 nn (some ⟨k, 0, none⟩) fun b32 o33 =>
 ldP w31 b32 (o33 + 6) fun p34 =>
 cl Pg 132 [.pointer p34, .bool false] [] w31 fun (r35 : Unit) w36 =>
 cl Pg 133 [pV k, .int .i64 v] [] w36 fun (r37 : Unit) w38 =>
 cl Pg 77 [.int .i64 0, .slice none 0 0] [.a [(.i .i64), (.i .i64)]] w38 fun (r39 : (Int × Int × Unit) × Unit) w40 =>
 st1 w40 b3 0 (.int .i64 r39.1.1) fun w41 =>
 st1 w41 b3 (0 + 1) (.int .i64 r39.1.2.1) fun w42 =>
 ldI w42 .i64 b3 0 fun n43 =>
 ldI w42 .i64 b3 (0 + 1) fun n44 =>
 R [.agg #[.int .i64 n43, .int .i64 n44]] w42) (
 jn [kB] w18 (fun (t46 : Bool × Unit) w47 =>
 cs t46.1 (
 ldI w47 .i64 b1 0 fun n49 =>
 ldI w47 .i64 b1 (0 + 1) fun n50 =>
 ldI w47 .i64 b1 (0 + 2) fun n51 =>
 ldI w47 .i64 b1 (0 + 3) fun n52 =>
 ldI w47 .i64 b1 (0 + 4) fun n53 =>
 cl Pg 134 [pV k, .agg #[.int .i64 n49, .int .i64 n50, .int .i64 n51, .int .i64 n52, .int .i64 n53]] [.a [(.i .i64), (.i .i64)]] w47 fun (r54 : (Int × Int × Unit) × Unit) w55 =>
 st1 w55 b3 0 (.int .i64 r54.1.1) fun w56 =>
 st1 w56 b3 (0 + 1) (.int .i64 r54.1.2.1) fun w57 =>
 ldI w57 .i64 b3 0 fun n58 =>
 ldI w57 .i64 b3 (0 + 1) fun n59 =>
 R [.agg #[.int .i64 n58, .int .i64 n59]] w57) (
 jn [kB] w47 (fun (t61 : Bool × Unit) w62 =>
 cs t61.1 (
 nn (some ⟨k, 0, none⟩) fun b64 o65 =>
 ldI w62 .i64 b64 (o65 + 12) fun n66 =>
 al w62 2 [.int .i64 n66] fun b67 w68 =>
 cl Pg 77 [.int .i64 0, vS ⟨some ⟨b67, 0, none⟩, 1, 1⟩] [.a [(.i .i64), (.i .i64)]] w68 fun (r69 : (Int × Int × Unit) × Unit) w70 =>
 st1 w70 b3 0 (.int .i64 r69.1.1) fun w71 =>
 st1 w71 b3 (0 + 1) (.int .i64 r69.1.2.1) fun w72 =>
 ldI w72 .i64 b3 0 fun n73 =>
 ldI w72 .i64 b3 (0 + 1) fun n74 =>
 R [.agg #[.int .i64 n73, .int .i64 n74]] w72) (
 cs ((n26 : Int) == (12 : Int)) (
 cl Pg 135 [pV k, .int .i64 (-1)] [.a [(.i .i64), (.i .i64)]] w62 fun (r75 : (Int × Int × Unit) × Unit) w76 =>
 st1 w76 b3 0 (.int .i64 r75.1.1) fun w77 =>
 st1 w77 b3 (0 + 1) (.int .i64 r75.1.2.1) fun w78 =>
 ldI w78 .i64 b3 0 fun n79 =>
 ldI w78 .i64 b3 (0 + 1) fun n80 =>
 R [.agg #[.int .i64 n79, .int .i64 n80]] w78) (
 cs ((n26 : Int) == (13 : Int)) (
 ixA b1 (0 + 1) 4 0 1 fun b81 o82 =>
 ldI w62 .i64 b81 o82 fun n83 =>
 cl Pg 136 [.int .i64 n83] [kB] w62 fun (r84 : Bool × Unit) w85 =>
 cs (!r84.1) (
 cl Pg 77 [.int .i64 (-17), .slice none 0 0] [.a [(.i .i64), (.i .i64)]] w85 fun (r86 : (Int × Int × Unit) × Unit) w87 =>
 st1 w87 b3 0 (.int .i64 r86.1.1) fun w88 =>
 st1 w88 b3 (0 + 1) (.int .i64 r86.1.2.1) fun w89 =>
 ldI w89 .i64 b3 0 fun n90 =>
 ldI w89 .i64 b3 (0 + 1) fun n91 =>
 R [.agg #[.int .i64 n90, .int .i64 n91]] w89) (
 ixA b1 (0 + 1) 4 0 1 fun b92 o93 =>
 ldI w85 .i64 b92 o93 fun n94 =>
 cl Pg 135 [pV k, .int .i64 n94] [.a [(.i .i64), (.i .i64)]] w85 fun (r95 : (Int × Int × Unit) × Unit) w96 =>
 st1 w96 b3 0 (.int .i64 r95.1.1) fun w97 =>
 st1 w97 b3 (0 + 1) (.int .i64 r95.1.2.1) fun w98 =>
 ldI w98 .i64 b3 0 fun n99 =>
 ldI w98 .i64 b3 (0 + 1) fun n100 =>
 R [.agg #[.int .i64 n99, .int .i64 n100]] w98)) (
 cs ((n26 : Int) == (22 : Int)) (
 ixA b1 (0 + 1) 4 0 1 fun b101 o102 =>
 ldI w62 .i64 b101 o102 fun n103 =>
 cl Pg 137 [.int .i64 n103] [.l (.i .u64), kI] w62 fun (r104 : Int × Int × Unit) w105 =>
 cs ((r104.2.1 : Int) != (0 : Int)) (
 cl Pg 77 [.int .i64 r104.2.1, .slice none 0 0] [.a [(.i .i64), (.i .i64)]] w105 fun (r106 : (Int × Int × Unit) × Unit) w107 =>
 st1 w107 b3 0 (.int .i64 r106.1.1) fun w108 =>
 st1 w108 b3 (0 + 1) (.int .i64 r106.1.2.1) fun w109 =>
 ldI w109 .i64 b3 0 fun n110 =>
 ldI w109 .i64 b3 (0 + 1) fun n111 =>
 R [.agg #[.int .i64 n110, .int .i64 n111]] w109) (
 ixA b1 (0 + 1) 4 0 1 fun b112 o113 =>
 ldI w105 .i64 b112 o113 fun n114 =>
 cl Pg 138 [pV k, .int .i64 2, .int .i64 0, .int .i64 n114] [.a [(.i .i64), (.i .i64)]] w105 fun (r115 : (Int × Int × Unit) × Unit) w116 =>
 st1 w116 b3 0 (.int .i64 r115.1.1) fun w117 =>
 st1 w117 b3 (0 + 1) (.int .i64 r115.1.2.1) fun w118 =>
 ldI w118 .i64 b3 0 fun n119 =>
 ldI w118 .i64 b3 (0 + 1) fun n120 =>
 R [.agg #[.int .i64 n119, .int .i64 n120]] w118)) (
 cs ((n26 : Int) == (6 : Int)) (
 ixA b1 (0 + 1) 4 1 1 fun b121 o122 =>
 ldI w62 .i64 b121 o122 fun n123 =>
 cl Pg 139 [pV k, .int .i64 v, .int .i64 n123] [kI] w62 fun (r124 : Int × Unit) w125 =>
 cl Pg 77 [.int .i64 r124.1, .slice none 0 0] [.a [(.i .i64), (.i .i64)]] w125 fun (r126 : (Int × Int × Unit) × Unit) w127 =>
 st1 w127 b3 0 (.int .i64 r126.1.1) fun w128 =>
 st1 w128 b3 (0 + 1) (.int .i64 r126.1.2.1) fun w129 =>
 ldI w129 .i64 b3 0 fun n130 =>
 ldI w129 .i64 b3 (0 + 1) fun n131 =>
 R [.agg #[.int .i64 n130, .int .i64 n131]] w129) (
 dr w62 fun w132 =>
 ldI w132 .i64 b1 0 fun n133 =>
 ldI w132 .i64 b1 (0 + 1) fun n134 =>
 ldI w132 .i64 b1 (0 + 2) fun n135 =>
 ldI w132 .i64 b1 (0 + 3) fun n136 =>
 ldI w132 .i64 b1 (0 + 4) fun n137 =>
 nn (some ⟨k, 0, none⟩) fun b138 o139 =>
 ldS w132 b138 (o139 + 9) fun s140 =>
 ix s140 v 1 fun b141 o142 =>
 ldP w132 b141 o142 fun p143 =>
 nn p143 fun b144 o145 =>
 ldP w132 b144 o145 fun p146 =>
 cl Pg 140 [pV k, .agg #[.int .i64 n133, .int .i64 n134, .int .i64 n135, .int .i64 n136, .int .i64 n137], .int .i64 v, .pointer p146] [.a [(.i .i64), (.i .i64)]] w132 fun (r147 : (Int × Int × Unit) × Unit) w148 =>
 st1 w148 b3 0 (.int .i64 r147.1.1) fun w149 =>
 st1 w149 b3 (0 + 1) (.int .i64 r147.1.2.1) fun w150 =>
 ldI w150 .i64 b3 0 fun n151 =>
 ldI w150 .i64 b3 (0 + 1) fun n152 =>
 R [.agg #[.int .i64 n151, .int .i64 n152]] w150)))))) fun J60 w63 =>
 cs ((n26 : Int) == (10 : Int)) (
 J60 (true, ()) w63) (
 J60 ((n26 : Int) == (11 : Int), ()) w63))) fun J45 w48 =>
 cs ((n26 : Int) == (8 : Int)) (
 J45 (true, ()) w48) (
 J45 ((n26 : Int) == (9 : Int), ()) w48))

/-- one of the calls of one task -/
def oneR (k b1 b3 : Nat) (v : Int) (R : List Value → World → Prop) (w62 : World) : Prop :=
 dr w62 fun w132 =>
 ldI w132 .i64 b1 0 fun n133 =>
 ldI w132 .i64 b1 (0 + 1) fun n134 =>
 ldI w132 .i64 b1 (0 + 2) fun n135 =>
 ldI w132 .i64 b1 (0 + 3) fun n136 =>
 ldI w132 .i64 b1 (0 + 4) fun n137 =>
 nn (some ⟨k, 0, none⟩) fun b138 o139 =>
 ldS w132 b138 (o139 + 9) fun s140 =>
 ix s140 v 1 fun b141 o142 =>
 ldP w132 b141 o142 fun p143 =>
 nn p143 fun b144 o145 =>
 ldP w132 b144 o145 fun p146 =>
 cl Pg 140 [pV k, .agg #[.int .i64 n133, .int .i64 n134, .int .i64 n135, .int .i64 n136, .int .i64 n137], .int .i64 v, .pointer p146] [.a [(.i .i64), (.i .i64)]] w132 fun (r147 : (Int × Int × Unit) × Unit) w148 =>
 st1 w148 b3 0 (.int .i64 r147.1.1) fun w149 =>
 st1 w149 b3 (0 + 1) (.int .i64 r147.1.2.1) fun w150 =>
 ldI w150 .i64 b3 0 fun n151 =>
 ldI w150 .i64 b3 (0 + 1) fun n152 =>
 R [.agg #[.int .i64 n151, .int .i64 n152]] w150

theorem tasks_pre {e k A K L w x0 x1 x2 x3 R} {n : Nat} {a kd : Int} (h : Ok e (kerP k A K :: old e :: L) w) (hn : akL[n]? = some (a, kd)) (h0 : 0 < n) (h22 : n ≤ 22) (h9 : n ≠ 9) (h11 : n ≠ 11)
    (kz : nmd K n kd x0 = 0 → ∀ w', Ok e (kerP k A K :: old e :: L) w' → R [.agg #[.int .i64 (-18), .int .i64 0]] w')
    (kn : nmd K n kd x0 ≠ 0 → ∀ b d w', Ok e (pts d [.int .i64 0, .int .i64 0] :: pts b [.int .i64 (n : Int), .int .i64 x0, .int .i64 x1, .int .i64 x2, .int .i64 x3] :: kerP k A K :: old e :: L) w' → tasksR k b d (nmd K n kd x0) R w') :
    sh79 (some ⟨k, 0, none⟩) ((n : Int), x0, x1, x2, x3, ()) R w := by
  unfold sh79
  refine al.mk h fun b w1 h => al.mk h fun d w2 h => ldI.mk (h.p1.cell rfl) (ldI.mk (h.p1.cell rfl) (ldI.mk (h.p1.cell rfl) (ldI.mk (h.p1.cell rfl) (ldI.mk (h.p1.cell rfl) ?_))))
  refine call130 (a1 := ((n : Int), x0, x1, x2, x3, ())) (named_kern h.p2 hn h0 h22 fun w3 h => ⟨(nmd K n kd x0, ()), rfl, ?_⟩)
  have h : Ok e (pts d [.int .i64 0, .int .i64 0] :: pts b [.int .i64 (n : Int), .int .i64 x0, .int .i64 x1, .int .i64 x2, .int .i64 x3] :: kerP k A K :: old e :: L) w3 := (h.emb (by repeat' (first | with_reducible exact Emb.same _ | exact Emb.nil _ | refine Emb.cons (by with_reducible first | exact sl0 | exact .there sl0 | exact .there sl1 | exact .there sl2 | exact .there sl3 | exact .there sl4 | exact .there sl5 | exact .there sl6 | exact .there sl7 | exact .there sl8 | exact .there sl9 | exact .there sl10 | exact .there sl11 | exact .there sl12) ?_ | refine Emb.skip ?_)))
  dsimp only
  generalize nmd K n kd x0 = v at kz kn ⊢
  refine jn.bool (decide (v = 0)) (fun J hJ => ?_) (jn.bool (decide (v = 0)) (fun J hJ => ?_) (cs.mk (fun hw => ?_) (fun hw => kn (of_decide_eq_false hw) b d w3 h)))
  · refine cs.mk (fun hc => ldI.mk (h.p1.cell rfl) ?_) (fun hc => ?_)
    · rw [decide_eq_true (by simpa using hc)] at hJ
      rw [show ((n : Int) != (9 : Int)) = true by simp; omega]; exact hJ
    · rw [decide_eq_false (by simpa using hc)] at hJ; exact hJ
  · refine cs.mk (fun hc => ldI.mk (h.p1.cell rfl) ?_) (fun hc => ?_)
    · have hc : decide (v = 0) = true := hc
      rw [hc] at hJ
      rw [show ((n : Int) != (11 : Int)) = true by simp; omega]; exact hJ
    · have hc : decide (v = 0) = false := hc
      rw [hc] at hJ; exact hJ
  · exact fin_code h fun w4 h => kz (of_decide_eq_true hw) w4 h.drop

/-- what a call of one task answers -/
def OneC (e : World) (k : Nat) (A : KA) (K : KM) (v : Int) (r : (Int × Int) × KM) (f : Option Addr → (List Value → World → Prop) → World → Prop) : Prop :=
  ∀ L w (R : List Value → World → Prop) t, Ok e (kerP k A K :: old e :: L) w → w.cell? ⟨A.ub (v - 1).toNat, 0, none⟩ = some (pV t) → (∀ w', Ok e (kerP k A r.2 :: old e :: L) w' → R [.agg #[.int .i64 r.1.1, .int .i64 r.1.2]] w') → f (some ⟨t, 0, none⟩) R w

theorem one_pre {e k A K L w x0 x1 x2 x3 v u r R} {n : Nat} {b d : Nat} (h : Ok e (pts d [.int .i64 0, .int .i64 0] :: pts b [.int .i64 (n : Int), .int .i64 x0, .int .i64 x1, .int .i64 x2, .int .i64 x3] :: kerP k A K :: old e :: L) w) (hu : K.un v = some u)
    (ho : OneC e k A K v r fun a => sh140 (some ⟨k, 0, none⟩) ((n : Int), x0, x1, x2, x3, ()) v a)
    (kk : ∀ w', Ok e (kerP k A r.2 :: old e :: L) w' → R [.agg #[.int .i64 r.1.1, .int .i64 r.1.2]] w') : oneR k b d v R w := by
  unfold oneR
  refine dr.mk h fun w2 h => ?_
  obtain ⟨t, H, hk, h2, back, read⟩ := ker_un h.p2 hu
  refine ldI.mk (h.p1.cell rfl) (ldI.mk (h.p1.cell rfl) (ldI.mk (h.p1.cell rfl) (ldI.mk (h.p1.cell rfl) (ldI.mk (h.p1.cell rfl) (nn.mk (ldS.mk (h2.cell rfl) (read e _ w2 _ ((Ok.emb (h2) (.cons (A := H) (by with_reducible first | exact sl0 | exact .there sl0 | exact .there sl1 | exact .there sl2 | exact .there sl3 | exact .there sl4 | exact .there sl5 | exact .there sl6 | exact .there sl7 | exact .there sl8 | exact .there sl9 | exact .there sl10 | exact .there sl11 | exact .there sl12) (.same _)))) fun b2 o2 hc => ldP.mk hc (nn.mk (ldP.mk (h2.p1.cell rfl) ?_)))))))))
  refine call140 (a1 := ((n : Int), x0, x1, x2, x3, ())) (ho (pts d [.int .i64 0, .int .i64 0] :: pts b [.int .i64 (n : Int), .int .i64 x0, .int .i64 x1, .int .i64 x2, .int .i64 x3] :: L) w2 _ t (h.emb (by repeat' (first | with_reducible exact Emb.same _ | exact Emb.nil _ | refine Emb.cons (by with_reducible first | exact sl0 | exact .there sl0 | exact .there sl1 | exact .there sl2 | exact .there sl3 | exact .there sl4 | exact .there sl5 | exact .there sl6 | exact .there sl7 | exact .there sl8 | exact .there sl9 | exact .there sl10 | exact .there sl11 | exact .there sl12) ?_ | refine Emb.skip ?_))) (h2.p1.cell rfl) fun w3 h => ⟨((r.1.1, r.1.2, ()), ()), rfl, ?_⟩)
  exact fin_res ((Ok.emb (h) (.cons (A := pts d [.int .i64 0, .int .i64 0]) (by with_reducible first | exact sl0 | exact .there sl0 | exact .there sl1 | exact .there sl2 | exact .there sl3 | exact .there sl4 | exact .there sl5 | exact .there sl6 | exact .there sl7 | exact .there sl8 | exact .there sl9 | exact .there sl10 | exact .there sl11 | exact .there sl12) (.same _)))) fun w5 h => kk w5 (h.emb (by repeat' (first | with_reducible exact Emb.same _ | exact Emb.nil _ | refine Emb.cons (by with_reducible first | exact sl0 | exact .there sl0 | exact .there sl1 | exact .there sl2 | exact .there sl3 | exact .there sl4 | exact .there sl5 | exact .there sl6 | exact .there sl7 | exact .there sl8 | exact .there sl9 | exact .there sl10 | exact .there sl11 | exact .there sl12) ?_ | refine Emb.skip ?_)))

/-- a task laid open, whose block is known -/
theorem open_t {e L w k A K v u t} (h : Ok e (kerP k A K :: L) w) (hu : K.un v = some u) (hc : w.cell? ⟨A.ub (v - 1).toNat, 0, none⟩ = some (pV t)) : ∃ H, kerOk K ∧
    Ok e (pts k (kC A K) :: pts (A.ub (v - 1).toNat) (unC t u) :: pts t (tcC u) :: H :: kR A K L) w ∧
    (∀ (K1 : KM) u' e1 L1 w1, kerOk K1 → K1.us = K.us → Ok e1 (pts k (kC A K1) :: pts (A.ub (v - 1).toNat) (unC t u') :: pts t (tcC u') :: H :: kR A K1 L1) w1 → Ok e1 (kerP k A (K1.setU v u') :: L1) w1) := by
  obtain ⟨t', H, ho, h2, back, -⟩ := ker_un h hu
  have h1 := h2.p1.cell (i := 0) rfl
  rw [hc] at h1
  have : t = t' := by simpa using h1
  subst this
  exact ⟨H, ho, h2, back⟩

end Go.Proofs.YtenonfkfoedfmaaGreatDoor.B


/- Calls of tasks: one by one. -/
namespace Go.Proofs.YtenonfkfoedfmaaGreatDoor.B
open Go
set_option linter.unusedVariables false

theorem tasks_10 {e k A K r x0 x1 x2 x3} (hm : KM.cTid K = some r) : GrpC e k A K r (sh79 (some ⟨k, 0, none⟩) (((10 : Nat) : Int), x0, x1, x2, x3, ())) := by
  intro L w R h kk
  unfold KM.cTid at hm
  refine tasks_pre h (n := 10) rfl (by decide) (by decide) (by decide) (by decide) (fun hz w' h => ?_) (fun hz b d w' h => ?_)
  · rw [if_pos (show K.who = 0 from hz)] at hm
    cases hm
    exact kk w' h
  · rw [if_neg (show ¬ K.who = 0 from hz)] at hm
    cases hm
    unfold tasksR
    refine ldI.mk (h.p1.cell rfl) ?_
    (repeat (first | ((with_reducible refine cs.yes ?_ ?_); · rfl) | ((with_reducible refine cs.no ?_ ?_); · rfl) | refine jn.mk fun J hJ => ?_ | with_reducible apply_assumption -exfalso -symm))
    obtain ⟨ho, h2⟩ := kerE h.p2
    refine nn.mk (ldI.mk (h2.cell rfl) ?_)
    exact fin_val h fun w4 h => kk w4 h.drop

theorem tasks_11 {e k A K r x0 x1 x2 x3} (hm : KM.cItid K = some r) : GrpC e k A K r (sh79 (some ⟨k, 0, none⟩) (((11 : Nat) : Int), x0, x1, x2, x3, ())) := by
  intro L w R h kk
  cases hm
  unfold sh79
  refine al.mk h fun b w1 h => al.mk h fun d w2 h => ldI.mk (h.p1.cell rfl) (ldI.mk (h.p1.cell rfl) (ldI.mk (h.p1.cell rfl) (ldI.mk (h.p1.cell rfl) (ldI.mk (h.p1.cell rfl) ?_))))
  refine call130 (a1 := (((11 : Nat) : Int), x0, x1, x2, x3, ())) (named_kern h.p2 (n := 11) rfl (by decide) (by decide) fun w3 h => ⟨(nmd K 11 3 x0, ()), rfl, ?_⟩)
  have h : Ok e (pts d [.int .i64 0, .int .i64 0] :: pts b [.int .i64 ((11 : Nat) : Int), .int .i64 x0, .int .i64 x1, .int .i64 x2, .int .i64 x3] :: kerP k A K :: old e :: L) w3 := (h.emb (by repeat' (first | with_reducible exact Emb.same _ | exact Emb.nil _ | refine Emb.cons (by with_reducible first | exact sl0 | exact .there sl0 | exact .there sl1 | exact .there sl2 | exact .there sl3 | exact .there sl4 | exact .there sl5 | exact .there sl6 | exact .there sl7 | exact .there sl8 | exact .there sl9 | exact .there sl10 | exact .there sl11 | exact .there sl12) ?_ | refine Emb.skip ?_)))
  refine jn.mk fun J hJ => ?_
  have hJ2 : ∀ z w', Ok e (pts d [.int .i64 0, .int .i64 0] :: pts b [.int .i64 ((11 : Nat) : Int), .int .i64 x0, .int .i64 x1, .int .i64 x2, .int .i64 x3] :: kerP k A K :: old e :: L) w' → J (z, ()) w' := by
    intro z w' h
    refine hJ _ _ (jn.mk fun J2 hJ2 => ?_)
    have fin : J2 (false, ()) w' := by
      refine hJ2 _ _ (cs.no rfl (ldI.mk (h.p1.cell rfl) ?_))
      (repeat (first | ((with_reducible refine cs.yes ?_ ?_); · rfl) | ((with_reducible refine cs.no ?_ ?_); · rfl) | refine jn.mk fun J hJ => ?_ | with_reducible apply_assumption -exfalso -symm))
      obtain ⟨ho, h2⟩ := kerE h.p2
      refine nn.mk (ldI.mk (h2.cell rfl) ?_)
      exact fin_val h fun w4 h => kk w4 h.drop
    exact cs.mk (fun _ => ldI.mk (h.p1.cell rfl) fin) (fun _ => fin)
  exact cs.mk (fun _ => ldI.mk (h.p1.cell rfl) (hJ2 _ _ h)) (fun _ => hJ2 _ _ h)

theorem one_7 {e k A K v u r x0 x1 x2 x3} (hu : K.un v = some u) (hm : (if u.state = 16 then some ((-41, 0), K) else (K.mm.pri v).map fun p => ((0, p), K)) = some r) :
    OneC e k A K v r fun a => sh140 (some ⟨k, 0, none⟩) (((7 : Nat) : Int), x0, x1, x2, x3, ()) v a := by
  intro L w R t h hc kk
  obtain ⟨H, ho, h, back⟩ := open_t h hu hc
  have fin : ∀ w' L', Ok e (pts k (kC A K) :: pts (A.ub (v - 1).toNat) (unC t u) :: pts t (tcC u) :: H :: kR A K L') w' → Ok e (kerP k A K :: L') w' := fun w' L' h => by
    have h := back K u e _ w' ho rfl h
    rwa [setU_same hu] at h
  unfold sh140
  refine al.mk h fun b5 w3 h => al.mk h fun d5 w4 h => ldI.mk (h.p1.cell rfl) ?_
  (repeat (first | ((with_reducible refine cs.yes ?_ ?_); · rfl) | ((with_reducible refine cs.no ?_ ?_); · rfl) | refine jn.mk fun J hJ => ?_ | with_reducible apply_assumption -exfalso -symm))
  refine is_step (u := u) (x := 16) ((Ok.emb (h) (.cons (A := pts t (tcC u)) (by with_reducible first | exact sl0 | exact .there sl0 | exact .there sl1 | exact .there sl2 | exact .there sl3 | exact .there sl4 | exact .there sl5 | exact .there sl6 | exact .there sl7 | exact .there sl8 | exact .there sl9 | exact .there sl10 | exact .there sl11 | exact .there sl12) (.same _)))) fun w5 h1 => cs.mk (fun hc => ?_) (fun hc => ?_)
  · have hc : (16 : Int) = u.state := by simpa using hc
    rw [if_pos hc.symm] at hm
    cases hm
    exact fin_code ((Ok.emb (h1) (.cons (A := pts d5 [.int .i64 0, .int .i64 0]) (by with_reducible first | exact sl0 | exact .there sl0 | exact .there sl1 | exact .there sl2 | exact .there sl3 | exact .there sl4 | exact .there sl5 | exact .there sl6 | exact .there sl7 | exact .there sl8 | exact .there sl9 | exact .there sl10 | exact .there sl11 | exact .there sl12) (.same _)))) fun w6 h => kk w6 (fin w6 _ (h.emb (by repeat' (first | with_reducible exact Emb.same _ | exact Emb.nil _ | refine Emb.cons (by with_reducible first | exact sl0 | exact .there sl0 | exact .there sl1 | exact .there sl2 | exact .there sl3 | exact .there sl4 | exact .there sl5 | exact .there sl6 | exact .there sl7 | exact .there sl8 | exact .there sl9 | exact .there sl10 | exact .there sl11 | exact .there sl12) ?_ | refine Emb.skip ?_))))
  · have hc : ¬ (16 : Int) = u.state := by simpa using hc
    rw [if_neg (fun hx => hc hx.symm)] at hm
    obtain ⟨p, hp, rfl⟩ := Option.map_eq_some_iff.1 hm
    have h := h1
    refine nn.mk (ldP.mk (by refine Ok.cellS h (by with_reducible first | exact sl0 | exact .there sl0 | exact .there sl1 | exact .there sl2 | exact .there sl3 | exact .there sl4 | exact .there sl5 | exact .there sl6 | exact .there sl7 | exact .there sl8 | exact .there sl9 | exact .there sl10 | exact .there sl11 | exact .there sl12) ?_; rfl) ?_)
    refine call35 (Pri_mtx ((Ok.emb (h) (.cons (A := mmP A.lk K.mm) (by with_reducible first | exact sl0 | exact .there sl0 | exact .there sl1 | exact .there sl2 | exact .there sl3 | exact .there sl4 | exact .there sl5 | exact .there sl6 | exact .there sl7 | exact .there sl8 | exact .there sl9 | exact .there sl10 | exact .there sl11 | exact .there sl12) (.same _)))) hp ⟨(p, ()), rfl, ?_⟩)
    exact fin_val ((Ok.emb (h) (.cons (A := pts d5 [.int .i64 0, .int .i64 0]) (by with_reducible first | exact sl0 | exact .there sl0 | exact .there sl1 | exact .there sl2 | exact .there sl3 | exact .there sl4 | exact .there sl5 | exact .there sl6 | exact .there sl7 | exact .there sl8 | exact .there sl9 | exact .there sl10 | exact .there sl11 | exact .there sl12) (.same _)))) fun w6 h => kk w6 (fin w6 _ (h.emb (by repeat' (first | with_reducible exact Emb.same _ | exact Emb.nil _ | refine Emb.cons (by with_reducible first | exact sl0 | exact .there sl0 | exact .there sl1 | exact .there sl2 | exact .there sl3 | exact .there sl4 | exact .there sl5 | exact .there sl6 | exact .there sl7 | exact .there sl8 | exact .there sl9 | exact .there sl10 | exact .there sl11 | exact .there sl12) ?_ | refine Emb.skip ?_))))

theorem tasks_7 {e k A K r x0 x1 x2 x3} (hm : KM.cPri x0 K = some r) : GrpC e k A K r (sh79 (some ⟨k, 0, none⟩) (((7 : Nat) : Int), x0, x1, x2, x3, ())) := by
  intro L w R h kk
  unfold KM.cPri KM.byTask at hm
  refine tasks_pre h (n := 7) rfl (by decide) (by decide) (by decide) (by decide) (fun hz w' h => ?_) (fun hz b d w' h => ?_)
  · rw [if_pos (show K.named x0 true = 0 from hz)] at hm
    cases hm
    exact kk w' h
  · rw [if_neg (show ¬ K.named x0 true = 0 from hz)] at hm
    have hv : nmd K 7 1 x0 = K.named x0 true := rfl
    rw [hv]
    generalize K.named x0 true = v at hm
    obtain ⟨u, hu, hm⟩ := Option.bind_eq_some_iff.1 hm
    unfold tasksR
    refine ldI.mk (h.p1.cell rfl) ?_
    (repeat (first | ((with_reducible refine cs.yes ?_ ?_); · rfl) | ((with_reducible refine cs.no ?_ ?_); · rfl) | refine jn.mk fun J hJ => ?_ | with_reducible apply_assumption -exfalso -symm))
    exact one_pre h hu (one_7 hu hm) kk

theorem one_1 {e k A K v r x0 x1 x2 x3} (hm : (K.act v).map (fun r => ((r.1, (0 : Int)), r.2)) = some r) :
    OneC e k A K v r fun a => sh140 (some ⟨k, 0, none⟩) (((1 : Nat) : Int), x0, x1, x2, x3, ()) v a := by
  intro L w R t h hc kk
  obtain ⟨r1, h1, rfl⟩ := Option.map_eq_some_iff.1 hm
  unfold sh140
  refine al.mk h fun b5 w3 h => al.mk h fun d5 w4 h => ldI.mk (h.p1.cell rfl) ?_
  (repeat (first | ((with_reducible refine cs.yes ?_ ?_); · rfl) | ((with_reducible refine cs.no ?_ ?_); · rfl) | refine jn.mk fun J hJ => ?_ | with_reducible apply_assumption -exfalso -symm))
  refine call105 (act_kern (h.p2) h1 fun w5 h => ⟨(r1.1, ()), rfl, ?_⟩)
  exact fin_code ((Ok.emb (h) (.cons (A := pts d5 [.int .i64 0, .int .i64 0]) (by with_reducible first | exact sl0 | exact .there sl0 | exact .there sl1 | exact .there sl2 | exact .there sl3 | exact .there sl4 | exact .there sl5 | exact .there sl6 | exact .there sl7 | exact .there sl8 | exact .there sl9 | exact .there sl10 | exact .there sl11 | exact .there sl12) (.same _)))) fun w6 h => kk w6 (h.emb (by repeat' (first | with_reducible exact Emb.same _ | exact Emb.nil _ | refine Emb.cons (by with_reducible first | exact sl0 | exact .there sl0 | exact .there sl1 | exact .there sl2 | exact .there sl3 | exact .there sl4 | exact .there sl5 | exact .there sl6 | exact .there sl7 | exact .there sl8 | exact .there sl9 | exact .there sl10 | exact .there sl11 | exact .there sl12) ?_ | refine Emb.skip ?_)))

theorem tasks_1 {e k A K r x0 x1 x2 x3} (hm : KM.cAct x0 K = some r) : GrpC e k A K r (sh79 (some ⟨k, 0, none⟩) (((1 : Nat) : Int), x0, x1, x2, x3, ())) := by
  intro L w R h kk
  unfold KM.cAct KM.byTask at hm
  refine tasks_pre h (n := 1) rfl (by decide) (by decide) (by decide) (by decide) (fun hz w' h => ?_) (fun hz b d w' h => ?_)
  · rw [if_pos (show K.named x0 true = 0 from hz)] at hm
    cases hm
    exact kk w' h
  · rw [if_neg (show ¬ K.named x0 true = 0 from hz)] at hm
    have hv : nmd K 1 1 x0 = K.named x0 true := rfl
    rw [hv]
    generalize K.named x0 true = v at hm
    obtain ⟨r1, h1, h2⟩ := Option.map_eq_some_iff.1 hm
    obtain ⟨u, hu, -⟩ := Option.bind_eq_some_iff.1 h1
    unfold tasksR
    refine ldI.mk (h.p1.cell rfl) ?_
    (repeat (first | ((with_reducible refine cs.yes ?_ ?_); · rfl) | ((with_reducible refine cs.no ?_ ?_); · rfl) | refine jn.mk fun J hJ => ?_ | with_reducible apply_assumption -exfalso -symm))
    exact one_pre h hu (one_1 hm) kk

theorem tasks_4 {e k A K r x0 x1 x2 x3} (hm : KM.cExt K = some r) : GrpC e k A K r (sh79 (some ⟨k, 0, none⟩) (((4 : Nat) : Int), x0, x1, x2, x3, ())) := by
  intro L w R h kk
  unfold KM.cExt at hm
  refine tasks_pre h (n := 4) rfl (by decide) (by decide) (by decide) (by decide) (fun hz w' h => ?_) (fun hz b d w' h => ?_)
  · rw [if_pos (show K.who = 0 from hz)] at hm
    cases hm
    exact kk w' h
  · rw [if_neg (show ¬ K.who = 0 from hz)] at hm
    obtain ⟨K', hK, rfl⟩ := Option.map_eq_some_iff.1 hm
    rw [show nmd K 4 4 x0 = K.who from rfl]
    unfold tasksR
    refine ldI.mk (h.p1.cell rfl) ?_
    (repeat (first | ((with_reducible refine cs.yes ?_ ?_); · rfl) | ((with_reducible refine cs.no ?_ ?_); · rfl) | refine jn.mk fun J hJ => ?_ | with_reducible apply_assumption -exfalso -symm))
    obtain ⟨ho, h2⟩ := kerE h.p2
    have h : Ok e (pts k (kC A K) :: unitsP A.ub A.us K.us :: semsP A.ss K.sems :: flgP A.fs :: datasP A.ds K.datas :: poolsP A.ps K.pools :: mmP A.lk K.mm :: placeP A.pl K.pl :: hnP A.hn K.tic K.up K.tb K.last K.ents :: rdyP A.rq K.rdy :: pts d [.int .i64 0, .int .i64 0] :: pts b [.int .i64 ((4 : Nat) : Int), .int .i64 x0, .int .i64 x1, .int .i64 x2, .int .i64 x3] :: old e :: L) w' := (Ok.emb (h2) (by repeat' (first | with_reducible exact Emb.same _ | exact Emb.nil _ | refine Emb.cons (by with_reducible first | exact sl0 | exact .there sl0 | exact .there sl1 | exact .there sl2 | exact .there sl3 | exact .there sl4 | exact .there sl5 | exact .there sl6 | exact .there sl7 | exact .there sl8 | exact .there sl9 | exact .there sl10 | exact .there sl11 | exact .there sl12) ?_ | refine Emb.skip ?_)))
    refine nn.mk (ldP.mk (h.cell rfl) ?_)
    refine call131 (Lock_ctx ((Ok.emb (h) (.cons (A := placeP A.pl K.pl) (by with_reducible first | exact sl0 | exact .there sl0 | exact .there sl1 | exact .there sl2 | exact .there sl3 | exact .there sl4 | exact .there sl5 | exact .there sl6 | exact .there sl7 | exact .there sl8 | exact .there sl9 | exact .there sl10 | exact .there sl11 | exact .there sl12) (.same _)))) fun w1 h => ⟨(), rfl, nn.mk (ldP.mk (by refine Ok.cellS h (by with_reducible first | exact sl0 | exact .there sl0 | exact .there sl1 | exact .there sl2 | exact .there sl3 | exact .there sl4 | exact .there sl5 | exact .there sl6 | exact .there sl7 | exact .there sl8 | exact .there sl9 | exact .there sl10 | exact .there sl11 | exact .there sl12) ?_; rfl) ?_)⟩)
    refine call132 (Disable_ctx h fun w2 h => ⟨(), rfl, ?_⟩)
    have h : Ok e (pts k (kC A K) :: unitsP A.ub A.us K.us :: semsP A.ss K.sems :: flgP A.fs :: datasP A.ds K.datas :: poolsP A.ps K.pools :: mmP A.lk K.mm :: placeP A.pl { K.pl with locked := false, disabled := false } :: hnP A.hn K.tic K.up K.tb K.last K.ents :: rdyP A.rq K.rdy :: pts d [.int .i64 0, .int .i64 0] :: pts b [.int .i64 ((4 : Nat) : Int), .int .i64 x0, .int .i64 x1, .int .i64 x2, .int .i64 x3] :: old e :: L) w2 := (h.emb (by repeat' (first | with_reducible exact Emb.same _ | exact Emb.nil _ | refine Emb.cons (by with_reducible first | exact sl0 | exact .there sl0 | exact .there sl1 | exact .there sl2 | exact .there sl3 | exact .there sl4 | exact .there sl5 | exact .there sl6 | exact .there sl7 | exact .there sl8 | exact .there sl9 | exact .there sl10 | exact .there sl11 | exact .there sl12) ?_ | refine Emb.skip ?_)))
    have h := kerI (K := { K with pl := { K.pl with locked := false, disabled := false } }) (A := A) ⟨ho.t0, ho.t1, ho.us, ho.sems, ho.datas, ho.pools⟩ h
    refine call133 (over_kern h hK fun w3 h => ⟨(), rfl, ?_⟩)
    exact fin_code ((Ok.emb (h) (.cons (A := pts d [.int .i64 0, .int .i64 0]) (by with_reducible first | exact sl0 | exact .there sl0 | exact .there sl1 | exact .there sl2 | exact .there sl3 | exact .there sl4 | exact .there sl5 | exact .there sl6 | exact .there sl7 | exact .there sl8 | exact .there sl9 | exact .there sl10 | exact .there sl11 | exact .there sl12) (.same _)))) fun w4 h => kk w4 (h.emb (by repeat' (first | with_reducible exact Emb.same _ | exact Emb.nil _ | refine Emb.cons (by with_reducible first | exact sl0 | exact .there sl0 | exact .there sl1 | exact .there sl2 | exact .there sl3 | exact .there sl4 | exact .there sl5 | exact .there sl6 | exact .there sl7 | exact .there sl8 | exact .there sl9 | exact .there sl10 | exact .there sl11 | exact .there sl12) ?_ | refine Emb.skip ?_)))

end Go.Proofs.YtenonfkfoedfmaaGreatDoor.B


/- Calls of mutexes, of the state. -/
namespace Go.Proofs.YtenonfkfoedfmaaGreatDoor.B
open Go
set_option linter.unusedVariables false

/-- an object's number as the calls take it -/
abbrev clO (x : Int) : Int := if 0 > (if 9 < x then 9 else x) then 0 else (if 9 < x then 9 else x)

theorem clO_in {x n : Int} (hn : n ≤ 8) : (1 ≤ clO x ∧ clO x ≤ n) ↔ (1 ≤ x ∧ x ≤ n) := by
  unfold clO
  split <;> split at * <;> omega

theorem clO_eq {x : Int} (h : 1 ≤ x ∧ x ≤ 8) : clO x = x := by
  unfold clO
  split <;> split at * <;> omega

/-- no time-out is told -/
theorem timeout_none {e w L R} {n : Nat} {a1 a2 x0 x1 x2 x3 : Int} (h : Ok e L w) (h1 : (n : Int) ≠ a1) (h2 : (n : Int) ≠ a2) (k : ∀ w', Ok e L w' → R [.int .i64 (-1)] w') : sh141 ((n : Int), x0, x1, x2, x3, ()) a1 a2 R w := by
  unfold sh141
  exact al.mk h fun b w1 h => ldI.mk (h.cell rfl) (cs.no (by simpa using h1) (cs.no (by simpa using h2) (k w1 h.drop)))

theorem truth_kern {e w L R c} (h : Ok e L w) (k : ∀ w', Ok e L w' → R [.agg #[.int .i64 0, .int .i64 (if c = true then 1 else 0)]] w') : sh164 c R w := by
  unfold sh164
  refine al.mk h fun b w1 h => cs.mk (fun hc => ?_) (fun hc => ?_)
  · rw [if_pos hc] at k
    exact fin_val h fun w2 h => k w2 h
  · rw [if_neg (by rw [hc]; decide)] at k
    exact fin_code h fun w2 h => k w2 h

def cIn (K : KM) : Option ((Int × Int) × KM) := some ((0, if K.pl.inn = true then 1 else 0), K)

theorem state_61 {e k A K r x0 x1 x2 x3} (hm : cIn K = some r) : GrpC e k A K r (sh86 (some ⟨k, 0, none⟩) (((61 : Nat) : Int), x0, x1, x2, x3, ())) := by
  intro L w R h kk
  cases hm
  unfold sh86
  refine al.mk h fun b w1 h => al.mk h fun d w2 h => ldI.mk (h.p1.cell rfl) ?_
  (repeat (first | ((with_reducible refine cs.yes ?_ ?_); · rfl) | ((with_reducible refine cs.no ?_ ?_); · rfl) | refine jn.mk fun J hJ => ?_ | with_reducible apply_assumption -exfalso -symm))
  obtain ⟨ho, h2⟩ := kerE h.p2
  refine nn.mk (ldP.mk (h2.cell rfl) (nn.mk ?_))
  refine call128 (In_ctx ((Ok.emb (h2) (.cons (A := placeP A.pl K.pl) (by with_reducible first | exact sl0 | exact .there sl0 | exact .there sl1 | exact .there sl2 | exact .there sl3 | exact .there sl4 | exact .there sl5 | exact .there sl6 | exact .there sl7 | exact .there sl8 | exact .there sl9 | exact .there sl10 | exact .there sl11 | exact .there sl12) (.same _)))) ⟨(K.pl.inn, ()), rfl, ?_⟩)
  refine call164 (truth_kern h fun w3 h => ⟨(((0 : Int), ((if K.pl.inn = true then 1 else 0 : Int) : Int), ()), ()), rfl, ?_⟩)
  exact fin_res h fun w4 h => kk w4 h.drop

theorem mutex_43 {e k A K r x0 x1 x2 x3} (hm : KM.cLoc x0 K = some r) : GrpC e k A K r (sh83 (some ⟨k, 0, none⟩) (((43 : Nat) : Int), x0, x1, x2, x3, ())) := by
  intro L w R h kk
  unfold KM.cLoc at hm
  unfold sh83
  refine al.mk h fun b w1 h => al.mk h fun d w2 h => ⟨by decide, by decide, ldI.mk (h.p1.cell rfl) (ldI.mk (h.p1.cell rfl) (ldI.mk (h.p1.cell rfl) (ldI.mk (h.p1.cell rfl) (ldI.mk (h.p1.cell rfl) (ldI.mk (h.p1.cell rfl) ?_)))))⟩
  refine call141 (a0 := (((43 : Nat) : Int), x0, x1, x2, x3, ())) (timeout_none h (by decide) (by decide) fun w3 h => ⟨((-1 : Int), ()), rfl, ?_⟩)
  obtain ⟨ho, h2⟩ := kerE h.p2
  obtain ⟨_, _, ⟨-, -, h8⟩, -, -⟩ := mmE ((Ok.emb (h2) (.cons (A := mmP A.lk K.mm) (by with_reducible first | exact sl0 | exact .there sl0 | exact .there sl1 | exact .there sl2 | exact .there sl3 | exact .there sl4 | exact .there sl5 | exact .there sl6 | exact .there sl7 | exact .there sl8 | exact .there sl9 | exact .there sl10 | exact .there sl11 | exact .there sl12) (.same _))))
  have hin := clO_in (x := x0) (n := (K.mm.m.length : Int) - 1) (by omega)
  refine jn.bool (decide ¬ (1 ≤ x0 ∧ x0 < K.mm.m.length)) (fun J hJ => ?_) (cs.mk (fun hc => ?_) (fun hc => ?_))
  · refine cs.mk (fun hc => ?_) (fun hc => ?_)
    · have hc : clO x0 < 1 := of_decide_eq_true hc
      rw [decide_eq_true (by omega)] at hJ
      exact hJ
    · have hc : ¬ clO x0 < 1 := of_decide_eq_false hc
      refine nn.mk (ldI.mk (h2.cell rfl) ?_)
      rw [show decide (¬ (1 ≤ x0 ∧ x0 < K.mm.m.length)) = decide ((clO x0 : Int) > (K.mm.m.length : Int) - 1) from decide_eq_decide.2 (by omega)] at hJ
      exact hJ
  · rw [if_pos (of_decide_eq_true hc)] at hm
    cases hm
    exact fin_code h fun w4 h => kk w4 h.drop
  have hc := of_decide_eq_false hc
  rw [if_neg hc] at hm
  obtain ⟨r1, hr1, hm⟩ := Option.bind_eq_some_iff.1 hm
  refine call136 (late_kern ⟨(true, ()), rfl, cs.no rfl (ldI.mk (h.p1.cell rfl) (cs.no rfl (nn.mk (ldP.mk (h2.cell rfl) ?_))))⟩)
  refine jn.mk fun J hJ => cs.no rfl (hJ _ _ (nn.mk (ldI.mk (h2.cell rfl) ⟨by kernel_rfl, ?_⟩)))
  have hx : clO x0 = x0 := clO_eq (by omega)
  show cl Pg 32 [pV A.lk, .int .i64 (clO x0), .int .i64 K.who] [kB, kI] w3 _
  rw [hx]
  have h2 : Ok e (mmP A.lk K.mm :: pts k (kC A K) :: unitsP A.ub A.us K.us :: semsP A.ss K.sems :: flgP A.fs :: datasP A.ds K.datas :: poolsP A.ps K.pools :: placeP A.pl K.pl :: hnP A.hn K.tic K.up K.tb K.last K.ents :: rdyP A.rq K.rdy :: pts d [.int .i64 0, .int .i64 0] :: pts b [.int .i64 ((43 : Nat) : Int), .int .i64 x0, .int .i64 x1, .int .i64 x2, .int .i64 x3] :: old e :: L) w3 := (Ok.emb (h2) (by repeat' (first | with_reducible exact Emb.same _ | exact Emb.nil _ | refine Emb.cons (by with_reducible first | exact sl0 | exact .there sl0 | exact .there sl1 | exact .there sl2 | exact .there sl3 | exact .there sl4 | exact .there sl5 | exact .there sl6 | exact .there sl7 | exact .there sl8 | exact .there sl9 | exact .there sl10 | exact .there sl11 | exact .there sl12) ?_ | refine Emb.skip ?_)))
  refine call32 (Lock_mtx h2 hr1 fun w4 h => ⟨(r1.1.1, r1.1.2, ()), rfl, ?_⟩)
  have hml := lock_len hr1
  have h : Ok e (pts k (kC A { K with mm := r1.2 }) :: unitsP A.ub A.us K.us :: semsP A.ss K.sems :: flgP A.fs :: datasP A.ds K.datas :: poolsP A.ps K.pools :: mmP A.lk r1.2 :: placeP A.pl K.pl :: hnP A.hn K.tic K.up K.tb K.last K.ents :: rdyP A.rq K.rdy :: pts d [.int .i64 0, .int .i64 0] :: pts b [.int .i64 ((43 : Nat) : Int), .int .i64 x0, .int .i64 x1, .int .i64 x2, .int .i64 x3] :: old e :: L) w4 := by
    have h : Ok e (pts k (kC A K) :: unitsP A.ub A.us K.us :: semsP A.ss K.sems :: flgP A.fs :: datasP A.ds K.datas :: poolsP A.ps K.pools :: mmP A.lk r1.2 :: placeP A.pl K.pl :: hnP A.hn K.tic K.up K.tb K.last K.ents :: rdyP A.rq K.rdy :: pts d [.int .i64 0, .int .i64 0] :: pts b [.int .i64 ((43 : Nat) : Int), .int .i64 x0, .int .i64 x1, .int .i64 x2, .int .i64 x3] :: old e :: L) w4 := (h.emb (by repeat' (first | with_reducible exact Emb.same _ | exact Emb.nil _ | refine Emb.cons (by with_reducible first | exact sl0 | exact .there sl0 | exact .there sl1 | exact .there sl2 | exact .there sl3 | exact .there sl4 | exact .there sl5 | exact .there sl6 | exact .there sl7 | exact .there sl8 | exact .there sl9 | exact .there sl10 | exact .there sl11 | exact .there sl12) ?_ | refine Emb.skip ?_)))
    unfold kC at h ⊢
    rw [← hml] at h
    exact h
  have h := kerI (K := { K with mm := r1.2 }) (A := A) ⟨ho.t0, ho.t1, ho.us, ho.sems, ho.datas, ho.pools⟩ h
  refine jn.bool (decide (r1.1.1 = true ∨ r1.1.2 ≠ 0)) (fun J hJ => ?_) (cs.mk (fun hc => ?_) (fun hc => ?_))
  · refine cs.mk (fun hc => ?_) (fun hc => ?_)
    · rw [decide_eq_true (.inl hc)] at hJ; exact hJ
    · rw [show decide (r1.1.1 = true ∨ r1.1.2 ≠ 0) = (r1.1.2 != 0) by rw [show r1.1.1 = false from hc, Bool.eq_iff_iff]; simp] at hJ; exact hJ
  · rw [if_pos (of_decide_eq_true hc)] at hm
    obtain ⟨K', hK, rfl⟩ := Option.map_eq_some_iff.1 hm
    refine call56 (settle_kern h hK fun w5 h => ⟨(), rfl, ?_⟩)
    exact fin_code ((Ok.emb (h) (.cons (A := pts d [.int .i64 0, .int .i64 0]) (by with_reducible first | exact sl0 | exact .there sl0 | exact .there sl1 | exact .there sl2 | exact .there sl3 | exact .there sl4 | exact .there sl5 | exact .there sl6 | exact .there sl7 | exact .there sl8 | exact .there sl9 | exact .there sl10 | exact .there sl11 | exact .there sl12) (.same _)))) fun w6 h => kk w6 (h.emb (by repeat' (first | with_reducible exact Emb.same _ | exact Emb.nil _ | refine Emb.cons (by with_reducible first | exact sl0 | exact .there sl0 | exact .there sl1 | exact .there sl2 | exact .there sl3 | exact .there sl4 | exact .there sl5 | exact .there sl6 | exact .there sl7 | exact .there sl8 | exact .there sl9 | exact .there sl10 | exact .there sl11 | exact .there sl12) ?_ | refine Emb.skip ?_)))
  · rw [if_neg (of_decide_eq_false hc)] at hm
    obtain ⟨K', hK, rfl⟩ := Option.map_eq_some_iff.1 hm
    refine cs.no rfl ?_
    show cl Pg 138 [pV k, .int .i64 7, .int .i64 (clO x0), .int .i64 (-1)] [.a [(.i .i64), (.i .i64)]] w4 _
    rw [hx]
    exact call138 (stay_kern h hK fun w5 h => ⟨(((1 : Int), (0 : Int), ()), ()), rfl, fin_res ((Ok.emb (h) (.cons (A := pts d [.int .i64 0, .int .i64 0]) (by with_reducible first | exact sl0 | exact .there sl0 | exact .there sl1 | exact .there sl2 | exact .there sl3 | exact .there sl4 | exact .there sl5 | exact .there sl6 | exact .there sl7 | exact .there sl8 | exact .there sl9 | exact .there sl10 | exact .there sl11 | exact .there sl12) (.same _)))) fun w6 h => kk w6 (h.emb (by repeat' (first | with_reducible exact Emb.same _ | exact Emb.nil _ | refine Emb.cons (by with_reducible first | exact sl0 | exact .there sl0 | exact .there sl1 | exact .there sl2 | exact .there sl3 | exact .there sl4 | exact .there sl5 | exact .there sl6 | exact .there sl7 | exact .there sl8 | exact .there sl9 | exact .there sl10 | exact .there sl11 | exact .there sl12) ?_ | refine Emb.skip ?_)))⟩)

end Go.Proofs.YtenonfkfoedfmaaGreatDoor.B


/- More calls; the calls by their numbers. -/
namespace Go.Proofs.YtenonfkfoedfmaaGreatDoor.B
open Go
set_option linter.unusedVariables false

theorem mutex_46 {e k A K r x0 x1 x2 x3} (hm : KM.cUnl x0 K = some r) : GrpC e k A K r (sh83 (some ⟨k, 0, none⟩) (((46 : Nat) : Int), x0, x1, x2, x3, ())) := by
  intro L w R h kk
  unfold KM.cUnl at hm
  unfold sh83
  refine al.mk h fun b w1 h => al.mk h fun d w2 h => ⟨by decide, by decide, ldI.mk (h.p1.cell rfl) (ldI.mk (h.p1.cell rfl) (ldI.mk (h.p1.cell rfl) (ldI.mk (h.p1.cell rfl) (ldI.mk (h.p1.cell rfl) (ldI.mk (h.p1.cell rfl) ?_)))))⟩
  refine call141 (a0 := (((46 : Nat) : Int), x0, x1, x2, x3, ())) (timeout_none h (by decide) (by decide) fun w3 h => ⟨((-1 : Int), ()), rfl, ?_⟩)
  obtain ⟨ho, h2⟩ := kerE h.p2
  obtain ⟨_, _, ⟨-, -, h8⟩, -, -⟩ := mmE ((Ok.emb (h2) (.cons (A := mmP A.lk K.mm) (by with_reducible first | exact sl0 | exact .there sl0 | exact .there sl1 | exact .there sl2 | exact .there sl3 | exact .there sl4 | exact .there sl5 | exact .there sl6 | exact .there sl7 | exact .there sl8 | exact .there sl9 | exact .there sl10 | exact .there sl11 | exact .there sl12) (.same _))))
  have hin := clO_in (x := x0) (n := (K.mm.m.length : Int) - 1) (by omega)
  refine jn.bool (decide ¬ (1 ≤ x0 ∧ x0 < K.mm.m.length)) (fun J hJ => ?_) (cs.mk (fun hc => ?_) (fun hc => ?_))
  · refine cs.mk (fun hc => ?_) (fun hc => ?_)
    · have hc : clO x0 < 1 := of_decide_eq_true hc
      rw [decide_eq_true (by omega)] at hJ
      exact hJ
    · have hc : ¬ clO x0 < 1 := of_decide_eq_false hc
      refine nn.mk (ldI.mk (h2.cell rfl) ?_)
      rw [show decide (¬ (1 ≤ x0 ∧ x0 < K.mm.m.length)) = decide ((clO x0 : Int) > (K.mm.m.length : Int) - 1) from decide_eq_decide.2 (by omega)] at hJ
      exact hJ
  · rw [if_pos (of_decide_eq_true hc)] at hm
    cases hm
    exact fin_code h fun w4 h => kk w4 h.drop
  have hc := of_decide_eq_false hc
  rw [if_neg hc] at hm
  obtain ⟨r1, hr1, hm⟩ := Option.bind_eq_some_iff.1 hm
  obtain ⟨K2, hK2, hm⟩ := Option.bind_eq_some_iff.1 hm
  obtain ⟨K3, hK3, rfl⟩ := Option.map_eq_some_iff.1 hm
  refine call136 (late_kern ⟨(true, ()), rfl, cs.no rfl (ldI.mk (h.p1.cell rfl) (cs.yes rfl (dr.mk h2 fun w4 h2 => nn.mk (ldP.mk (h2.cell rfl) (nn.mk (ldI.mk (h2.cell rfl) ?_))))))⟩)
  have hx : clO x0 = x0 := clO_eq (by omega)
  show cl Pg 155 [pV A.lk, .int .i64 (clO x0), .int .i64 K.who] [kI, kI] w4 _
  rw [hx]
  have h2 : Ok e (mmP A.lk K.mm :: pts k (kC A K) :: unitsP A.ub A.us K.us :: semsP A.ss K.sems :: flgP A.fs :: datasP A.ds K.datas :: poolsP A.ps K.pools :: placeP A.pl K.pl :: hnP A.hn K.tic K.up K.tb K.last K.ents :: rdyP A.rq K.rdy :: pts d [.int .i64 0, .int .i64 0] :: pts b [.int .i64 ((46 : Nat) : Int), .int .i64 x0, .int .i64 x1, .int .i64 x2, .int .i64 x3] :: old e :: L) w4 := (Ok.emb (h2) (by repeat' (first | with_reducible exact Emb.same _ | exact Emb.nil _ | refine Emb.cons (by with_reducible first | exact sl0 | exact .there sl0 | exact .there sl1 | exact .there sl2 | exact .there sl3 | exact .there sl4 | exact .there sl5 | exact .there sl6 | exact .there sl7 | exact .there sl8 | exact .there sl9 | exact .there sl10 | exact .there sl11 | exact .there sl12) ?_ | refine Emb.skip ?_)))
  refine call155 (Unlock_mtx h2 hr1 fun w4 h => ⟨(r1.1.1, r1.1.2, ()), rfl, ?_⟩)
  have hml := unlock_len hr1
  have h : Ok e (pts k (kC A { K with mm := r1.2 }) :: unitsP A.ub A.us K.us :: semsP A.ss K.sems :: flgP A.fs :: datasP A.ds K.datas :: poolsP A.ps K.pools :: mmP A.lk r1.2 :: placeP A.pl K.pl :: hnP A.hn K.tic K.up K.tb K.last K.ents :: rdyP A.rq K.rdy :: pts d [.int .i64 0, .int .i64 0] :: pts b [.int .i64 ((46 : Nat) : Int), .int .i64 x0, .int .i64 x1, .int .i64 x2, .int .i64 x3] :: old e :: L) w4 := by
    have h : Ok e (pts k (kC A K) :: unitsP A.ub A.us K.us :: semsP A.ss K.sems :: flgP A.fs :: datasP A.ds K.datas :: poolsP A.ps K.pools :: mmP A.lk r1.2 :: placeP A.pl K.pl :: hnP A.hn K.tic K.up K.tb K.last K.ents :: rdyP A.rq K.rdy :: pts d [.int .i64 0, .int .i64 0] :: pts b [.int .i64 ((46 : Nat) : Int), .int .i64 x0, .int .i64 x1, .int .i64 x2, .int .i64 x3] :: old e :: L) w4 := (h.emb (by repeat' (first | with_reducible exact Emb.same _ | exact Emb.nil _ | refine Emb.cons (by with_reducible first | exact sl0 | exact .there sl0 | exact .there sl1 | exact .there sl2 | exact .there sl3 | exact .there sl4 | exact .there sl5 | exact .there sl6 | exact .there sl7 | exact .there sl8 | exact .there sl9 | exact .there sl10 | exact .there sl11 | exact .there sl12) ?_ | refine Emb.skip ?_)))
    unfold kC at h ⊢
    rw [← hml] at h
    exact h
  have h := kerI (K := { K with mm := r1.2 }) (A := A) ⟨ho.t0, ho.t1, ho.us, ho.sems, ho.datas, ho.pools⟩ h
  refine al.mk h fun f w5 h => ?_
  have h := slcOf (l := [r1.1.1]) h
  refine call143 (a2 := ⟨some ⟨f, 0, none⟩, 1, 1⟩) (woken_kern (l := [r1.1.1]) h.p1 (by simp) hK2 fun w6 h => ⟨(), rfl, ?_⟩)
  refine call56 (settle_kern h hK3 fun w7 h => ⟨(), rfl, ?_⟩)
  exact fin_code ((Ok.emb (h) (.cons (A := pts d [.int .i64 0, .int .i64 0]) (by with_reducible first | exact sl0 | exact .there sl0 | exact .there sl1 | exact .there sl2 | exact .there sl3 | exact .there sl4 | exact .there sl5 | exact .there sl6 | exact .there sl7 | exact .there sl8 | exact .there sl9 | exact .there sl10 | exact .there sl11 | exact .there sl12) (.same _)))) fun w6 h => kk w6 (h.emb (by repeat' (first | with_reducible exact Emb.same _ | exact Emb.nil _ | refine Emb.cons (by with_reducible first | exact sl0 | exact .there sl0 | exact .there sl1 | exact .there sl2 | exact .there sl3 | exact .there sl4 | exact .there sl5 | exact .there sl6 | exact .there sl7 | exact .there sl8 | exact .there sl9 | exact .there sl10 | exact .there sl11 | exact .there sl12) ?_ | refine Emb.skip ?_)))

theorem do_10 {e} (tb : TabE e) : DoC e 10 1 fun _ _ => KM.cTid := by
  intro k A K r L w x0 x1 x2 x3 R h hm kk
  exact Do_kern (n := 10) tb rfl (by decide) h hm (fun r hr => .inl ⟨by decide, tasks_10 hr⟩) kk

theorem do_11 {e} (tb : TabE e) : DoC e 11 3 fun _ _ => KM.cItid := by
  intro k A K r L w x0 x1 x2 x3 R h hm kk
  exact Do_kern (n := 11) tb rfl (by decide) h hm (fun r hr => .inl ⟨by decide, tasks_11 hr⟩) kk

theorem do_7 {e} (tb : TabE e) : DoC e 7 1 fun x0 _ => KM.cPri x0 := by
  intro k A K r L w x0 x1 x2 x3 R h hm kk
  exact Do_kern (n := 7) tb rfl (by decide) h hm (fun r hr => .inl ⟨by decide, tasks_7 hr⟩) kk

theorem do_1 {e} (tb : TabE e) : DoC e 1 1 fun x0 _ => KM.cAct x0 := by
  intro k A K r L w x0 x1 x2 x3 R h hm kk
  exact Do_kern (n := 1) tb rfl (by decide) h hm (fun r hr => .inl ⟨by decide, tasks_1 hr⟩) kk

theorem do_4 {e} (tb : TabE e) : DoC e 4 4 fun _ _ => KM.cExt := by
  intro k A K r L w x0 x1 x2 x3 R h hm kk
  exact Do_kern (n := 4) tb rfl (by decide) h hm (fun r hr => .inl ⟨by decide, tasks_4 hr⟩) kk

theorem do_43 {e} (tb : TabE e) : DoC e 43 2 fun x0 _ => KM.cLoc x0 := by
  intro k A K r L w x0 x1 x2 x3 R h hm kk
  exact Do_kern (n := 43) tb rfl (by decide) h hm (fun r hr => .inr (.inr (.inr (.inr (.inl ⟨by decide, by decide, mutex_43 hr⟩))))) kk

theorem do_46 {e} (tb : TabE e) : DoC e 46 1 fun x0 _ => KM.cUnl x0 := by
  intro k A K r L w x0 x1 x2 x3 R h hm kk
  exact Do_kern (n := 46) tb rfl (by decide) h hm (fun r hr => .inr (.inr (.inr (.inr (.inl ⟨by decide, by decide, mutex_46 hr⟩))))) kk

theorem do_61 {e} (tb : TabE e) : DoC e 61 0 fun _ _ => cIn := by
  intro k A K r L w x0 x1 x2 x3 R h hm kk
  exact Do_kern (n := 61) tb rfl (by decide) h hm (fun r hr => .inr (.inr (.inr (.inr (.inr (.inr (.inr ⟨by decide, state_61 hr⟩))))))) kk

theorem Mtx_kern {e w L k A K R} {o : Int} (h : Ok e (kerP k A K :: L) w) (ho : 1 ≤ o ∧ o < K.mm.m.length) (hb : (K.mm.waiting o).length ≤ 2 ^ 20) (kk : ∀ s w', s.len = (K.mm.waiting o).length → Ok e (slc 1 s (ints (K.mm.waiting o)) :: kerP k A K :: L) w' → R [.int .i64 (K.mm.owner o), vS s, .int .i64 0] w') : sh29 (some ⟨k, 0, none⟩) o R w := by
  obtain ⟨hk, h⟩ := kerE h
  unfold sh29
  refine jn.bool false (fun J hJ => cs.no (decide_eq_false (by omega)) (nn.mk (ldI.mk (h.cell rfl) ?_))) (cs.no rfl (dr.mk h fun w1 h => nn.mk (ldP.mk (h.cell rfl) (nn.mk (ldP.mk (h.cell rfl) ?_)))))
  · rw [show decide ((o : Int) > (K.mm.m.length : Int) - 1) = false from decide_eq_false (by omega)]
    exact hJ
  refine call34 (Owner_mtx ((Ok.emb (h) (.cons (A := mmP A.lk K.mm) (by with_reducible first | exact sl0 | exact .there sl0 | exact .there sl1 | exact .there sl2 | exact .there sl3 | exact .there sl4 | exact .there sl5 | exact .there sl6 | exact .there sl7 | exact .there sl8 | exact .there sl9 | exact .there sl10 | exact .there sl11 | exact .there sl12) (.same _)))) ⟨(K.mm.owner o, ()), rfl, h.cell rfl, ?_⟩)
  refine call33 (Waiting_mtx ((Ok.emb (h) (.cons (A := mmP A.lk K.mm) (by with_reducible first | exact sl0 | exact .there sl0 | exact .there sl1 | exact .there sl2 | exact .there sl3 | exact .there sl4 | exact .there sl5 | exact .there sl6 | exact .there sl7 | exact .there sl8 | exact .there sl9 | exact .there sl10 | exact .there sl11 | exact .there sl12) (.same _)))) hb fun s w2 hs h => ⟨(s, ()), rfl, kk s w2 hs ?_⟩)
  exact (kerI (A := A) hk (h.emb (by repeat' (first | with_reducible exact Emb.same _ | exact Emb.nil _ | refine Emb.cons (by with_reducible first | exact sl0 | exact .there sl0 | exact .there sl1 | exact .there sl2 | exact .there sl3 | exact .there sl4 | exact .there sl5 | exact .there sl6 | exact .there sl7 | exact .there sl8 | exact .there sl9 | exact .there sl10 | exact .there sl11 | exact .there sl12) ?_ | refine Emb.skip ?_)))).p1

end Go.Proofs.YtenonfkfoedfmaaGreatDoor.B

