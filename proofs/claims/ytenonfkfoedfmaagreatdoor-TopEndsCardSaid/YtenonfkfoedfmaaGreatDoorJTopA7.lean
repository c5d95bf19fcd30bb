/- Texts of ours, joined: New2, Top, Top2, Del, Law, DelW, TopLaid, Row. -/
import Derived.Below
import Derived.ChangeOld
import Derived.ChangeShapes
import Derived.Deep.Slices
import Derived.FnData
import Derived.JoinedOf
import Derived.KernelRfl
import Derived.LaidLaws
import Derived.LaidMore
import Derived.MakeChecks
import Derived.OpenShut
import Derived.ProofKit
import Derived.Test.YtenonfkfoedfmaaGreatDoorRows
import Derived.Test.YtenonfkfoedfmaaGreatDoorJTopA6
set_option linter.unusedSimpArgs false
set_option linter.unusedVariables false
/- A kernel is made: the whole. -/
namespace Go.Proofs.YtenonfkfoedfmaaGreatDoor.B
open Go
set_option linter.unusedVariables false

/-- what is done of a new kernel, behind its block -/
def tailX (R : List Value → World → Prop) (b1 k : Nat) (w24 : World) : Prop :=
 dr w24 fun w25 =>
 nn (some ⟨k, 0, none⟩) fun b26 o27 =>
 ldI w25 .i64 b1 0 fun n28 =>
 ldS w25 b1 (0 + 1) fun s29 =>
 ldS w25 b1 (0 + 2) fun s30 =>
 ldS w25 b1 (0 + 3) fun s31 =>
 ldS w25 b1 (0 + 4) fun s32 =>
 ldS w25 b1 (0 + 5) fun s33 =>
 ldS w25 b1 (0 + 6) fun s34 =>
 ldS w25 b1 (0 + 7) fun s35 =>
 ldI w25 .i64 b1 (0 + 8) fun n36 =>
 cl Pg 100 [.pointer (some ⟨b26, o27, none⟩), .agg #[.int .i64 n28, vS s29, vS s30, vS s31, vS s32, vS s33, vS s34, vS s35, .int .i64 n36]] [] w25 fun (r37 : Unit) w38 =>
 ldI w38 .i64 b1 0 fun n39 =>
 cl Pg 101 [.int .i64 n39] [kP, kI] w38 fun (r40 : Option Addr × Int × Unit) w41 =>
 nn (some ⟨k, 0, none⟩) fun b42 o43 =>
 st1 w41 b42 (o43 + 7) (.pointer r40.1) fun w44 =>
 ldS w44 b1 (0 + 7) fun s45 =>
 lp [kI] w44 ((0 : Int), ()) fun (t46 : Int × Unit) J47 w48 =>
 cs (decide ((t46.1 : Int) < ((s45.len : Int) : Int))) (
 ix s45 t46.1 4 fun b49 o50 =>
 ldI w48 .i64 b49 o50 fun n51 =>
 ldI w48 .i64 b49 (o50 + 1) fun n52 =>
 ldB w48 b49 (o50 + 2) fun b53 =>
 ldB w48 b49 (o50 + 3) fun b54 =>
 al w48 192 [.int .i64 0, .int .i64 0, .bool false, .bool false] fun b55 w56 =>
 st1 w56 b55 0 (.int .i64 n51) fun w57 =>
 st1 w57 b55 (0 + 1) (.int .i64 n52) fun w58 =>
 st1 w58 b55 (0 + 2) (.bool b53) fun w59 =>
 st1 w59 b55 (0 + 3) (.bool b54) fun w60 =>
 dr w60 fun w61 =>
 nn (some ⟨k, 0, none⟩) fun b62 o63 =>
 ldP w61 b62 (o63 + 7) fun p64 =>
 ldI w61 .i64 b55 0 fun n65 =>
 ldI w61 .i64 b55 (0 + 1) fun n66 =>
 ldB w61 b55 (0 + 2) fun b67 =>
 ldB w61 b55 (0 + 3) fun b68 =>
 cl Pg 102 [.pointer p64, .int .i64 n65, .int .i64 n66, .bool b67, .bool b68] [kI, kI] w61 fun (r69 : Int × Int × Unit) w70 =>
 J47 (w64 (t46.1 + 1), ()) w70) (
 ldI w48 .i64 b1 (0 + 8) fun n71 =>
 lp [kI] w48 ((0 : Int), ()) fun (t72 : Int × Unit) J73 w74 =>
 cs (decide ((t72.1 : Int) < (n71 : Int))) (
 nn (some ⟨k, 0, none⟩) fun b75 o76 =>
 ldP w74 b75 (o76 + 7) fun p77 =>
 cl Pg 103 [.pointer p77] [kI, kI] w74 fun (r78 : Int × Int × Unit) w79 =>
 J73 (w64 (t72.1 + 1), ()) w79) (
 ldS w74 b1 (0 + 1) fun s80 =>
 lp [kI] w74 ((0 : Int), ()) fun (t81 : Int × Unit) J82 w83 =>
 cs (decide ((t81.1 : Int) < ((s80.len : Int) : Int))) (
 ix s80 t81.1 2 fun b84 o85 =>
 ldI w83 .i64 b84 o85 fun n86 =>
 ldB w83 b84 (o85 + 1) fun b87 =>
 al w83 45 [.int .i64 0, .bool false] fun b88 w89 =>
 st1 w89 b88 0 (.int .i64 n86) fun w90 =>
 st1 w90 b88 (0 + 1) (.bool b87) fun w91 =>
 dr w91 fun w92 =>
 nn (some ⟨k, 0, none⟩) fun b93 o94 =>
 ldP w92 b93 (o94 + 5) fun p95 =>
 ldI w92 .i64 b88 0 fun n96 =>
 cl Pg 31 [.pointer p95, .int .i64 (w64 (t81.1 + 1)), .int .i64 n96] [kI] w92 fun (r97 : Int × Unit) w98 =>
 dr w98 fun w99 =>
 nn (some ⟨k, 0, none⟩) fun b100 o101 =>
 ldS w99 b100 (o101 + 9) fun s102 =>
 ldI w99 .i64 b88 0 fun n103 =>
 ldI w99 .i64 b88 0 fun n104 =>
 cl Pg 104 [] [kP] w99 fun (r105 : Option Addr × Unit) w106 =>
(w106.cell? ⟨b88, 0, none⟩ = some (.int .i64 n104)) ∧ (
(w106.cell? ⟨b88, 0, none⟩ = some (.int .i64 n103)) ∧ (
(w106.cell? ⟨b100, o101 + 9, none⟩ = some (vS s102)) ∧ (
 al w106 137 [.pointer r105.1, .int .i64 n103, .int .i64 n104, .int .i64 0, .int .i64 0, .int .i64 0, .int .i64 0, .int .i64 0] fun b107 w108 =>
(w108.cell? ⟨b100, o101 + 9, none⟩ = some (vS s102)) ∧ (
 al w108 138 [.pointer (some ⟨b107, 0, none⟩)] fun b109 w110 =>
(w110.cell? ⟨b100, o101 + 9, none⟩ = some (vS s102)) ∧ (
 ef Pg (Builtin.append_ #[130, 130] 130 #[vS s102, vS ⟨some ⟨b109, 0, none⟩, 1, 1⟩]) [kS] w110 fun (r111 : Sl × Unit) w112 =>
 nn (some ⟨k, 0, none⟩) fun b113 o114 =>
 st1 w112 b113 (o114 + 9) (vS r111.1) fun w115 =>
 J82 (w64 (t81.1 + 1), ()) w115)))))) (
 ldS w83 b1 (0 + 1) fun s116 =>
 lp [kI] w83 ((0 : Int), ()) fun (t117 : Int × Unit) J118 w119 =>
 cs (decide ((t117.1 : Int) < ((s116.len : Int) : Int))) (
 ix s116 t117.1 2 fun b120 o121 =>
 ldI w119 .i64 b120 o121 fun n122 =>
 ldB w119 b120 (o121 + 1) fun b123 =>
 al w119 45 [.int .i64 0, .bool false] fun b124 w125 =>
 st1 w125 b124 0 (.int .i64 n122) fun w126 =>
 st1 w126 b124 (0 + 1) (.bool b123) fun w127 =>
 ldB w127 b124 (0 + 1) fun b128 =>
 cs b128 (
 cl Pg 105 [.pointer (some ⟨k, 0, none⟩), .int .i64 (w64 (t117.1 + 1))] [kI] w127 fun (r129 : Int × Unit) w130 =>
 J118 (w64 (t117.1 + 1), ()) w130) (
 J118 (w64 (t117.1 + 1), ()) w127)) (
 cl Pg 57 [.pointer (some ⟨k, 0, none⟩)] [] w119 fun (r131 : Unit) w132 =>
 R [.pointer (some ⟨k, 0, none⟩), .int .i64 0] w132))))

set_option maxHeartbeats 2000000 in
theorem New_kern {e w L c S K R} (tb : TabE e) (h : Ok e (cfR c S (old e :: L)) w) (hc : CfOk c) (hm : KM.new c = some K) (kk : ∀ k A w', Ok e (kerP k A K :: cfR c S (old e :: L)) w' → R [pV k, .int .i64 0] w') : sh51 (cfV c S) R w := by
  unfold sh51
  have l1 : c.tasks.length = S.ts.len := slc_flat_len taC_len (by decide) h
  have htl := hc.tl
  refine al.mk h fun b w1 h => ?_
  have h : Ok e (pts b (cfC c S) :: cfR c S (old e :: L)) w1 := h
  refine ldI.mk (h.cell rfl) (ldS.mk (h.cell rfl) (ldS.mk (h.cell rfl) (ldS.mk (h.cell rfl) (ldS.mk (h.cell rfl) (ldS.mk (h.cell rfl) (ldS.mk (h.cell rfl) (ldS.mk (h.cell rfl) (ldI.mk (h.cell rfl) ?_))))))))
  have h : Ok e (cfR c S (pts b (cfC c S) :: old e :: L)) w1 := (h.emb (by repeat' (first | with_reducible exact Emb.same _ | exact Emb.nil _ | refine Emb.cons (by with_reducible first | exact sl0 | exact .there sl0 | exact .there sl1 | exact .there sl2 | exact .there sl3 | exact .there sl4 | exact .there sl5 | exact .there sl6 | exact .there sl7 | exact .there sl8 | exact .there sl9 | exact .there sl10 | exact .there sl11 | exact .there sl12) ?_ | refine Emb.skip ?_)))
  refine call98 (a0 := cfV c S) (Check_conf h hc fun w2 h => ⟨(bs [], (0 : Int), (0 : Int), ()), rfl, cs.no rfl (dr.mk h fun w3 h => ldS.mk (by refine Ok.cellS h (by with_reducible first | exact sl0 | exact .there sl0 | exact .there sl1 | exact .there sl2 | exact .there sl3 | exact .there sl4 | exact .there sl5 | exact .there sl6 | exact .there sl7 | exact .there sl8 | exact .there sl9 | exact .there sl10 | exact .there sl11 | exact .there sl12) ?_; rfl) (ldI.mk (by refine Ok.cellS h (by with_reducible first | exact sl0 | exact .there sl0 | exact .there sl1 | exact .there sl2 | exact .there sl3 | exact .there sl4 | exact .there sl5 | exact .there sl6 | exact .there sl7 | exact .there sl8 | exact .there sl9 | exact .there sl10 | exact .there sl11 | exact .there sl12) ?_; rfl) ?_))⟩)
  obtain ⟨KT, hT, hm⟩ := Option.map_eq_some_iff.1 hm
  obtain ⟨K1, hK1, hA⟩ := Option.bind_eq_some_iff.1 hT
  have tail : ∀ (k v p r : Nat) w4, Ok e (pts k [vS ⟨none, 0, 0⟩, vS ⟨none, 0, 0⟩, vS ⟨none, 0, 0⟩, vS ⟨none, 0, 0⟩, .int .i64 0, .pointer none, pV p, .pointer none, pV r, vS ⟨some ⟨v, 0, none⟩, 1, 1⟩, .int .i64 0, .int .i64 0, .int .i64 0] :: pts v [.pointer none] :: placeP p ⟨[], false, false⟩ :: rdyP r [] :: pts b (cfC c S) :: cfR c S (old e :: L)) w4 → tailX R b k w4 := by
    intro k v p r w4 h
    unfold tailX
    refine dr.mk h fun w5 h => nn.mk (ldI.mk (by refine Ok.cellS h (by with_reducible first | exact sl0 | exact .there sl0 | exact .there sl1 | exact .there sl2 | exact .there sl3 | exact .there sl4 | exact .there sl5 | exact .there sl6 | exact .there sl7 | exact .there sl8 | exact .there sl9 | exact .there sl10 | exact .there sl11 | exact .there sl12) ?_; rfl) (ldS.mk (by refine Ok.cellS h (by with_reducible first | exact sl0 | exact .there sl0 | exact .there sl1 | exact .there sl2 | exact .there sl3 | exact .there sl4 | exact .there sl5 | exact .there sl6 | exact .there sl7 | exact .there sl8 | exact .there sl9 | exact .there sl10 | exact .there sl11 | exact .there sl12) ?_; rfl) (ldS.mk (by refine Ok.cellS h (by with_reducible first | exact sl0 | exact .there sl0 | exact .there sl1 | exact .there sl2 | exact .there sl3 | exact .there sl4 | exact .there sl5 | exact .there sl6 | exact .there sl7 | exact .there sl8 | exact .there sl9 | exact .there sl10 | exact .there sl11 | exact .there sl12) ?_; rfl) (ldS.mk (by refine Ok.cellS h (by with_reducible first | exact sl0 | exact .there sl0 | exact .there sl1 | exact .there sl2 | exact .there sl3 | exact .there sl4 | exact .there sl5 | exact .there sl6 | exact .there sl7 | exact .there sl8 | exact .there sl9 | exact .there sl10 | exact .there sl11 | exact .there sl12) ?_; rfl) (ldS.mk (by refine Ok.cellS h (by with_reducible first | exact sl0 | exact .there sl0 | exact .there sl1 | exact .there sl2 | exact .there sl3 | exact .there sl4 | exact .there sl5 | exact .there sl6 | exact .there sl7 | exact .there sl8 | exact .there sl9 | exact .there sl10 | exact .there sl11 | exact .there sl12) ?_; rfl) (ldS.mk (by refine Ok.cellS h (by with_reducible first | exact sl0 | exact .there sl0 | exact .there sl1 | exact .there sl2 | exact .there sl3 | exact .there sl4 | exact .there sl5 | exact .there sl6 | exact .there sl7 | exact .there sl8 | exact .there sl9 | exact .there sl10 | exact .there sl11 | exact .there sl12) ?_; rfl) (ldS.mk (by refine Ok.cellS h (by with_reducible first | exact sl0 | exact .there sl0 | exact .there sl1 | exact .there sl2 | exact .there sl3 | exact .there sl4 | exact .there sl5 | exact .there sl6 | exact .there sl7 | exact .there sl8 | exact .there sl9 | exact .there sl10 | exact .there sl11 | exact .there sl12) ?_; rfl) (ldS.mk (by refine Ok.cellS h (by with_reducible first | exact sl0 | exact .there sl0 | exact .there sl1 | exact .there sl2 | exact .there sl3 | exact .there sl4 | exact .there sl5 | exact .there sl6 | exact .there sl7 | exact .there sl8 | exact .there sl9 | exact .there sl10 | exact .there sl11 | exact .there sl12) ?_; rfl) (ldI.mk (by refine Ok.cellS h (by with_reducible first | exact sl0 | exact .there sl0 | exact .there sl1 | exact .there sl2 | exact .there sl3 | exact .there sl4 | exact .there sl5 | exact .there sl6 | exact .there sl7 | exact .there sl8 | exact .there sl9 | exact .there sl10 | exact .there sl11 | exact .there sl12) ?_; rfl) ?_)))))))))
    have h : Ok e (pts k [vS ⟨none, 0, 0⟩, vS ⟨none, 0, 0⟩, vS ⟨none, 0, 0⟩, vS ⟨none, 0, 0⟩, .int .i64 0, .pointer none, pV p, .pointer none, pV r, vS ⟨some ⟨v, 0, none⟩, 1, 1⟩, .int .i64 0, .int .i64 0, .int .i64 0] :: cfR c S (pts b (cfC c S) :: pts v [.pointer none] :: placeP p ⟨[], false, false⟩ :: rdyP r [] :: old e :: L)) w5 := (h.emb (by repeat' (first | with_reducible exact Emb.same _ | exact Emb.nil _ | refine Emb.cons (by with_reducible first | exact sl0 | exact .there sl0 | exact .there sl1 | exact .there sl2 | exact .there sl3 | exact .there sl4 | exact .there sl5 | exact .there sl6 | exact .there sl7 | exact .there sl8 | exact .there sl9 | exact .there sl10 | exact .there sl11 | exact .there sl12) ?_ | refine Emb.skip ?_)))
    refine call100 (a1 := cfV c S) (build_kern h hc fun ss ds ps lk w6 h => ⟨(), rfl, ldI.mk (by refine Ok.cellS h (by with_reducible first | exact sl0 | exact .there sl0 | exact .there sl1 | exact .there sl2 | exact .there sl3 | exact .there sl4 | exact .there sl5 | exact .there sl6 | exact .there sl7 | exact .there sl8 | exact .there sl9 | exact .there sl10 | exact .there sl11 | exact .there sl12) ?_; rfl) ?_⟩)
    refine call101 (NewHands_cyc h hc.tic fun hn w7 h => ⟨(some ⟨hn, 0, none⟩, (0 : Int), ()), rfl, nn.mk (st1.mk h.p1 (by simp) fun w8 h => ldS.mk (by refine Ok.cellS h (by with_reducible first | exact sl0 | exact .there sl0 | exact .there sl1 | exact .there sl2 | exact .there sl3 | exact .there sl4 | exact .there sl5 | exact .there sl6 | exact .there sl7 | exact .there sl8 | exact .there sl9 | exact .there sl10 | exact .there sl11 | exact .there sl12) ?_; rfl) ?_)⟩)
    refine lp.mk (fun t w1 => @Eq Int t.1 0 ∧ w1 = w8) (fun _ _ => 0) ⟨rfl, rfl⟩ ?_
    rintro ⟨(t : Int), _⟩ w9 ⟨(rfl : t = 0), rfl⟩
    refine cs.no rfl (ldI.mk (by refine Ok.cellS h (by with_reducible first | exact sl0 | exact .there sl0 | exact .there sl1 | exact .there sl2 | exact .there sl3 | exact .there sl4 | exact .there sl5 | exact .there sl6 | exact .there sl7 | exact .there sl8 | exact .there sl9 | exact .there sl10 | exact .there sl11 | exact .there sl12) ?_; rfl) ?_)
    refine lp.mk (fun t w1 => @Eq Int t.1 0 ∧ w1 = w9) (fun _ _ => 0) ⟨rfl, rfl⟩ ?_
    rintro ⟨(t : Int), _⟩ w10 ⟨(rfl : t = 0), rfl⟩
    refine cs.no rfl (ldS.mk (by refine Ok.cellS h (by with_reducible first | exact sl0 | exact .there sl0 | exact .there sl1 | exact .there sl2 | exact .there sl3 | exact .there sl4 | exact .there sl5 | exact .there sl6 | exact .there sl7 | exact .there sl8 | exact .there sl9 | exact .there sl10 | exact .there sl11 | exact .there sl12) ?_; rfl) ?_)
    have hk : ∃ A, Ok e (kerP k A (KM.new0 c) :: pts b (cfC c S) :: cfR c S (old e :: L)) w10 := by
      refine ⟨⟨ss, ⟨none, 0, 0⟩, ds, ps, ⟨some ⟨v, 0, none⟩, 1, 1⟩, fun _ => 0, lk, p, hn, r⟩, ?_⟩
      refine kerI ⟨by show 0 ≤ c.tic; have := hc.tic; omega, hc.tic.2, by simp [KM.new0], by simp [KM.new0]; exact hc.sl, by simp [KM.new0]; exact hc.dl, by simp [KM.new0, layout_len]; exact hc.pl⟩ ?_
      have e1 : (((KM.new0 c).mm.m.length : Int) - 1) = (c.mtxs.length : Int) := by simp [KM.new0, MM.new]
      show Ok e (pts k [vS ss, vS ⟨none, 0, 0⟩, vS ds, vS ps, .int .i64 (((KM.new0 c).mm.m.length : Int) - 1), pV lk, pV p, pV hn, pV r, vS ⟨some ⟨v, 0, none⟩, 1, 1⟩, .int .i64 0, .int .i64 0, .int .i64 0] :: ptrsB unP [.pointer none] un0 (fun _ => 0) ⟨some ⟨v, 0, none⟩, 1, 1⟩ [] :: semsP ss (c.sems.map semN) :: slc 1 ⟨none, 0, 0⟩ [] :: datasP ds (c.datas.map datN) :: poolsP ps (List.zipWith poolN (layoutM 0 c.pools) c.pools) :: mmP lk (MM.new c.mtxs) :: placeP p ⟨[], false, false⟩ :: hnP hn c.tic 0 0 0 [] :: rdyP r [] :: pts b (cfC c S) :: cfR c S (old e :: L)) w10
      rw [e1]
      have h : Ok e (pts k [vS ss, vS ⟨none, 0, 0⟩, vS ds, vS ps, .int .i64 (c.mtxs.length : Int), pV lk, pV p, pV hn, pV r, vS ⟨some ⟨v, 0, none⟩, 1, 1⟩, .int .i64 0, .int .i64 0, .int .i64 0] :: hnP hn c.tic 0 0 0 [] :: semsP ss (c.sems.map semN) :: datasP ds (c.datas.map datN) :: poolsP ps (List.zipWith poolN (layoutM 0 c.pools) c.pools) :: mmP lk (MM.new c.mtxs) :: cfR c S (pts b (cfC c S) :: pts v [.pointer none] :: placeP p ⟨[], false, false⟩ :: rdyP r [] :: old e :: L)) w10 := h
      have h := ((Ok.emb (h) (.cons (A := pts v [.pointer none]) (by with_reducible first | exact sl0 | exact .there sl0 | exact .there sl1 | exact .there sl2 | exact .there sl3 | exact .there sl4 | exact .there sl5 | exact .there sl6 | exact .there sl7 | exact .there sl8 | exact .there sl9 | exact .there sl10 | exact .there sl11 | exact .there sl12) (.same _)))).slcNew (sz := 1) (n := 1) rfl (by simp; rfl)
      have h := ptrsB_nil (P := unP) (d := un0) (bs := fun _ => 0) h
      have h := h.slcNil 1
      exact (h.emb (by repeat' (first | with_reducible exact Emb.same _ | exact Emb.nil _ | refine Emb.cons (by with_reducible first | exact sl0 | exact .there sl0 | exact .there sl1 | exact .there sl2 | exact .there sl3 | exact .there sl4 | exact .there sl5 | exact .there sl6 | exact .there sl7 | exact .there sl8 | exact .there sl9 | exact .there sl10 | exact .there sl11 | exact .there sl12) ?_ | refine Emb.skip ?_)))
    obtain ⟨A0, hk⟩ := hk
    clear h
    refine lp.mk (fun t w1 => ∃ (i : Nat) (A : KA) (Ki : KM), @Eq Int t.1 (i : Int) ∧ i ≤ c.tasks.length ∧ Ki.us.length = i ∧ KM.newT i (c.tasks.drop i) Ki = some K1 ∧ Ok e (kerP k A Ki :: pts b (cfC c S) :: cfR c S (old e :: L)) w1)
      (fun t _ => Int.toNat (Int.sub c.tasks.length t.1)) ⟨0, A0, KM.new0 c, rfl, by omega, rfl, hK1, hk⟩ ?_
    rintro ⟨(t : Int), _⟩ w5 ⟨i, A, Ki, (rfl : t = (i : Int)), hi, hu, hT, h⟩
    dsimp only
    obtain ⟨ho, h⟩ := kerE h
    refine cs.mk (fun h2 => ?_) (fun h2 => ?_)
    · have h2 : i < c.tasks.length := by have := of_decide_eq_true h2; omega
      rw [List.drop_eq_getElem_cons h2] at hT
      obtain ⟨b2, hb, hT⟩ := Option.bind_eq_some_iff.1 hT
      refine ix_flat taC_len (by decide) ((Ok.emb (h) (.cons (A := slc 2 S.ts (flat taC c.tasks)) (by with_reducible first | exact sl0 | exact .there sl0 | exact .there sl1 | exact .there sl2 | exact .there sl3 | exact .there sl4 | exact .there sl5 | exact .there sl6 | exact .there sl7 | exact .there sl8 | exact .there sl9 | exact .there sl10 | exact .there sl11 | exact .there sl12) (.same _)))) (by omega) (by omega) fun b3 o2 y hy _ _ hc2 => ?_
      rw [Int.toNat_natCast, List.getElem?_eq_getElem h2] at hy
      cases hy
      have r1 := hc2 0 _ rfl w5 ⟨_, (Ok.emb (h) (.cons (A := slc 2 S.ts (flat taC c.tasks)) (by with_reducible first | exact sl0 | exact .there sl0 | exact .there sl1 | exact .there sl2 | exact .there sl3 | exact .there sl4 | exact .there sl5 | exact .there sl6 | exact .there sl7 | exact .there sl8 | exact .there sl9 | exact .there sl10 | exact .there sl11 | exact .there sl12) (.same _)))⟩
      have r2 := hc2 1 _ rfl w5 ⟨_, (Ok.emb (h) (.cons (A := slc 2 S.ts (flat taC c.tasks)) (by with_reducible first | exact sl0 | exact .there sl0 | exact .there sl1 | exact .there sl2 | exact .there sl3 | exact .there sl4 | exact .there sl5 | exact .there sl6 | exact .there sl7 | exact .there sl8 | exact .there sl9 | exact .there sl10 | exact .there sl11 | exact .there sl12) (.same _)))⟩
      refine ldI.mk r1 (ldB.mk r2 (al.mk h fun d w6 h => st1.mk h (by simp) fun w6 h => st1.mk h (by simp) fun w6 h => dr.mk h fun w7 h => nn.mk (ldP.mk (h.p1.cell rfl) (ldI.mk (h.cell rfl) ?_))))
      rw [w64_in (x := (i : Int) + 1) (by omega) (by omega)]
      have hfr := setBase_len hb
      refine call31 (SetBase_mtx ((Ok.emb (h) (.cons (A := mmP A.lk Ki.mm) (by with_reducible first | exact sl0 | exact .there sl0 | exact .there sl1 | exact .there sl2 | exact .there sl3 | exact .there sl4 | exact .there sl5 | exact .there sl6 | exact .there sl7 | exact .there sl8 | exact .there sl9 | exact .there sl10 | exact .there sl11 | exact .there sl12) (.same _)))) hb fun w8 h => ⟨(b2.1, ()), rfl, ?_⟩)
      have h : Ok e (pts d [.int .i64 c.tasks[i].1, .bool c.tasks[i].2] :: pts k (kC A Ki) :: mmP A.lk b2.2 :: unitsP A.ub A.us Ki.us :: semsP A.ss Ki.sems :: flgP A.fs :: datasP A.ds Ki.datas :: poolsP A.ps Ki.pools :: placeP A.pl Ki.pl :: hnP A.hn Ki.tic Ki.up Ki.tb Ki.last Ki.ents :: rdyP A.rq Ki.rdy :: pts b (cfC c S) :: cfR c S (old e :: L)) w8 := (h.emb (by repeat' (first | with_reducible exact Emb.same _ | exact Emb.nil _ | refine Emb.cons (by with_reducible first | exact sl0 | exact .there sl0 | exact .there sl1 | exact .there sl2 | exact .there sl3 | exact .there sl4 | exact .there sl5 | exact .there sl6 | exact .there sl7 | exact .there sl8 | exact .there sl9 | exact .there sl10 | exact .there sl11 | exact .there sl12) ?_ | refine Emb.skip ?_)))
      refine dr.mk h fun w9 h => nn.mk (ldS.mk (h.p1.cell rfl) (ldI.mk (h.cell rfl) (ldI.mk (h.cell rfl) ?_)))
      refine call104 (New_tcb h fun t w10 h => ⟨(some ⟨t, 0, none⟩, ()), rfl, h.p1.cell rfl, h.p1.cell rfl, h.p2.cell rfl, ?_⟩)
      refine al.mk h fun f w11 h => ⟨h.p3.cell rfl, ?_⟩
      have h := unI (u := KM.unNew c.tasks[i].1) (b := f) (t := t) h
      have hul := ptrsB_len ((Ok.emb (h) (.cons (A := unitsP A.ub A.us Ki.us) (by with_reducible first | exact sl0 | exact .there sl0 | exact .there sl1 | exact .there sl2 | exact .there sl3 | exact .there sl4 | exact .there sl5 | exact .there sl6 | exact .there sl7 | exact .there sl8 | exact .there sl9 | exact .there sl10 | exact .there sl11 | exact .there sl12) (.same _))))
      refine al.mk h fun g w12 h => ⟨h.p3.cell rfl, ?_⟩
      refine ef.appendPtrB (P := unP) (pre := [.pointer none]) (a := KM.unNew c.tasks[i].1) slT_unitp ((Ok.emb (h) (.cons (A := pts g [pV f]) (by with_reducible first | exact sl0 | exact .there sl0 | exact .there sl1 | exact .there sl2 | exact .there sl3 | exact .there sl4 | exact .there sl5 | exact .there sl6 | exact .there sl7 | exact .there sl8 | exact .there sl9 | exact .there sl10 | exact .there sl11 | exact .there sl12) (.cons (A := unP f (KM.unNew c.tasks[i].1)) (by with_reducible first | exact sl0 | exact .there sl0 | exact .there sl1 | exact .there sl2 | exact .there sl3 | exact .there sl4 | exact .there sl5 | exact .there sl6 | exact .there sl7 | exact .there sl8 | exact .there sl9 | exact .there sl10 | exact .there sl11 | exact .there sl12) (.cons (A := unitsP A.ub A.us Ki.us) (by with_reducible first | exact sl0 | exact .there sl0 | exact .there sl1 | exact .there sl2 | exact .there sl3 | exact .there sl4 | exact .there sl5 | exact .there sl6 | exact .there sl7 | exact .there sl8 | exact .there sl9 | exact .there sl10 | exact .there sl11 | exact .there sl12) (.same _)))))) (by simp; omega) fun s' w13 h => nn.mk (st1.mk h.p2 (by simp) fun w14 h => ?_)
      refine ⟨⟨i + 1, { A with us := s', ub := updN A.ub Ki.us.length f }, { Ki with mm := b2.2, us := Ki.us ++ [KM.unNew c.tasks[i].1] }, rfl, h2, by simp [hu], hT, ?_⟩, ?_⟩
      · refine kerI ⟨ho.t0, ho.t1, by simp [hu]; omega, ho.sems, ho.datas, ho.pools⟩ ?_
        have h : Ok e (pts k [vS A.ss, vS A.fs, vS A.ds, vS A.ps, .int .i64 ((Ki.mm.m.length : Int) - 1), pV A.lk, pV A.pl, pV A.hn, pV A.rq, vS s', .int .i64 0, .int .i64 0, .int .i64 Ki.who] :: ptrsB unP [.pointer none] un0 (updN A.ub Ki.us.length f) s' (Ki.us ++ [KM.unNew c.tasks[i].1]) :: pts d [.int .i64 c.tasks[i].1, .bool c.tasks[i].2] :: mmP A.lk b2.2 :: semsP A.ss Ki.sems :: flgP A.fs :: datasP A.ds Ki.datas :: poolsP A.ps Ki.pools :: placeP A.pl Ki.pl :: hnP A.hn Ki.tic Ki.up Ki.tb Ki.last Ki.ents :: rdyP A.rq Ki.rdy :: pts b (cfC c S) :: cfR c S (old e :: L)) w14 := h
        rw [← hfr] at h
        have h2 : Ok e (pts k [vS A.ss, vS A.fs, vS A.ds, vS A.ps, .int .i64 ((b2.2.m.length : Int) - 1), pV A.lk, pV A.pl, pV A.hn, pV A.rq, vS s', .int .i64 0, .int .i64 0, .int .i64 Ki.who] :: ptrsB unP [.pointer none] un0 (updN A.ub Ki.us.length f) s' (Ki.us ++ [KM.unNew c.tasks[i].1]) :: semsP A.ss Ki.sems :: flgP A.fs :: datasP A.ds Ki.datas :: poolsP A.ps Ki.pools :: mmP A.lk b2.2 :: placeP A.pl Ki.pl :: hnP A.hn Ki.tic Ki.up Ki.tb Ki.last Ki.ents :: rdyP A.rq Ki.rdy :: pts b (cfC c S) :: cfR c S (old e :: L)) w14 := (h.emb (by repeat' (first | with_reducible exact Emb.same _ | exact Emb.nil _ | refine Emb.cons (by with_reducible first | exact sl0 | exact .there sl0 | exact .there sl1 | exact .there sl2 | exact .there sl3 | exact .there sl4 | exact .there sl5 | exact .there sl6 | exact .there sl7 | exact .there sl8 | exact .there sl9 | exact .there sl10 | exact .there sl11 | exact .there sl12) ?_ | refine Emb.skip ?_)))
        exact h2
      · show ((c.tasks.length : Int) - ((i : Int) + 1)).toNat < ((c.tasks.length : Int) - (i : Int)).toNat
        omega
    have h2 : i = c.tasks.length := by have := of_decide_eq_false h2; omega
    subst h2
    rw [List.drop_length] at hT
    cases hT
    have h := kerI (A := A) ho h
    refine ldS.mk (by refine Ok.cellS h (by with_reducible first | exact sl0 | exact .there sl0 | exact .there sl1 | exact .there sl2 | exact .there sl3 | exact .there sl4 | exact .there sl5 | exact .there sl6 | exact .there sl7 | exact .there sl8 | exact .there sl9 | exact .there sl10 | exact .there sl11 | exact .there sl12) ?_; rfl) ?_
    refine lp.mk (fun t w1 => ∃ (i : Nat) (Ki : KM), @Eq Int t.1 (i : Int) ∧ i ≤ c.tasks.length ∧ KM.newA i (c.tasks.drop i) Ki = some KT ∧ Ok e (kerP k A Ki :: pts b (cfC c S) :: cfR c S (old e :: L)) w1)
      (fun t _ => Int.toNat (Int.sub c.tasks.length t.1)) ⟨0, _, rfl, by omega, hA, h⟩ ?_
    rintro ⟨(t : Int), _⟩ w5 ⟨i, K2, (rfl : t = (i : Int)), hi, hT, h⟩
    dsimp only
    refine cs.mk (fun h2 => ?_) (fun h2 => ?_)
    · have h2 : i < c.tasks.length := by have := of_decide_eq_true h2; omega
      rw [List.drop_eq_getElem_cons h2] at hT
      unfold KM.newA at hT
      refine ix_flat taC_len (by decide) ((Ok.emb (h) (.cons (A := slc 2 S.ts (flat taC c.tasks)) (by with_reducible first | exact sl0 | exact .there sl0 | exact .there sl1 | exact .there sl2 | exact .there sl3 | exact .there sl4 | exact .there sl5 | exact .there sl6 | exact .there sl7 | exact .there sl8 | exact .there sl9 | exact .there sl10 | exact .there sl11 | exact .there sl12) (.same _)))) (by omega) (by omega) fun b3 o2 y hy _ _ hc2 => ?_
      rw [Int.toNat_natCast, List.getElem?_eq_getElem h2] at hy
      cases hy
      have r1 := hc2 0 _ rfl w5 ⟨_, (Ok.emb (h) (.cons (A := slc 2 S.ts (flat taC c.tasks)) (by with_reducible first | exact sl0 | exact .there sl0 | exact .there sl1 | exact .there sl2 | exact .there sl3 | exact .there sl4 | exact .there sl5 | exact .there sl6 | exact .there sl7 | exact .there sl8 | exact .there sl9 | exact .there sl10 | exact .there sl11 | exact .there sl12) (.same _)))⟩
      have r2 := hc2 1 _ rfl w5 ⟨_, (Ok.emb (h) (.cons (A := slc 2 S.ts (flat taC c.tasks)) (by with_reducible first | exact sl0 | exact .there sl0 | exact .there sl1 | exact .there sl2 | exact .there sl3 | exact .there sl4 | exact .there sl5 | exact .there sl6 | exact .there sl7 | exact .there sl8 | exact .there sl9 | exact .there sl10 | exact .there sl11 | exact .there sl12) (.same _)))⟩
      refine ldI.mk r1 (ldB.mk r2 (al.mk h fun d w6 h => st1.mk h (by simp) fun w6 h => st1.mk h (by simp) fun w6 h => ldB.mk (h.cell rfl) ?_))
      rw [w64_in (x := (i : Int) + 1) (by omega) (by omega)]
      have hlt : ((c.tasks.length : Int) - ((i : Int) + 1)).toNat < ((c.tasks.length : Int) - (i : Int)).toNat := by omega
      refine cs.mk (fun h3 => ?_) (fun h3 => ?_)
      · rw [if_pos h3] at hT
        obtain ⟨a, ha, hT⟩ := Option.bind_eq_some_iff.1 hT
        exact call105 (act_kern h.drop ha fun w7 h => ⟨(a.1, ()), rfl, ⟨i + 1, a.2, rfl, h2, hT, h⟩, hlt⟩)
      · rw [if_neg (by rw [h3]; decide)] at hT
        exact ⟨⟨i + 1, K2, rfl, h2, hT, h.drop⟩, hlt⟩
    have h2 : i = c.tasks.length := by have := of_decide_eq_false h2; omega
    subst h2
    rw [List.drop_length] at hT
    cases hT
    refine call57 (choose_kern tb ((Ok.emb (h) (.cons (A := kerP k A KT) (by with_reducible first | exact sl0 | exact .there sl0 | exact .there sl1 | exact .there sl2 | exact .there sl3 | exact .there sl4 | exact .there sl5 | exact .there sl6 | exact .there sl7 | exact .there sl8 | exact .there sl9 | exact .there sl10 | exact .there sl11 | exact .there sl12) (.cons (A := old e) (by with_reducible first | exact sl0 | exact .there sl0 | exact .there sl1 | exact .there sl2 | exact .there sl3 | exact .there sl4 | exact .there sl5 | exact .there sl6 | exact .there sl7 | exact .there sl8 | exact .there sl9 | exact .there sl10 | exact .there sl11 | exact .there sl12) (.same _))))) fun w6 h => ⟨(), rfl, ?_⟩)
    rw [hm] at h
    exact kk k A w6 (h.emb (by repeat' (first | with_reducible exact Emb.same _ | exact Emb.nil _ | refine Emb.cons (by with_reducible first | exact sl0 | exact .there sl0 | exact .there sl1 | exact .there sl2 | exact .there sl3 | exact .there sl4 | exact .there sl5 | exact .there sl6 | exact .there sl7 | exact .there sl8 | exact .there sl9 | exact .there sl10 | exact .there sl11 | exact .there sl12) ?_ | refine Emb.skip ?_)))
  have t2 : ∀ (v p r : Nat) w4, Ok e (pts v [.pointer none] :: placeP p ⟨[], false, false⟩ :: rdyP r [] :: pts b (cfC c S) :: cfR c S (old e :: L)) w4 → al w4 132 [.slice none 0 0, .slice none 0 0, .slice none 0 0, .slice none 0 0, .int .i64 0, .pointer none, .pointer (some ⟨p, 0, none⟩), .pointer none, .pointer (some ⟨r, 0, none⟩), vS ⟨some ⟨v, 0, none⟩, 1, 1⟩, .int .i64 0, .int .i64 0, .int .i64 0] fun k w5 => tailX R b k w5 := fun v p r w4 h => al.mk h fun k w5 h => tail k v p r w5 h
  have h : Ok e (pts b (cfC c S) :: cfR c S (old e :: L)) w3 := (h.emb (by repeat' (first | with_reducible exact Emb.same _ | exact Emb.nil _ | refine Emb.cons (by with_reducible first | exact sl0 | exact .there sl0 | exact .there sl1 | exact .there sl2 | exact .there sl3 | exact .there sl4 | exact .there sl5 | exact .there sl6 | exact .there sl7 | exact .there sl8 | exact .there sl9 | exact .there sl10 | exact .there sl11 | exact .there sl12) ?_ | refine Emb.skip ?_)))
  refine ⟨call99 (New_ctx h fun p w4 h => ⟨(some ⟨p, 0, none⟩, ()), rfl, (by refine Ok.cellS h (by with_reducible first | exact sl0 | exact .there sl0 | exact .there sl1 | exact .there sl2 | exact .there sl3 | exact .there sl4 | exact .there sl5 | exact .there sl6 | exact .there sl7 | exact .there sl8 | exact .there sl9 | exact .there sl10 | exact .there sl11 | exact .there sl12) ?_; rfl), (by refine Ok.cellS h (by with_reducible first | exact sl0 | exact .there sl0 | exact .there sl1 | exact .there sl2 | exact .there sl3 | exact .there sl4 | exact .there sl5 | exact .there sl6 | exact .there sl7 | exact .there sl8 | exact .there sl9 | exact .there sl10 | exact .there sl11 | exact .there sl12) ?_; rfl), ?_, ?_⟩), al.mk h fun v w4 h => ⟨(by refine Ok.cellS h (by with_reducible first | exact sl0 | exact .there sl0 | exact .there sl1 | exact .there sl2 | exact .there sl3 | exact .there sl4 | exact .there sl5 | exact .there sl6 | exact .there sl7 | exact .there sl8 | exact .there sl9 | exact .there sl10 | exact .there sl11 | exact .there sl12) ?_; rfl), (by refine Ok.cellS h (by with_reducible first | exact sl0 | exact .there sl0 | exact .there sl1 | exact .there sl2 | exact .there sl3 | exact .there sl4 | exact .there sl5 | exact .there sl6 | exact .there sl7 | exact .there sl8 | exact .there sl9 | exact .there sl10 | exact .there sl11 | exact .there sl12) ?_; rfl), ?_⟩⟩
  · refine call45 (New_ready h fun r w5 h => ⟨(some ⟨r, 0, none⟩, ()), rfl, (by refine Ok.cellS h (by with_reducible first | exact sl0 | exact .there sl0 | exact .there sl1 | exact .there sl2 | exact .there sl3 | exact .there sl4 | exact .there sl5 | exact .there sl6 | exact .there sl7 | exact .there sl8 | exact .there sl9 | exact .there sl10 | exact .there sl11 | exact .there sl12) ?_; rfl), (by refine Ok.cellS h (by with_reducible first | exact sl0 | exact .there sl0 | exact .there sl1 | exact .there sl2 | exact .there sl3 | exact .there sl4 | exact .there sl5 | exact .there sl6 | exact .there sl7 | exact .there sl8 | exact .there sl9 | exact .there sl10 | exact .there sl11 | exact .there sl12) ?_; rfl), al.mk h fun v w6 h => ⟨(by refine Ok.cellS h (by with_reducible first | exact sl0 | exact .there sl0 | exact .there sl1 | exact .there sl2 | exact .there sl3 | exact .there sl4 | exact .there sl5 | exact .there sl6 | exact .there sl7 | exact .there sl8 | exact .there sl9 | exact .there sl10 | exact .there sl11 | exact .there sl12) ?_; rfl), (by refine Ok.cellS h (by with_reducible first | exact sl0 | exact .there sl0 | exact .there sl1 | exact .there sl2 | exact .there sl3 | exact .there sl4 | exact .there sl5 | exact .there sl6 | exact .there sl7 | exact .there sl8 | exact .there sl9 | exact .there sl10 | exact .there sl11 | exact .there sl12) ?_; rfl), ?_⟩⟩)
    exact t2 v p r w6 (h.emb (by repeat' (first | with_reducible exact Emb.same _ | exact Emb.nil _ | refine Emb.cons (by with_reducible first | exact sl0 | exact .there sl0 | exact .there sl1 | exact .there sl2 | exact .there sl3 | exact .there sl4 | exact .there sl5 | exact .there sl6 | exact .there sl7 | exact .there sl8 | exact .there sl9 | exact .there sl10 | exact .there sl11 | exact .there sl12) ?_ | refine Emb.skip ?_)))
  · refine al.mk h fun v w5 h => ⟨(by refine Ok.cellS h (by with_reducible first | exact sl0 | exact .there sl0 | exact .there sl1 | exact .there sl2 | exact .there sl3 | exact .there sl4 | exact .there sl5 | exact .there sl6 | exact .there sl7 | exact .there sl8 | exact .there sl9 | exact .there sl10 | exact .there sl11 | exact .there sl12) ?_; rfl), (by refine Ok.cellS h (by with_reducible first | exact sl0 | exact .there sl0 | exact .there sl1 | exact .there sl2 | exact .there sl3 | exact .there sl4 | exact .there sl5 | exact .there sl6 | exact .there sl7 | exact .there sl8 | exact .there sl9 | exact .there sl10 | exact .there sl11 | exact .there sl12) ?_; rfl), call45 (New_ready h fun r w6 h => ⟨(some ⟨r, 0, none⟩, ()), rfl, (by refine Ok.cellS h (by with_reducible first | exact sl0 | exact .there sl0 | exact .there sl1 | exact .there sl2 | exact .there sl3 | exact .there sl4 | exact .there sl5 | exact .there sl6 | exact .there sl7 | exact .there sl8 | exact .there sl9 | exact .there sl10 | exact .there sl11 | exact .there sl12) ?_; rfl), (by refine Ok.cellS h (by with_reducible first | exact sl0 | exact .there sl0 | exact .there sl1 | exact .there sl2 | exact .there sl3 | exact .there sl4 | exact .there sl5 | exact .there sl6 | exact .there sl7 | exact .there sl8 | exact .there sl9 | exact .there sl10 | exact .there sl11 | exact .there sl12) ?_; rfl), ?_⟩)⟩
    exact t2 v p r w6 (h.emb (by repeat' (first | with_reducible exact Emb.same _ | exact Emb.nil _ | refine Emb.cons (by with_reducible first | exact sl0 | exact .there sl0 | exact .there sl1 | exact .there sl2 | exact .there sl3 | exact .there sl4 | exact .there sl5 | exact .there sl6 | exact .there sl7 | exact .there sl8 | exact .there sl9 | exact .there sl10 | exact .there sl11 | exact .there sl12) ?_ | refine Emb.skip ?_)))
  · refine call99 (New_ctx h fun p w5 h => ⟨(some ⟨p, 0, none⟩, ()), rfl, (by refine Ok.cellS h (by with_reducible first | exact sl0 | exact .there sl0 | exact .there sl1 | exact .there sl2 | exact .there sl3 | exact .there sl4 | exact .there sl5 | exact .there sl6 | exact .there sl7 | exact .there sl8 | exact .there sl9 | exact .there sl10 | exact .there sl11 | exact .there sl12) ?_; rfl), (by refine Ok.cellS h (by with_reducible first | exact sl0 | exact .there sl0 | exact .there sl1 | exact .there sl2 | exact .there sl3 | exact .there sl4 | exact .there sl5 | exact .there sl6 | exact .there sl7 | exact .there sl8 | exact .there sl9 | exact .there sl10 | exact .there sl11 | exact .there sl12) ?_; rfl), call45 (New_ready h fun r w6 h => ⟨(some ⟨r, 0, none⟩, ()), rfl, (by refine Ok.cellS h (by with_reducible first | exact sl0 | exact .there sl0 | exact .there sl1 | exact .there sl2 | exact .there sl3 | exact .there sl4 | exact .there sl5 | exact .there sl6 | exact .there sl7 | exact .there sl8 | exact .there sl9 | exact .there sl10 | exact .there sl11 | exact .there sl12) ?_; rfl), (by refine Ok.cellS h (by with_reducible first | exact sl0 | exact .there sl0 | exact .there sl1 | exact .there sl2 | exact .there sl3 | exact .there sl4 | exact .there sl5 | exact .there sl6 | exact .there sl7 | exact .there sl8 | exact .there sl9 | exact .there sl10 | exact .there sl11 | exact .there sl12) ?_; rfl), ?_⟩)⟩)
    exact t2 v p r w6 (h.emb (by repeat' (first | with_reducible exact Emb.same _ | exact Emb.nil _ | refine Emb.cons (by with_reducible first | exact sl0 | exact .there sl0 | exact .there sl1 | exact .there sl2 | exact .there sl3 | exact .there sl4 | exact .there sl5 | exact .there sl6 | exact .there sl7 | exact .there sl8 | exact .there sl9 | exact .there sl10 | exact .there sl11 | exact .there sl12) ?_ | refine Emb.skip ?_)))

end Go.Proofs.YtenonfkfoedfmaaGreatDoor.B


/- What the laws of the whole share. -/
namespace Go.Proofs.YtenonfkfoedfmaaGreatDoor.B
open Go
set_option linter.unusedVariables false

theorem slT_confTask : SlT Pg 25 2 := .of (by kernel_rfl)

abbrev actv (l : List Int) : List (Int × Bool) := l.map fun x => (x, true)

theorem tasks_keep {e w L R} {s : Sl} {l : List Int} (h : Ok e (slc 1 s (ints l) :: L) w) (hl : l.length ≤ 100) (k : ∀ x w', Ok e (slc 2 x (flat taC (actv l)) :: slc 1 s (ints l) :: L) w' → R [.agg #[.int .i64 1, vS x, vS ⟨none, 0, 0⟩, vS ⟨none, 0, 0⟩, vS ⟨none, 0, 0⟩, vS ⟨none, 0, 0⟩, vS ⟨none, 0, 0⟩, vS ⟨none, 0, 0⟩, .int .i64 0]] w') : sh18 s R w := by
  have hs : l.length = s.len := by have := h.slc_len; simp at this; omega
  unfold sh18
  refine al.mk h fun b w1 h => al.mk h fun d w1 h => ?_
  refine st1.mk h (by simp) fun w1 h => st1.mk h (by simp) fun w1 h => st1.mk h (by simp) fun w1 h => st1.mk h (by simp) fun w1 h => st1.mk h (by simp) fun w1 h => st1.mk h (by simp) fun w1 h => st1.mk h (by simp) fun w1 h => st1.mk h (by simp) fun w1 h => st1.mk h (by simp) fun w1 h => ?_
  refine lp.mk (fun t w1 => ∃ (i : Nat) (x : Sl), @Eq Int t.1 (i : Int) ∧ i ≤ l.length ∧ Ok e (pts d [.int .i64 1, vS x, vS ⟨none, 0, 0⟩, vS ⟨none, 0, 0⟩, vS ⟨none, 0, 0⟩, vS ⟨none, 0, 0⟩, vS ⟨none, 0, 0⟩, vS ⟨none, 0, 0⟩, .int .i64 0] :: slc 2 x (flat taC (actv (l.take i))) :: pts b [.int .i64 0, .slice none 0 0, .slice none 0 0, .slice none 0 0, .slice none 0 0, .slice none 0 0, .slice none 0 0, .slice none 0 0, .int .i64 0] :: slc 1 s (ints l) :: L) w1)
    (fun t _ => Int.toNat (Int.sub l.length t.1)) ⟨0, ⟨none, 0, 0⟩, rfl, by omega, (h.slcNil 2).p1⟩ ?_
  rintro ⟨(t : Int), _⟩ w2 ⟨i, x, (rfl : t = (i : Int)), hi, h⟩
  dsimp only
  refine cs.mk (fun h2 => ?_) (fun h2 => ?_)
  · have h2 : i < l.length := by have := of_decide_eq_true h2; omega
    refine dr.mk h fun w3 h => ldS.mk (h.cell rfl) (ix_int h.p3 (by omega) (by omega) fun b2 o2 z hz hcz => ldI.mk (hcz _ ⟨_, h.p3⟩) ?_)
    rw [Int.toNat_natCast, List.getElem?_eq_getElem h2] at hz
    cases hz
    have hxl := slc_flat_len taC_len (by decide) h.p1
    simp at hxl
    refine al.mk h fun f w4 h => ⟨h.p1.cell rfl, ?_⟩
    have h : Ok e (pts f (flat taC [(l[i], true)]) :: slc 2 x (flat taC (actv (l.take i))) :: pts d [.int .i64 1, vS x, vS ⟨none, 0, 0⟩, vS ⟨none, 0, 0⟩, vS ⟨none, 0, 0⟩, vS ⟨none, 0, 0⟩, vS ⟨none, 0, 0⟩, vS ⟨none, 0, 0⟩, .int .i64 0] :: pts b [.int .i64 0, .slice none 0 0, .slice none 0 0, .slice none 0 0, .slice none 0 0, .slice none 0 0, .slice none 0 0, .slice none 0 0, .int .i64 0] :: slc 1 s (ints l) :: L) w4 := by
      have h : Ok e (pts f (flat taC [(l[i], true)]) :: pts d [.int .i64 1, vS x, vS ⟨none, 0, 0⟩, vS ⟨none, 0, 0⟩, vS ⟨none, 0, 0⟩, vS ⟨none, 0, 0⟩, vS ⟨none, 0, 0⟩, vS ⟨none, 0, 0⟩, .int .i64 0] :: slc 2 x (flat taC (actv (l.take i))) :: pts b [.int .i64 0, .slice none 0 0, .slice none 0 0, .slice none 0 0, .slice none 0 0, .slice none 0 0, .slice none 0 0, .slice none 0 0, .int .i64 0] :: slc 1 s (ints l) :: L) w4 := h
      exact (h.emb (by repeat' (first | with_reducible exact Emb.same _ | exact Emb.nil _ | refine Emb.cons (by with_reducible first | exact sl0 | exact .there sl0 | exact .there sl1 | exact .there sl2 | exact .there sl3 | exact .there sl4 | exact .there sl5 | exact .there sl6 | exact .there sl7 | exact .there sl8 | exact .there sl9 | exact .there sl10 | exact .there sl11 | exact .there sl12) ?_ | refine Emb.skip ?_)))
    refine ef.append1 (n := 1) slT_confTask (by decide) h rfl (flat_one taC_one) (by omega) fun s' w7 hl' h => ?_
    rw [← flat_append] at h
    refine st1.mk h.p1 (by simp) fun w8 h => ⟨⟨i + 1, s', w64_in (by omega) (by omega), h2, ?_⟩, ?_⟩
    · rw [List.take_add_one, List.getElem?_eq_getElem h2]
      rw [show actv (l.take i ++ (some l[i]).toList) = actv (l.take i) ++ [(l[i], true)] from List.map_append ..]
      exact h
    · show ((l.length : Int) - w64 ((i : Int) + 1)).toNat < ((l.length : Int) - (i : Int)).toNat
      rw [w64_in (by omega) (by omega)]
      omega
  · have h2 : i = l.length := by have := of_decide_eq_false h2; omega
    subst h2
    rw [List.take_length] at h
    refine ldI.mk (h.cell rfl) (ldS.mk (h.cell rfl) (ldS.mk (h.cell rfl) (ldS.mk (h.cell rfl) (ldS.mk (h.cell rfl) (ldS.mk (h.cell rfl) (ldS.mk (h.cell rfl) (ldS.mk (h.cell rfl) (ldI.mk (h.cell rfl) ?_))))))))
    have h := h.p2
    refine st1.mk h (by simp) fun w1 h => st1.mk h (by simp) fun w1 h => st1.mk h (by simp) fun w1 h => st1.mk h (by simp) fun w1 h => st1.mk h (by simp) fun w1 h => st1.mk h (by simp) fun w1 h => st1.mk h (by simp) fun w1 h => st1.mk h (by simp) fun w1 h => st1.mk h (by simp) fun w1 h => ?_
    refine ldI.mk (h.cell rfl) (ldS.mk (h.cell rfl) (ldS.mk (h.cell rfl) (ldS.mk (h.cell rfl) (ldS.mk (h.cell rfl) (ldS.mk (h.cell rfl) (ldS.mk (h.cell rfl) (ldS.mk (h.cell rfl) (ldI.mk (h.cell rfl) (k x w1 ?_)))))))))
    have h := h.drop
    exact (h.emb (by repeat' (first | with_reducible exact Emb.same _ | exact Emb.nil _ | refine Emb.cons (by with_reducible first | exact sl0 | exact .there sl0 | exact .there sl1 | exact .there sl2 | exact .there sl3 | exact .there sl4 | exact .there sl5 | exact .there sl6 | exact .there sl7 | exact .there sl8 | exact .there sl9 | exact .there sl10 | exact .there sl11 | exact .there sl12) ?_ | refine Emb.skip ?_)))

theorem tasks_top {e w L R} {s : Sl} {l : List Int} (h : Ok e (slc 1 s (ints l) :: L) w) (hl : l.length ≤ 100) (k : ∀ x w', Ok e (slc 2 x (flat taC (actv l)) :: L) w' → R [.agg #[.int .i64 1, vS x, vS ⟨none, 0, 0⟩, vS ⟨none, 0, 0⟩, vS ⟨none, 0, 0⟩, vS ⟨none, 0, 0⟩, vS ⟨none, 0, 0⟩, vS ⟨none, 0, 0⟩, .int .i64 0]] w') : sh18 s R w :=
  tasks_keep h hl fun x w' h => k x w' h.p1.drop

theorem open_top {e w L c S K R} (tb : TabE e) (h : Ok e (cfR c S (old e :: L)) w) (hc : c.ok = true) (hm : KM.new c = some K) (kk : ∀ k A w', Ok e (kerP k A K :: cfR c S (old e :: L)) w' → R [pV k] w') : sh19 (cfV c S) R w := by
  unfold sh19
  refine al.mk h fun b w1 h => ?_
  refine ldI.mk (h.cell rfl) (ldS.mk (h.cell rfl) (ldS.mk (h.cell rfl) (ldS.mk (h.cell rfl) (ldS.mk (h.cell rfl) (ldS.mk (h.cell rfl) (ldS.mk (h.cell rfl) (ldS.mk (h.cell rfl) (ldI.mk (h.cell rfl) ?_))))))))
  exact call51 (a0 := cfV c S) (New_kern tb h.drop (CfOk.of hc) hm fun k A w2 h => ⟨(some ⟨k, 0, none⟩, (0 : Int), ()), rfl, cs.no rfl (kk k A w2 h)⟩)

/-- what the call of a number does -/
def DoC (e : World) (n : Nat) (kd : Int) (g : Int → Int → KM → Option ((Int × Int) × KM)) : Prop :=
  ∀ (k : Nat) (A : KA) (K : KM) (r : (Int × Int) × KM) (L : List SP) (w : World) (x0 x1 x2 x3 : Int) (R : List Value → World → Prop), Ok e (kerP k A K :: old e :: L) w → K.call kd (g x0 x1) = some r →
    (∀ w', Ok e (kerP k A r.2 :: old e :: L) w' → R [.agg #[.int .i64 r.1.1, .int .i64 r.1.2]] w') → sh41 (some ⟨k, 0, none⟩) ((n : Int), x0, x1, x2, x3, ()) R w

theorem do_top {e w L k A K r s R} {n : Nat} {kd : Int} {g} {xs : List Int} (hd : DoC e n kd g) (h : Ok e (slc 1 s (ints xs) :: kerP k A K :: old e :: L) w) (hl : xs.length ≤ 4) (hm : K.call kd (g (xs[0]?.getD 0) (xs[1]?.getD 0)) = some r)
    (kk : ∀ w', Ok e (kerP k A r.2 :: old e :: L) w' → R [.int .i64 r.1.1, .int .i64 r.1.2] w') : sh20 (some ⟨k, 0, none⟩) (n : Int) s R w := by
  unfold sh20
  refine call52 (Make_calls h hl fun w1 h => ⟨(((n : Int), (xs[0]?.getD 0 : Int), (xs[1]?.getD 0 : Int), (xs[2]?.getD 0 : Int), (xs[3]?.getD 0 : Int), ()), ()), rfl, ?_⟩)
  refine call41 (a1 := ((n : Int), xs[0]?.getD 0, xs[1]?.getD 0, xs[2]?.getD 0, xs[3]?.getD 0, ())) (hd k A K r L w1 _ _ _ _ _ h hm fun w2 h => ⟨((r.1.1, r.1.2, ()), ()), rfl, ?_⟩)
  refine al.mk h fun b w3 h => st1.mk h (by simp) fun w4 h => st1.mk h (by simp) fun w5 h => dr.mk h fun w6 h => ldI.mk (h.cell rfl) (ldI.mk (h.cell rfl) (kk w6 h.drop))

theorem state_top {e w L k A K n s R} (h : Ok e (kerP k A K :: L) w) (hm : K.state n = some s) (kk : ∀ w', Ok e (kerP k A K :: L) w' → R [.int .i64 s] w') : sh27 (some ⟨k, 0, none⟩) n R w := by
  unfold sh27
  obtain ⟨f, hf, rfl⟩ := Option.map_eq_some_iff.1 hm
  refine call24 (Task_kern h hf fun w1 h => ⟨((f.state, f.pri, f.base, (0 : Int), f.kind, f.obj, f.lc, f.lv, ()), (f.acts, f.wups, f.susps, ()), (0 : Int), ()), rfl, ?_⟩)
  refine al.mk h fun b w1 h => al.mk h fun d w1 h => ?_
  have h := h.p1
  refine st1.mk h (by simp) fun w1 h => st1.mk h (by simp) fun w1 h => st1.mk h (by simp) fun w1 h => st1.mk h (by simp) fun w1 h => st1.mk h (by simp) fun w1 h => st1.mk h (by simp) fun w1 h => st1.mk h (by simp) fun w1 h => st1.mk h (by simp) fun w1 h => ?_
  refine st1.mk h.p1 (by simp) fun w1 h => st1.mk h (by simp) fun w1 h => st1.mk h (by simp) fun w1 h => ldI.mk (h.p1.cell rfl) (kk w1 h.drop.drop)

theorem last_top {e w L k A K n f R} (h : Ok e (kerP k A K :: L) w) (hm : K.task n = some f) (kk : ∀ w', Ok e (kerP k A K :: L) w' → R [.int .i64 f.lc, .int .i64 f.lv] w') : sh23 (some ⟨k, 0, none⟩) n R w := by
  unfold sh23
  refine call24 (Task_kern h hm fun w1 h => ⟨((f.state, f.pri, f.base, (0 : Int), f.kind, f.obj, f.lc, f.lv, ()), (f.acts, f.wups, f.susps, ()), (0 : Int), ()), rfl, ?_⟩)
  refine al.mk h fun b w1 h => al.mk h fun d w1 h => ?_
  have h := h.p1
  refine st1.mk h (by simp) fun w1 h => st1.mk h (by simp) fun w1 h => st1.mk h (by simp) fun w1 h => st1.mk h (by simp) fun w1 h => st1.mk h (by simp) fun w1 h => st1.mk h (by simp) fun w1 h => st1.mk h (by simp) fun w1 h => st1.mk h (by simp) fun w1 h => ?_
  refine st1.mk h.p1 (by simp) fun w1 h => st1.mk h (by simp) fun w1 h => st1.mk h (by simp) fun w1 h => dr.mk h fun w1 h => ldI.mk (h.p1.cell rfl) (ldI.mk (h.p1.cell rfl) (kk w1 h.drop.drop))

/-! ### a delay -/
theorem tasks_22 {e k A K r x0 x1 x2 x3} (hm : KM.cDly x0 K = some r) : GrpC e k A K r (sh79 (some ⟨k, 0, none⟩) (((22 : Nat) : Int), x0, x1, x2, x3, ())) := by
  intro L w R h kk
  unfold KM.cDly at hm
  unfold sh79
  refine al.mk h fun b w1 h => al.mk h fun d w2 h => ldI.mk (h.p1.cell rfl) (ldI.mk (h.p1.cell rfl) (ldI.mk (h.p1.cell rfl) (ldI.mk (h.p1.cell rfl) (ldI.mk (h.p1.cell rfl) ?_))))
  refine call130 (a1 := (((22 : Nat) : Int), x0, x1, x2, x3, ())) (named_kern h.p2 (n := 22) rfl (by decide) (by decide) fun w3 h => ⟨(nmd K 22 2 x0, ()), rfl, ?_⟩)
  rw [show nmd K 22 2 x0 = K.who from rfl]
  have h : Ok e (pts d [.int .i64 0, .int .i64 0] :: pts b [.int .i64 ((22 : Nat) : Int), .int .i64 x0, .int .i64 x1, .int .i64 x2, .int .i64 x3] :: kerP k A K :: old e :: L) w3 := (h.emb (by repeat' (first | with_reducible exact Emb.same _ | exact Emb.nil _ | refine Emb.cons (by with_reducible first | exact sl0 | exact .there sl0 | exact .there sl1 | exact .there sl2 | exact .there sl3 | exact .there sl4 | exact .there sl5 | exact .there sl6 | exact .there sl7 | exact .there sl8 | exact .there sl9 | exact .there sl10 | exact .there sl11 | exact .there sl12) ?_ | refine Emb.skip ?_)))
  refine jn.bool (decide (K.who = 0)) (fun J hJ => ?_) (jn.bool (decide (K.who = 0)) (fun J hJ => ?_) (cs.mk (fun hw => ?_) (fun hw => ?_)))
  · refine cs.mk (fun hc => ldI.mk (h.p1.cell rfl) ?_) (fun hc => ?_)
    · rw [decide_eq_true (by simpa using hc)] at hJ; exact hJ
    · rw [decide_eq_false (by simpa using hc)] at hJ; exact hJ
  · refine cs.mk (fun hc => ldI.mk (h.p1.cell rfl) ?_) (fun hc => ?_)
    · have hc : decide (K.who = 0) = true := hc
      rw [hc] at hJ; exact hJ
    · have hc : decide (K.who = 0) = false := hc
      rw [hc] at hJ; exact hJ
  · have hw : K.who = 0 := of_decide_eq_true hw
    rw [if_pos hw] at hm
    cases hm
    exact fin_code h fun w4 h => kk w4 h.drop
  have hw : ¬ K.who = 0 := of_decide_eq_false hw
  rw [if_neg hw] at hm
  refine ldI.mk (h.p1.cell rfl) ?_
  (repeat (first | ((with_reducible refine cs.yes ?_ ?_); · rfl) | ((with_reducible refine cs.no ?_ ?_); · rfl) | refine jn.mk fun J hJ => ?_ | with_reducible apply_assumption -exfalso -symm))
  refine ⟨by decide, by decide, ldI.mk (h.p1.cell rfl) ?_⟩
  by_cases hb : x0 < 0 ∨ x0 > 2147483647
  · rw [if_pos hb] at hm
    cases hm
    refine call137 (Rel_bad (by omega) ⟨((0 : Int), (-17 : Int), ()), rfl, cs.yes rfl (fin_code h fun w4 h => kk w4 h.drop)⟩)
  · rw [if_neg hb] at hm
    obtain ⟨K', hK, rfl⟩ := Option.map_eq_some_iff.1 hm
    refine call137 (Rel_nums (by omega) ⟨(x0, (0 : Int), ()), rfl, cs.no rfl ⟨by decide, by decide, ldI.mk (h.p1.cell rfl) ?_⟩⟩)
    exact call138 (stay_kern h.p2 hK fun w4 h => ⟨(((1 : Int), (0 : Int), ()), ()), rfl, fin_res h.p1 fun w5 h => kk w5 h.p1.drop⟩)

theorem do_22 {e} (tb : TabE e) : DoC e 22 2 fun x0 _ => KM.cDly x0 := by
  intro k A K r L w x0 x1 x2 x3 R h hm kk
  exact Do_kern (n := 22) tb rfl (by decide) h hm (fun r hr => .inl ⟨by decide, tasks_22 hr⟩) kk

/-! ### what is known of every kernel -/
def knownM : Option Bool :=
  (KM.new ⟨1, [(5, true), (3, true)], [], [], [], []⟩).bind fun K0 =>
  if K0.who ≠ 2 then none else
  (K0.call 2 (KM.cDly 0)).bind fun r1 =>
  r1.2.tick.bind fun K2 =>
  (K2.state 1).bind fun s1 => (K2.state 2).map fun s2 => decide (r1.1.1 = 1) && decide (r1.2.who = 1) && decide (K2.who = 2) && decide (s1 = 2) && decide (s2 = 1)

theorem knownM_true : knownM = some true := by decide +kernel

end Go.Proofs.YtenonfkfoedfmaaGreatDoor.B


/- What is known of every kernel. -/
namespace Go.Proofs.YtenonfkfoedfmaaGreatDoor.B
open Go
set_option linter.unusedVariables false

abbrev nilS : Sl := ⟨none, 0, 0⟩

theorem conf_tasks {e L w x} {l : List (Int × Bool)} (tic : Int) (h : Ok e (slc 2 x (flat taC l) :: L) w) : Ok e (cfR ⟨tic, l, [], [], [], []⟩ ⟨x, nilS, nilS, nilS, nilS⟩ L) w := by
  have h := (((h.slcNil 3).slcNil 2).slcNil 2).slcNil 3
  have h2 : Ok e (slc 2 x (flat taC l) :: slc 3 nilS [] :: slc 2 nilS [] :: slc 2 nilS [] :: slc 3 nilS [] :: L) w := (h.emb (by repeat' (first | with_reducible exact Emb.same _ | exact Emb.nil _ | refine Emb.cons (by with_reducible first | exact sl0 | exact .there sl0 | exact .there sl1 | exact .there sl2 | exact .there sl3 | exact .there sl4 | exact .there sl5 | exact .there sl6 | exact .there sl7 | exact .there sl8 | exact .there sl9 | exact .there sl10 | exact .there sl11 | exact .there sl12) ?_ | refine Emb.skip ?_)))
  exact h2

theorem slcOf {e w L b} {l : List Int} (h : Ok e (pts b (ints l) :: L) w) : Ok e (slc 1 ⟨some ⟨b, 0, none⟩, l.length, l.length⟩ (ints l) :: L) w :=
  Ok.slcNew (vs := ints l) h (by rw [ints_len, Nat.mul_one]) (ints_one l)

theorem known_top {e w L R} (tb : TabE e) (h : Ok e (old e :: L) w) (kk : ∀ w', Ok e (old e :: L) w' → R [.bool true] w') : sh17 R w := by
  obtain ⟨K0, hK0, hm⟩ := Option.bind_eq_some_iff.1 knownM_true
  split at hm
  · cases hm
  · next hw0 =>
    obtain ⟨r1, hr1, hm⟩ := Option.bind_eq_some_iff.1 hm
    obtain ⟨K2, hK2, hm⟩ := Option.bind_eq_some_iff.1 hm
    obtain ⟨s1, hs1, hm⟩ := Option.bind_eq_some_iff.1 hm
    obtain ⟨s2, hs2, hm⟩ := Option.map_eq_some_iff.1 hm
    simp only [Bool.and_eq_true, decide_eq_true_eq] at hm
    obtain ⟨⟨⟨⟨m1, m2⟩, m3⟩, m4⟩, m5⟩ := hm
    unfold sh17
    refine al.mk h fun b w1 h => ?_
    refine call18 (a0 := ⟨some ⟨b, 0, none⟩, 2, 2⟩) (tasks_top (l := [5, 3]) (slcOf (l := [5, 3]) h) (by decide) fun x w2 h => ⟨(((1 : Int), x, nilS, nilS, nilS, nilS, nilS, nilS, (0 : Int), ()), ()), rfl, ?_⟩)
    refine call19 (a0 := cfV ⟨1, [(5, true), (3, true)], [], [], [], []⟩ ⟨x, nilS, nilS, nilS, nilS⟩) (open_top tb (conf_tasks 1 h) (by decide) hK0 fun k A w3 h => ⟨(some ⟨k, 0, none⟩, ()), rfl, ?_⟩)
    have h : Ok e (kerP k A K0 :: old e :: L) w3 := (h.emb (by repeat' (first | with_reducible exact Emb.same _ | exact Emb.nil _ | refine Emb.cons (by with_reducible first | exact sl0 | exact .there sl0 | exact .there sl1 | exact .there sl2 | exact .there sl3 | exact .there sl4 | exact .there sl5 | exact .there sl6 | exact .there sl7 | exact .there sl8 | exact .there sl9 | exact .there sl10 | exact .there sl11 | exact .there sl12) ?_ | refine Emb.skip ?_)))
    refine jn.mk fun J hJ => cs.no rfl (call21 (Running_kern h ⟨(K0.who, ()), rfl, hJ _ _ (cs.no (by simpa using hw0) ?_)⟩))
    refine al.mk h fun b1 w4 h => ?_
    refine call20 (a2 := ⟨some ⟨b1, 0, none⟩, 1, 1⟩) (do_top (n := 22) (xs := [0]) (do_22 tb) (slcOf (l := [0]) h) (by decide) hr1 fun w5 h => ⟨(r1.1.1, r1.1.2, ()), rfl, ?_⟩)
    refine call21 (Running_kern h ⟨(r1.2.who, ()), rfl, ?_⟩)
    refine call22 (Tick_kern tb h hK2 fun w6 h => ⟨(nilS, ()), rfl, ?_⟩)
    refine jn.mk fun J1 hJ1 => cs.yes (by simpa using m1) (hJ1 _ _ (jn.mk fun J2 hJ2 => cs.yes (by simpa using m2) (call21 (Running_kern h ⟨(K2.who, ()), rfl, hJ2 _ _ (jn.mk fun J3 hJ3 => cs.yes (by simpa using m3) ?_)⟩))))
    refine call27 (state_top h hs1 fun w7 h => ⟨(s1, ()), rfl, hJ3 _ _ (jn.mk fun J4 hJ4 => cs.yes (by simpa using m4) ?_)⟩)
    refine call27 (state_top h hs2 fun w8 h => ⟨(s2, ()), rfl, hJ4 _ _ ?_⟩)
    have := kk w8 h.drop
    rw [m5]
    exact this

end Go.Proofs.YtenonfkfoedfmaaGreatDoor.B


/- TopDelays, as plain Lean. -/
namespace Go.Proofs.YtenonfkfoedfmaaGreatDoor.B
open Go
set_option linter.unusedVariables false

theorem tick_of {K : KM} (h : 0 ≤ K.up ∧ K.up ≤ 2 ^ 40) : K.tick = (KM.tickL ((dueE (K.up + K.tic) K.ents).map Ent.arg) { K with up := K.up + K.tic, ents := restE (K.up + K.tic) K.ents }).map KM.choose := if_pos h

theorem wait_of {K : KM} {d arg : Int} (h : 0 ≤ d ∧ d ≤ 2147483647 ∧ 0 ≤ arg ∧ arg ≤ 1000 ∧ K.ents.length < 256 ∧ 0 ≤ K.up ∧ K.up ≤ 2 ^ 40 ∧ 0 ≤ K.last ∧ K.last ≤ 2 ^ 40) :
    K.wait d arg = some (K.last + 1, { K with last := K.last + 1, ents := insE ⟨K.up + d + K.tic, K.last + 1, arg⟩ K.ents }) := if_pos h

theorem due_no {now : Int} {x : Ent} {l : List Ent} (h : now < x.at') : dueE now (x :: l) = [] := List.takeWhile_cons_of_neg (by simpa using h)

theorem due_yes {now : Int} {x : Ent} {l : List Ent} (h : x.at' ≤ now) : dueE now (x :: l) = x :: dueE now l := List.takeWhile_cons_of_pos (by simpa using h)

theorem rest_no {now : Int} {x : Ent} {l : List Ent} (h : now < x.at') : restE now (x :: l) = x :: l := List.dropWhile_cons_of_neg (by simpa using h)

theorem rest_yes {now : Int} {x : Ent} {l : List Ent} (h : x.at' ≤ now) : restE now (x :: l) = restE now l := List.dropWhile_cons_of_pos (by simpa using h)

namespace Del

def M1 : MM := (((MM.new []).setBase 1 1).getD (0, MM.new [])).2

def pl0 : PlaceM := ⟨[], false, false⟩

def u1 : Un := ⟨0, 0, 0, 2, false, 1, 1, 0, 0, 0, 0, 0⟩

def cf (t : Int) : ConfM := ⟨t, [(1, true)], [], [], [], []⟩

def K0 (t : Int) : KM := ⟨pl0, t, 0, 0, 0, [], [(1, 1)], M1, [u1], [], [], [], 1⟩

def KW (t d up : Int) : KM := ⟨pl0, t, up, 0, 1, [⟨d + t, 1, 1⟩], [], M1, [{ u1 with state := 4, kind := 2, handle := 1 }], [], [], [], 0⟩

def KR (t up : Int) : KM := ⟨pl0, t, up, 0, 1, [], [(1, 1)], M1, [u1], [], [], [], 1⟩

theorem new_eq (t : Int) : KM.new (cf t) = some (K0 t) := by kernel_rfl

theorem call_eq {t d : Int} (ht : 1 ≤ t ∧ t ≤ 100) (hd : 0 ≤ d ∧ d ≤ 65535) : (K0 t).call 2 (KM.cDly d) = some ((1, 0), KW t d 0) := by
  have hw : ({ K0 t with rdy := [] } : KM).wait d 1 = some (1, { K0 t with rdy := [], last := 1, ents := [⟨0 + d + t, 1, 1⟩] }) := by
    refine (wait_of (K := { K0 t with rdy := [] }) ⟨by omega, by omega, by omega, by omega, ?_⟩).trans rfl
    exact (by decide : (0 : Nat) < 256 ∧ (0 : Int) ≤ 0 ∧ (0 : Int) ≤ 2 ^ 40 ∧ (0 : Int) ≤ 0 ∧ (0 : Int) ≤ 2 ^ 40)
  have hs : (K0 t).stay 2 0 d = some { KW t d 0 with who := 1 } := by
    unfold KM.stay
    show (Option.bind (some u1) _) = _
    rw [Option.bind_some]
    rw [if_pos (show d ≥ 0 from hd.1)]
    show (({ K0 t with rdy := [] } : KM).wait d 1).bind _ = _
    rw [hw, Option.bind_some]
    unfold KW
    rw [show d + t = 0 + d + t by omega]
    rfl
  unfold KM.call
  rw [if_neg (fun h => h rfl)]
  unfold KM.cDly
  rw [if_neg (show ¬ (K0 t).who = 0 from fun h => by cases h), if_neg (by omega), hs]
  rfl

theorem tick_wait {t d up : Int} (ht : 1 ≤ t ∧ t ≤ 100) (hu : 0 ≤ up ∧ up ≤ 2 ^ 40) (h : up < d) : (KW t d up).tick = some (KW t d (up + t)) := by
  rw [tick_of (K := KW t d up) hu]
  have h1 : dueE (up + t) [⟨d + t, 1, 1⟩] = [] := due_no (by show up + t < d + t; omega)
  have h2 : restE (up + t) [⟨d + t, 1, 1⟩] = [⟨d + t, 1, 1⟩] := rest_no (by show up + t < d + t; omega)
  show Option.map KM.choose (KM.tickL ((dueE (up + t) [⟨d + t, 1, 1⟩]).map Ent.arg) { KW t d up with up := up + t, ents := restE (up + t) [⟨d + t, 1, 1⟩] }) = _
  rw [h1, h2]
  rfl

theorem tick_end {t d up : Int} (ht : 1 ≤ t ∧ t ≤ 100) (hu : 0 ≤ up ∧ up ≤ 2 ^ 40) (h : d ≤ up) : (KW t d up).tick = some (KR t (up + t)) := by
  rw [tick_of (K := KW t d up) hu]
  have h1 : dueE (up + t) [⟨d + t, 1, 1⟩] = [⟨d + t, 1, 1⟩] := due_yes (by show d + t ≤ up + t; omega)
  have h2 : restE (up + t) [⟨d + t, 1, 1⟩] = [] := rest_yes (by show d + t ≤ up + t; omega)
  show Option.map KM.choose (KM.tickL ((dueE (up + t) [⟨d + t, 1, 1⟩]).map Ent.arg) { KW t d up with up := up + t, ents := restE (up + t) [⟨d + t, 1, 1⟩] }) = _
  rw [h1, h2]
  rfl

theorem tick_run {t up : Int} (ht : 1 ≤ t ∧ t ≤ 100) (hu : 0 ≤ up ∧ up ≤ 2 ^ 40) : (KR t up).tick = some (KR t (up + t)) := by
  rw [tick_of (K := KR t up) hu]
  rfl

theorem task_run (t up : Int) : (KR t up).task 1 = some ⟨1, 1, 1, 0, 0, 0, 0, 0, 0, 0⟩ := rfl

theorem ok_cf {t : Int} (ht : 1 ≤ t ∧ t ≤ 100) : (cf t).ok = true := by
  unfold ConfM.ok
  rw [decide_eq_true ⟨ht.1, by show t ≤ 1000; omega, by simp [cf], by simp [cf], by simp [cf], by simp [cf], by simp [cf], by simp [cf]⟩]
  rfl

end Del

end Go.Proofs.YtenonfkfoedfmaaGreatDoor.B


/- What every law's proof wants: arguments that came in, and the step from a shallow program to the call. -/
namespace Go.Proofs.YtenonfkfoedfmaaGreatDoor.B
open Go
theorem enc_i {a b : Int} (h : a = b) : encK [kI] (a, ()) = [.int .i64 b] := by rw [h]; rfl
theorem enc_b {a b : Bool} (h : a = b) : encK [kB] (a, ()) = [.bool b] := by rw [h]; rfl
/-- a slice of whole numbers that came in -/
structure ArgI (k : IntKind) (e : World) (s : Sl) (xs : List Int) : Prop where
  len : xs.length = s.len
  cell : ∀ i x, xs[i]? = some x → ∃ b o, s.a = some ⟨b, o, none⟩ ∧ b < e.heap.size ∧ e.cell? ⟨b, o + i, none⟩ = some (.int k x)
  wf : ∀ x ∈ xs, (Lit.int k x).wf = true
  cap : s.len ≤ s.cap
/-- a slice of elements of 'sz' cells that came in -/
structure ArgS (sz : Nat) (e : World) (s : Sl) (vs : List Value) : Prop where
  len : vs.length = s.len * sz
  cell : ∀ i x, vs[i]? = some x → ∃ b o, s.a = some ⟨b, o, none⟩ ∧ b < e.heap.size ∧ e.cell? ⟨b, o + i, none⟩ = some x
  cap : s.len ≤ s.cap
/-- a slice of whole numbers that may be read as long as a part of the memory stays -/
def Rd (e : World) (A : SP) (k : IntKind) (s : Sl) (xs : List Int) : Prop :=
  xs.length = s.len ∧ ∀ (i : Nat) (x : Int), xs[i]? = some x → ∃ b o, s.a = some ⟨b, o, none⟩ ∧ ∀ L w, Ok e (A :: L) w → w.cell? ⟨b, o + i, none⟩ = some (.int k x)
theorem rd_arg {k : IntKind} {e : World} {s : Sl} {xs : List Int} (h : ArgI k e s xs) : Rd e (old e) k s xs := by
  refine ⟨h.len, fun i x hx => ?_⟩
  obtain ⟨b, o, ha, hb, hc⟩ := h.cell i x hx
  exact ⟨b, o, ha, fun L w hw => by rw [hw.old_cell (a := ⟨b, o + i, none⟩) hb]; exact hc⟩
theorem rd_slc {k : IntKind} {e : World} {L : List SP} {w : World} {s : Sl} {xs : List Int} (h : Ok e (slc 1 s (xs.map (Value.int k)) :: L) w) : Rd e (slc 1 s (xs.map (Value.int k))) k s xs := by
  obtain ⟨hl, hv, hc, hcase⟩ := h.slcE
  rw [List.length_map, Nat.mul_one] at hl
  refine ⟨hl, fun i x hx => ?_⟩
  have hlt := (List.getElem?_eq_some_iff.1 hx).1
  rcases hcase with ⟨ha, hcap, _⟩ | ⟨b, post, ha, _, _⟩
  · omega
  · refine ⟨b, 0, ha, fun L w hw => ?_⟩
    have := hw.slc_cells ha i (.int k x) (by rw [List.getElem?_map, hx]; rfl)
    rw [Addr.add_lit] at this
    exact this
theorem ix_rd {e : World} {A : SP} {k : IntKind} {s : Sl} {xs : List Int} {i : Int} {f : Nat → Nat → Prop} (h : Rd e A k s xs) (h0 : 0 ≤ i) (h1 : i < s.len)
    (kk : ∀ b o x, xs[i.toNat]? = some x → (∀ L w, Ok e (A :: L) w → w.cell? ⟨b, o, none⟩ = some (.int k x)) → f b o) : ix s i 1 f := by
  have hlt : i.toNat < xs.length := by rw [h.1]; omega
  obtain ⟨b, o, ha, hc⟩ := h.2 i.toNat _ (List.getElem?_eq_getElem hlt)
  refine ⟨b, o, ha, h0, h1, ?_⟩
  rw [Nat.mul_one]
  exact kk b _ _ (List.getElem?_eq_getElem hlt) hc
/-- a part of such a slice -/
theorem sb_rd {e : World} {A : SP} {k : IntKind} {s : Sl} {xs : List Int} {lo hi mx : Int} {f : Sl → Prop} (h : Rd e A k s xs) (h0 : 0 ≤ lo) (h1 : lo ≤ hi) (h2 : hi ≤ s.len) (h3 : hi ≤ mx) (h4 : mx ≤ s.cap)
    (kk : ∀ x : Sl, x.len = hi.toNat - lo.toNat → x.len ≤ x.cap → Rd e A k x ((xs.take hi.toNat).drop lo.toNat) → f x) : sb s lo hi mx 1 f := by
  refine ⟨h0, h1, h3, h4, kk _ (by simp [Sl.sub]) (by simp [Sl.sub]; omega) ⟨by rw [List.length_drop, List.length_take, h.1]; simp [Sl.sub]; omega, fun i x hx => ?_⟩⟩
  rw [List.getElem?_drop] at hx
  have hlt := (List.getElem?_eq_some_iff.1 hx).1
  rw [List.length_take] at hlt
  rw [List.getElem?_take_of_lt (by omega)] at hx
  obtain ⟨b, o, ha, hc⟩ := h.2 _ x hx
  refine ⟨b, o + lo.toNat, ?_, fun L w hw => by rw [Nat.add_assoc]; exact hc L w hw⟩
  simp only [Sl.sub, ha, Option.map_some, Nat.mul_one]
  rw [if_neg (by omega), Addr.add_lit]
theorem wf_u8 {x : Int} (h : (Lit.int .u8 x).wf = true) : 0 ≤ x ∧ x ≤ 255 := by simpa [Lit.wf, IntKind.min, IntKind.max, IntKind.signed, IntKind.bits] using h
theorem wf_i64 {x : Int} (h : (Lit.int .i64 x).wf = true) : -9223372036854775808 ≤ x ∧ x ≤ 9223372036854775807 := by simpa [Lit.wf, IntKind.min, IntKind.max, IntKind.signed, IntKind.bits] using h
theorem wf_u32 {x : Int} (h : (Lit.int .u32 x).wf = true) : 0 ≤ x ∧ x ≤ 4294967295 := by simpa [Lit.wf, IntKind.min, IntKind.max, IntKind.signed, IntKind.bits] using h
theorem ArgI.u8 {e s xs} (h : ArgI .u8 e s xs) {x : Int} (hx : x ∈ xs) : 0 ≤ x ∧ x ≤ 255 := by
  have := h.wf x hx
  simpa [Lit.wf, IntKind.min, IntKind.max, IntKind.signed, IntKind.bits] using this
theorem ArgI.i64 {e s xs} (h : ArgI .i64 e s xs) {x : Int} (hx : x ∈ xs) : -9223372036854775808 ≤ x ∧ x ≤ 9223372036854775807 := by
  have := h.wf x hx
  simpa [Lit.wf, IntKind.min, IntKind.max, IntKind.signed, IntKind.bits] using this
section
variable {e : World} {L : List SP} {w : World} {s : Sl}
theorem ix_arg {k : IntKind} {xs : List Int} {i : Int} {f : Nat → Nat → Prop} (h : ArgI k e s xs) (h0 : 0 ≤ i) (h1 : i < s.len)
    (kk : ∀ b o x, xs[i.toNat]? = some x → (∀ w', (∃ L', Ok e (old e :: L') w') → w'.cell? ⟨b, o, none⟩ = some (.int k x)) → f b o) : ix s i 1 f := by
  have hlt : i.toNat < xs.length := by rw [h.len]; omega
  obtain ⟨b, o, ha, hb, hc⟩ := h.cell i.toNat _ (List.getElem?_eq_getElem hlt)
  refine ⟨b, o, ha, h0, h1, kk b _ _ (List.getElem?_eq_getElem hlt) ?_⟩
  rintro w' ⟨L', h'⟩
  rw [h'.old_cell (a := ⟨b, o + i.toNat * 1, none⟩) hb, Nat.mul_one]; exact hc
theorem ix_args {sz : Nat} {vs : List Value} {i : Int} {f : Nat → Nat → Prop} (h : ArgS sz e s vs) (hsz : 0 < sz) (h0 : 0 ≤ i) (h1 : i < s.len)
    (kk : ∀ b o, (∀ j v, j < sz → vs[i.toNat * sz + j]? = some v → ∀ w', (∃ L', Ok e (old e :: L') w') → w'.cell? ⟨b, o + j, none⟩ = some v) → f b o) : ix s i sz f := by
  have hlt : i.toNat * sz < vs.length := by
    rw [h.len]
    exact Nat.mul_lt_mul_of_pos_right (by omega) hsz
  obtain ⟨b, o, ha, hb, hc⟩ := h.cell (i.toNat * sz) _ (List.getElem?_eq_getElem hlt)
  refine ⟨b, o, ha, h0, h1, kk b _ fun j v hj hv w' ⟨L', h'⟩ => ?_⟩
  obtain ⟨b', o', ha', hb', hc'⟩ := h.cell _ _ hv
  rw [ha] at ha'; cases ha'
  rw [h'.old_cell (a := ⟨b, o + i.toNat * sz + j, none⟩) hb, Nat.add_assoc]; exact hc'
theorem law_calls {P : Program} {f : FuncId} {fn : Func} {pl : Plan} {args : List Value} {w : World} {S : Prop} (hf : P.funcs[f]? = some fn)
    (tie : compF P fn pl args (fun vs w' => vs = [.bool true] ∧ Ok w [old w] w') w = S) (h : S) :
    Calls P f args.toArray w fun e w' => e = .returned (.bool true) ∧ Go.RowKit.Below w.heap.size w w' := by
  rw [← tie] at h
  refine Calls.mono (calls_of hf h) ?_
  rintro e w' ⟨vs, rfl, rfl, hok⟩
  exact ⟨rfl, hok.below⟩
end
end Go.Proofs.YtenonfkfoedfmaaGreatDoor.B


/- TopDelays: the walk. -/
namespace Go.Proofs.YtenonfkfoedfmaaGreatDoor.B
open Go
set_option linter.unusedVariables false

theorem w64_mod {a m : Int} (ha : 0 ≤ a) (hm : 0 < m ∧ m ≤ 1000000) : w64 (1 + w64 (Int.tmod a m)) = 1 + a % m ∧ 0 ≤ a % m ∧ a % m < m := by
  have h1 : Int.tmod a m = a % m := Int.tmod_eq_emod_of_nonneg ha
  have h2 := Int.emod_nonneg a (show m ≠ 0 by omega)
  have h3 := Int.emod_lt_of_pos a hm.1
  rw [h1, w64_in (x := a % m) (by omega) (by omega), w64_in (by omega) (by omega)]
  exact ⟨rfl, h2, h3⟩

theorem delays_walk {e L w a0 a1 R} (tb : TabE e) (h : Ok e (old e :: L) w) (h0 : 0 ≤ a0 ∧ a0 ≤ 255) (h1 : 0 ≤ a1 ∧ a1 ≤ 65535) (kk : ∀ w', Ok e (old e :: L) w' → R [.bool true] w') : sh5 a0 a1 R w := by
  unfold sh5
  refine call17 (known_top tb h fun w1 h => ⟨(true, ()), rfl, cs.no rfl ?_⟩)
  obtain ⟨e1, e2, e3⟩ := w64_mod (a := a0) (m := 100) h0.1 (by decide)
  rw [e1]
  obtain ⟨t, ht⟩ : ∃ t, t = 1 + a0 % 100 := ⟨_, rfl⟩
  have ht1 : 1 ≤ t ∧ t ≤ 100 := by omega
  rw [← ht]
  have e4 : w64 a1 = a1 := w64_in (by omega) (by omega)
  rw [e4]
  refine al.mk h fun b w2 h => ?_
  refine call18 (a0 := ⟨some ⟨b, 0, none⟩, 1, 1⟩) (tasks_top (l := [1]) (slcOf (l := [1]) h) (by decide) fun x w2 h => ⟨(((1 : Int), x, nilS, nilS, nilS, nilS, nilS, nilS, (0 : Int), ()), ()), rfl, ?_⟩)
  refine al.mk h fun c w3 h => ?_
  refine st1.mk h (by simp) fun w1 h => st1.mk h (by simp) fun w1 h => st1.mk h (by simp) fun w1 h => st1.mk h (by simp) fun w1 h => st1.mk h (by simp) fun w1 h => st1.mk h (by simp) fun w1 h => st1.mk h (by simp) fun w1 h => st1.mk h (by simp) fun w1 h => st1.mk h (by simp) fun w1 h => st1.mk h (by simp) fun w1 h => ?_
  refine ldI.mk (h.cell rfl) (ldS.mk (h.cell rfl) (ldS.mk (h.cell rfl) (ldS.mk (h.cell rfl) (ldS.mk (h.cell rfl) (ldS.mk (h.cell rfl) (ldS.mk (h.cell rfl) (ldS.mk (h.cell rfl) (ldI.mk (h.cell rfl) ?_))))))))
  refine call19 (a0 := cfV (Del.cf t) ⟨x, nilS, nilS, nilS, nilS⟩) (open_top tb (conf_tasks t h.drop) (Del.ok_cf ht1) (Del.new_eq t) fun k A w3 h => ⟨(some ⟨k, 0, none⟩, ()), rfl, ?_⟩)
  have h : Ok e (kerP k A (Del.K0 t) :: old e :: L) w3 := (h.emb (by repeat' (first | with_reducible exact Emb.same _ | exact Emb.nil _ | refine Emb.cons (by with_reducible first | exact sl0 | exact .there sl0 | exact .there sl1 | exact .there sl2 | exact .there sl3 | exact .there sl4 | exact .there sl5 | exact .there sl6 | exact .there sl7 | exact .there sl8 | exact .there sl9 | exact .there sl10 | exact .there sl11 | exact .there sl12) ?_ | refine Emb.skip ?_)))
  refine jn.mk fun J hJ => cs.no rfl (hJ _ _ (cs.mk (fun hc => kk w3 h.drop) (fun hc => ?_)))
  clear hJ J
  refine al.mk h fun b1 w4 h => ?_
  refine call20 (a2 := ⟨some ⟨b1, 0, none⟩, 1, 1⟩) (do_top (n := 22) (xs := [a1]) (do_22 tb) (slcOf (l := [a1]) h) (by simp) (Del.call_eq ht1 h1) fun w5 h => ⟨((1 : Int), (0 : Int), ()), rfl, cs.no rfl ?_⟩)
  have hc : ¬ a1 > 50 * t := by
    have := of_decide_eq_false hc
    rwa [w64_in (x := 50 * t) (by omega) (by omega)] at this
  refine lp.mk (fun i w1 => ∃ (n : Nat) (K : KM), @Eq Int i.1 ((n : Int) + 1) ∧ n ≤ 60 ∧ (K = if (n : Int) * t < a1 + t then Del.KW t a1 ((n : Int) * t) else Del.KR t ((n : Int) * t)) ∧ Ok e (kerP k A K :: old e :: L) w1)
    (fun i _ => Int.toNat (Int.sub 61 i.1)) ⟨0, _, rfl, by omega, rfl, ?_⟩ ?_
  · rw [if_pos (by rw [show ((0 : Nat) : Int) = 0 from rfl, Int.zero_mul]; omega), show ((0 : Nat) : Int) * t = 0 from Int.zero_mul t]
    exact h
  clear h
  rintro ⟨(i : Int), _⟩ w6 ⟨n, K, (rfl : i = (n : Int) + 1), hn, hK, h⟩
  dsimp only
  have hm : (n : Int) * t ≤ 6000 ∧ 0 ≤ (n : Int) * t := ⟨Int.le_trans (Int.mul_le_mul_of_nonneg_right (show (n : Int) ≤ 60 by omega) (by omega)) (by omega), Int.mul_nonneg (by omega) (by omega)⟩
  have hs : ((n : Int) + 1) * t = (n : Int) * t + t := by rw [Int.add_mul, Int.one_mul]
  refine cs.mk (fun h2 => ?_) (fun h2 => ?_)
  · have h2 : n < 60 := by have := of_decide_eq_true h2; omega
    have hT : ∃ K', K.tick = some K' ∧ (K' = if (n : Int) * t + t < a1 + t then Del.KW t a1 ((n : Int) * t + t) else Del.KR t ((n : Int) * t + t)) := by
      by_cases c1 : (n : Int) * t < a1
      · rw [if_pos (by omega)] at hK
        exact ⟨_, hK ▸ Del.tick_wait ht1 ⟨hm.2, by omega⟩ c1, by rw [if_pos (by omega)]⟩
      · by_cases c2 : (n : Int) * t < a1 + t
        · rw [if_pos c2] at hK
          exact ⟨_, hK ▸ Del.tick_end ht1 ⟨hm.2, by omega⟩ (by omega), by rw [if_neg (by omega)]⟩
        · rw [if_neg c2] at hK
          exact ⟨_, hK ▸ Del.tick_run ht1 ⟨hm.2, by omega⟩, by rw [if_neg (by omega)]⟩
    obtain ⟨K', hT, hK'⟩ := hT
    refine call22 (Tick_kern tb h hT fun w7 h => ⟨(nilS, ()), rfl, ?_⟩)
    refine call21 (Running_kern h ⟨(K'.who, ()), rfl, ?_⟩)
    rw [hs, w64_in (x := (n : Int) * t + t) (by omega) (by omega), w64_in (x := a1 + t) (by omega) (by omega)]
    refine cs.no ?_ ⟨⟨n + 1, K', ?_, by omega, ?_, h⟩, ?_⟩
    · dsimp only
      by_cases c1 : (n : Int) * t + t < a1 + t
      · rw [if_pos c1] at hK'
        rw [hK', decide_eq_false (by omega)]; rfl
      · rw [if_neg c1] at hK'
        rw [hK', decide_eq_true (by omega)]; rfl
    · exact w64_in (by omega) (by omega)
    · rw [show ((n + 1 : Nat) : Int) = (n : Int) + 1 from rfl, hs]; exact hK'
    · show ((61 : Int) - w64 ((n : Int) + 1 + 1)).toNat < ((61 : Int) - ((n : Int) + 1)).toNat
      rw [w64_in (by omega) (by omega)]
      omega
  · have h2 : n = 60 := by have := of_decide_eq_false h2; omega
    subst h2
    rw [if_neg (by show ¬ ((60 : Int) * t < a1 + t); omega)] at hK
    subst hK
    refine call23 (last_top h (Del.task_run t _) fun w7 h => ⟨((0 : Int), (0 : Int), ()), rfl, kk w7 h.drop⟩)

theorem wf_u16 {x : Int} (h : (Lit.int .u16 x).wf = true) : 0 ≤ x ∧ x ≤ 65535 := by simpa [Lit.wf, IntKind.min, IntKind.max, IntKind.signed, IntKind.bits] using h

theorem TopDelays_walk {W a0 a1} (tb : TabE W) (h0 : (Lit.int .u8 a0).wf = true) (h1 : (Lit.int .u16 a1).wf = true) : sh5 a0 a1 (fun vs w' => vs = [.bool true] ∧ Ok W [old W] w') W :=
  delays_walk tb (Ok.start W) (wf_u8 h0) (wf_u16 h1) fun w' h => ⟨rfl, h⟩

end Go.Proofs.YtenonfkfoedfmaaGreatDoor.B


/- What the rows of the whole lay: the library's table. -/
namespace Go.Proofs.YtenonfkfoedfmaaGreatDoor.B
open Go
open Go.ChangeShapes Go.WideShapes Go.ChangeAt Go.RowKit
set_option linter.unusedVariables false

abbrev laidL : List (String × DataW Unit) := [("math/bits.deBruijn64tab", Rows.laid_math_bits_deBruijn64tab)]

theorem gTab : Tryz.prog.globalNamed "math/bits.deBruijn64tab" = some 0 := by kernel_rfl

theorem tTab : (Tryz.prog.globals[0]?).map (·.type) = some 339 := by kernel_rfl

theorem uTab : Tryz.prog.underlying 339 = some (.array 64 5) := by kernel_rfl

theorem uU8 : Tryz.prog.underlying 5 = some (.int .u8) := by kernel_rfl

theorem door_met (os : Os) (args : Array Value) : laidMetH Tryz.prog laidL ((World.doorLaid Tryz.prog 400 os).forCall (fun _ _ => 0) ⟨#[], args, []⟩).memory :=
  laidMetH_of_parts3 (fuel := 8) (laidMet_of_run' 8 (by kernel_rfl) (by kernel_rfl)) (by kernel_rfl) (by kernel_rfl)

theorem of_laid {W : World} (h : laidMetH Tryz.prog laidL W) : TabE W := by
  rw [MakeChecks.laidMetH_plain _ _ _ (by kernel_rfl)] at h
  obtain ⟨ps, ⟨g0, t0, cs0, f0, p0, q0, hg0, ht0, hv0, hd0, _⟩, _, _⟩ := h
  obtain rfl := Option.some.inj (gTab.symm.trans hg0)
  obtain rfl := Option.some.inj (tTab.symm.trans ht0)
  obtain ⟨xs, m1, rfl, hx1, hlen, hn3, hel⟩ := DataW.trod_array uTab hd0
  have c1 : Tryz.prog.cellsOf 5 = 1 := by kernel_rfl
  rw [c1] at hel
  have hx2 : (tzTab.map fun v => (DataW.lit (.int .u8 v) : DataW Unit)) = xs.map (·.1) := by
    have := congrArg Prod.fst hx1
    exact (DataW.agg.injEq _ _).mp this
  refine ⟨fun j v hv => ?_, ?_⟩
  · have hj : j < 64 := (List.getElem?_eq_some_iff.1 hv).1
    have h1 : (xs.map (·.1))[j]? = some (DataW.lit (.int .u8 v)) := by rw [← hx2, List.getElem?_map, hv]; rfl
    rw [List.getElem?_map] at h1
    obtain ⟨x, hx, hxe⟩ := Option.map_eq_some_iff.1 h1
    have h2 := hel j hj
    rw [hx] at h2
    obtain ⟨n, e1, e2, _⟩ := DataW.trod_int uU8 h2
    have hnv : n = v := by
      rw [e2] at hxe
      simpa using hxe
    subst hnv
    rw [World.var?_cell hg0 hv0 j]
    have h3 : (cs0.toList.drop j)[0]? = some (.int .u8 n) := by
      rw [Nat.mul_one] at e1
      have : ((cs0.toList.drop j).take 1)[0]? = some (.int .u8 n) := by rw [e1]; rfl
      simpa using this
    rw [List.getElem?_drop] at h3
    simpa using h3
  · have := World.var?_cell hg0 hv0 0
    unfold World.var? at hv0
    rw [hg0, Option.bind_some] at hv0
    apply Nat.lt_of_not_le
    intro hc
    rw [Array.getElem?_eq_none hc] at hv0
    cases hv0

/-! ### what a row asks of the program -/
theorem and_i {a b : Bool} (h1 : a = true) (h2 : b = true) : (a && b) = true := by rw [h1, h2]; rfl

theorem pf1 : (laidOutB Tryz.prog) = true := by kernel_rfl

theorem pf2 : (mapsRowed Tryz.prog) = true := by kernel_rfl

theorem pf5 : ((Rows.topDelaysRow.stops == [])) = true := by kernel_rfl

theorem pf6 : ((Tryz.prog.stops == [])) = true := by kernel_rfl

theorem pf7 : ((Rows.topDelaysRow.knobs == [])) = true := by kernel_rfl

theorem pf8 : ((Tryz.prog.stopKnobs == [])) = true := by kernel_rfl

theorem pf22 : ((Rows.topDelaysRow.plainKeys == Tryz.prog.plainKeys)) = true := by kernel_rfl

theorem pf23 : (Rows.topDelaysRow.shortTexts.isNone) = true := by kernel_rfl

theorem pf24 : (Tryz.prog.stopsHeard) = true := by kernel_rfl

theorem pf25 : (Tryz.prog.mayEnter) = true := by kernel_rfl

theorem pf26 : ((Rows.topDelaysRow.lifted == Tryz.prog.liftsFinal)) = true := by kernel_rfl

theorem pf27 : ((Tryz.prog.make == some Rows.topDelaysRow.make)) = true := by kernel_rfl

end Go.Proofs.YtenonfkfoedfmaaGreatDoor.B


/- What came in: slices of scalars, and of structs of scalars, opened to their cells. -/
namespace Go.Proofs.YtenonfkfoedfmaaGreatDoor.B
open Go
open Go.Deep (open_slice choose_lt)
set_option linter.unusedVariables false
inductive Fk where
  | i (k : IntKind)
  | b
  | s (F : Fk)
def Fk.at (w : World) : Fk → Value → Prop
  | .i k, v => ∃ n, v = .int k n ∧ (Lit.int k n).wf = true
  | .b, v => ∃ x, v = .bool x
  | .s F, v => ∃ s vs, v = vS s ∧ ArgS 1 w s vs ∧ ∀ u ∈ vs, F.at w u
abbrev ArgF (Fs : List Fk) (e : World) (s : Sl) (vs : List Value) : Prop := ArgS Fs.length e s vs ∧ ∀ i, i < s.len → ∀ (j : Nat) F, Fs[j]? = some F → ∃ u, vs[i * Fs.length + j]? = some u ∧ F.at e u
def Fk.ty (P : Program) : TypeId → Fk → Bool
  | t, .i k => match P.underlying t with | some (.int k') => k == k' | _ => false
  | t, .b => match P.underlying t with | some .bool => true | _ => false
  | t, .s F => match P.underlying t with | some (.slice el) => P.cellsOf el == 1 && F.ty P el | _ => false
def fldsTok (P : Program) : Nat → List Field → List Fk → Bool
  | _, [], [] => true
  | j, f :: fs, F :: Fs => f.offset == j && P.cellsOf f.type == 1 && Fk.ty P f.type F && fldsTok P (j + 1) fs Fs
  | _, _, _ => false
def rowTok (P : Program) (el : TypeId) (Fs : List Fk) : Bool :=
  P.cellsOf el == Fs.length && match P.underlying el with
    | some (.struct fs) => fldsTok P 0 fs.toList Fs
    | _ => match Fs with | [F] => Fk.ty P el F | _ => false
section
variable {H : Type} {enc : TypeId × Value → H} {P : Program} {w : World} {base : Nat} {spare : Nat → Bool} {held : Bool}
theorem cell_block_lt {a : Addr} {v : Value} (h : w.cell? a = some v) : a.block < w.heap.size := by
  unfold World.cell? at h
  split at h
  · next hb => exact (Array.getElem?_eq_some_iff.1 hb).1
  · cases h
theorem Fk.open {F : Fk} : ∀ {t : TypeId} {fuel : Nat} {cs : List Value} {x : DataW H × List MemPlace}, Fk.ty P t F = true → DataW.trod enc P w base spare held fuel t cs = some x → ∃ v, cs = [v] ∧ F.at w v := by
  induction F with
  | i k =>
    intro t fuel cs x ht h
    simp only [Fk.ty] at ht
    split at ht
    · next k' hk =>
      have : k = k' := by simpa using ht
      subst this
      obtain ⟨n, rfl, _, hw⟩ := DataW.trod_int hk h
      exact ⟨_, rfl, n, rfl, hw⟩
    · cases ht
  | b =>
    intro t fuel cs x ht h
    simp only [Fk.ty] at ht
    split at ht
    · next hk =>
      obtain ⟨n, rfl, _⟩ := DataW.trod_bool hk h
      exact ⟨_, rfl, n, rfl⟩
    · cases ht
  | s F ih =>
    intro t fuel cs x ht h
    simp only [Fk.ty] at ht
    split at ht
    · next el hk =>
      simp only [Bool.and_eq_true, beq_iff_eq] at ht
      rcases Go.Deep.open_slice1 hk ht.1 h with ⟨rfl, _⟩ | ⟨a, len, cap, m, n, V, D, Pl, rfl, _, hl, _, hm, _, hx⟩
      · exact ⟨_, rfl, ⟨none, 0, 0⟩, [], rfl, ⟨by simp, fun i x h => by simp at h, Nat.le_refl _⟩, by simp⟩
      · have hle : len ≤ m := by rw [hm]; split <;> omega
        refine ⟨_, rfl, ⟨some a, len, cap⟩, (List.range len).map V, rfl, ⟨by simp, fun i x hi => ?_, hl⟩, fun u hu => ?_⟩
        · have hil : i < len := by
            have := (List.getElem?_eq_some_iff.1 hi).1
            simpa using this
          rw [List.getElem?_map, List.getElem?_range hil] at hi
          simp only [Option.map_some, Option.some.injEq] at hi
          subst hi
          have h1 := (hx i (by omega)).1
          have h0 := (hx 0 (by omega)).1
          have hsp := World.cell?_spot h0
          obtain ⟨b, o, sp⟩ := a
          have : sp = none := by simpa [Addr.add] using hsp
          subst this
          rw [Addr.add_lit] at h1
          exact ⟨b, o, rfl, cell_block_lt h1, h1⟩
        · obtain ⟨i, hi, rfl⟩ := List.mem_map.1 hu
          have hil : i < len := by simpa using hi
          obtain ⟨v, hv, hat⟩ := ih ht.2 (hx i (by omega)).2
          cases hv
          exact hat
    · cases ht
theorem fldsTok_at : ∀ {fs : List Field} {Fs : List Fk} {j0 : Nat}, fldsTok P j0 fs Fs = true → ∀ {j : Nat} {F : Fk}, Fs[j]? = some F → ∃ f, fs[j]? = some f ∧ f.offset = j0 + j ∧ P.cellsOf f.type = 1 ∧ Fk.ty P f.type F = true
  | [], [], _, _, j, F, hj => by simp at hj
  | [], _ :: _, _, h, _, _, _ => by simp [fldsTok] at h
  | _ :: _, [], _, h, _, _, _ => by simp [fldsTok] at h
  | f :: fs, F' :: Fs, j0, h, j, F, hj => by
    simp only [fldsTok, Bool.and_eq_true, beq_iff_eq] at h
    cases j with
    | zero =>
      cases hj
      exact ⟨f, rfl, h.1.1.1, h.1.1.2, h.1.2⟩
    | succ j =>
      obtain ⟨g, h1, h2, h3⟩ := fldsTok_at h.2 (j := j) (F := F) (by simpa using hj)
      exact ⟨g, by simpa using h1, by omega, h3⟩
theorem open_row {t el : TypeId} {Fs : List Fk} {r : Reach} {b0 : Nat} {v : Value} {d : DataW H} {ps : List MemPlace} (ht : P.underlying t = some (.slice el)) (hF : rowTok P el Fs = true) (hn : 0 < Fs.length)
    (hval : Value.okWide P w r b0 t v) (hd : DataW.Trod enc P w base spare held t v d ps) :
    ∃ s vs, v = vS s ∧ ArgS Fs.length w s vs ∧ ∀ i, i < s.len → ∀ (j : Nat) F, Fs[j]? = some F → ∃ u, vs[i * Fs.length + j]? = some u ∧ F.at w u := by
  obtain ⟨a, len, cap, rfl⟩ := Go.WideShapes.okWide_slice ht hval
  obtain ⟨fuel, hf⟩ := hd
  rcases open_slice ht hf with ⟨hcs, _⟩ | ⟨a', len', cap', m, n, D, Pl, hcs, _, hl, hm, hmm, _, hx⟩
  · simp [Value.cells] at hcs
    obtain ⟨rfl, rfl, rfl⟩ := hcs
    exact ⟨⟨none, 0, 0⟩, [], rfl, ⟨by simp, fun i x h => by simp at h, Nat.le_refl _⟩, fun i hi => absurd hi (Nat.not_lt_zero _)⟩
  · simp [Value.cells] at hcs
    obtain ⟨rfl, rfl, rfl⟩ := hcs
    simp only [rowTok, Bool.and_eq_true, beq_iff_eq] at hF
    have each : ∀ i, i < len → ∀ (j : Nat) F, Fs[j]? = some F → ∃ u, w.cell? (a'.add (i * Fs.length + j)) = some u ∧ F.at w u := by
      intro i hi j F hj
      have him : i < m := by rw [hmm]; split <;> omega
      obtain ⟨cs', h1, h2⟩ := hx i him
      have hjl : j < Fs.length := (List.getElem?_eq_some_iff.1 hj).1
      rw [hF.1] at h1
      obtain ⟨_, hlen, hc⟩ := World.cells?_some h1
      have hc := hc j hjl
      rw [show (a'.add (i * Fs.length)).add j = a'.add (i * Fs.length + j) from Go.Deep.add_add ..] at hc
      have h3 := hF.2
      split at h3
      · next fs hfs =>
        obtain ⟨f, hf1, hf2, hf3, hf4⟩ := fldsTok_at h3 hj
        obtain ⟨xs, n', _, _, _, hxl, hfx⟩ := DataW.trod_struct hfs h2
        have hg := hfx j f (by simpa using hf1)
        rw [hf2, hf3, Nat.zero_add] at hg
        have hjx : j < xs.length := by
          rw [hxl]
          have := (List.getElem?_eq_some_iff.1 hf1).1
          simpa using this
        rw [List.getElem?_eq_getElem hjx] at hg
        obtain ⟨u, hu, hat⟩ := Fk.open hf4 hg
        refine ⟨u, ?_, hat⟩
        rw [hc]
        have : ((cs'.drop j).take 1)[0]? = some u := by rw [hu]; rfl
        rw [List.getElem?_take_of_lt (by decide), List.getElem?_drop] at this; simpa using this
      · split at h3
        · next F' =>
          have hj0 : j = 0 := by simp at hjl; omega
          subst hj0
          cases hj
          obtain ⟨u, rfl, hat⟩ := Fk.open h3 h2
          exact ⟨u, by rw [hc]; rfl, hat⟩
        · cases h3
    have eachq : ∀ q, q < len * Fs.length → ∃ u, w.cell? (a'.add q) = some u := by
      intro q hq
      have hq2 : q % Fs.length < Fs.length := Nat.mod_lt _ hn
      have hq1 : q / Fs.length < len := Nat.div_lt_of_lt_mul (by rw [Nat.mul_comm]; exact hq)
      obtain ⟨u, hu, _⟩ := each _ hq1 _ _ (List.getElem?_eq_getElem hq2)
      rw [Nat.div_add_mod'] at hu
      exact ⟨u, hu⟩
    refine ⟨⟨some a', len, cap⟩, (List.range (len * Fs.length)).map fun q => (w.cell? (a'.add q)).getD (.bool false), rfl, ⟨by simp, fun q x hq => ?_, hl⟩, fun i hi j F hj => ?_⟩
    · have hql : q < len * Fs.length := by
        have := (List.getElem?_eq_some_iff.1 hq).1
        simpa using this
      obtain ⟨u, hu⟩ := eachq q hql
      have hxu : x = u := by
        rw [List.getElem?_map, List.getElem?_range hql] at hq
        simp only [Option.map_some, hu, Option.getD_some, Option.some.injEq] at hq
        exact hq.symm
      subst hxu
      obtain ⟨u0, hu0⟩ := eachq 0 (by omega)
      have hsp := World.cell?_spot hu0
      obtain ⟨b, o, sp⟩ := a'
      have : sp = none := by simpa [Addr.add] using hsp
      subst this
      have ha : (⟨b, o, none⟩ : Addr).add q = ⟨b, o + q, none⟩ := by
        simp only [Addr.add]
        split
        · next h0 => rw [h0]; rfl
        · rfl
      rw [ha] at hu
      exact ⟨b, o, rfl, cell_block_lt hu, hu⟩
    · obtain ⟨u, hu, hat⟩ := each i hi j F hj
      have hjl : j < Fs.length := (List.getElem?_eq_some_iff.1 hj).1
      have hlt : i * Fs.length + j < len * Fs.length := by
        calc i * Fs.length + j < i * Fs.length + Fs.length := by omega
          _ = (i + 1) * Fs.length := by rw [Nat.succ_mul]
          _ ≤ len * Fs.length := Nat.mul_le_mul_right _ hi
      refine ⟨u, ?_, hat⟩
      rw [List.getElem?_map, List.getElem?_range hlt]
      simp [hu]
theorem open_argI {t el : TypeId} {k : IntKind} {r : Reach} {b0 : Nat} {v : Value} {d : DataW H} {ps : List MemPlace} (ht : P.underlying t = some (.slice el)) (hF : rowTok P el [.i k] = true)
    (hval : Value.okWide P w r b0 t v) (hd : DataW.Trod enc P w base spare held t v d ps) : ∃ s xs, v = vS s ∧ ArgI k w s xs := by
  obtain ⟨s, vs, rfl, ha, hv⟩ := open_row ht hF (by simp) hval hd
  have hlen : vs.length = s.len := by rw [ha.len]; simp
  have hv' : ∀ i, i < s.len → ∃ n, vs[i]? = some (.int k n) ∧ (Lit.int k n).wf = true := by
    intro i hi
    obtain ⟨u, hu, n, rfl, hw⟩ := hv i hi 0 _ rfl
    exact ⟨n, by simpa using hu, hw⟩
  obtain ⟨f, hf⟩ := choose_lt (p := fun i (n : Int) => vs[i]? = some (.int k n) ∧ (Lit.int k n).wf = true) hv'
  refine ⟨s, (List.range s.len).map f, rfl, by simp, fun i x hi => ?_, fun x hx => ?_, ha.cap⟩
  · have hil : i < s.len := by
      have := (List.getElem?_eq_some_iff.1 hi).1
      simpa using this
    rw [List.getElem?_map, List.getElem?_range hil] at hi
    simp only [Option.map_some, Option.some.injEq] at hi
    subst hi
    exact ha.cell i _ (hf i hil).1
  · obtain ⟨i, hi, rfl⟩ := List.mem_map.1 hx
    exact (hf i (by simpa using hi)).2
/-- a slice of whole numbers in a row -/
theorem argI_of {k : IntKind} {v : Value} (h : (Fk.s (.i k)).at w v) : ∃ s xs, v = vS s ∧ ArgI k w s xs := by
  obtain ⟨s, vs, rfl, ha, hv⟩ := h
  have hlen : vs.length = s.len := by rw [ha.len, Nat.mul_one]
  have hv' : ∀ i, i < s.len → ∃ n, vs[i]? = some (.int k n) ∧ (Lit.int k n).wf = true := by
    intro i hi
    have hlt : i < vs.length := by omega
    obtain ⟨n, hn, hw⟩ := hv vs[i] (List.getElem_mem hlt)
    exact ⟨n, by rw [List.getElem?_eq_getElem hlt, hn], hw⟩
  obtain ⟨f, hf⟩ := choose_lt (p := fun i (n : Int) => vs[i]? = some (.int k n) ∧ (Lit.int k n).wf = true) hv'
  refine ⟨s, (List.range s.len).map f, rfl, by simp, fun i x hi => ?_, fun x hx => ?_, ha.cap⟩
  · have hil : i < s.len := by
      have := (List.getElem?_eq_some_iff.1 hi).1
      simpa using this
    rw [List.getElem?_map, List.getElem?_range hil] at hi
    simp only [Option.map_some, Option.some.injEq] at hi
    subst hi
    exact ha.cell i _ (hf i hil).1
  · obtain ⟨i, hi, rfl⟩ := List.mem_map.1 hx
    exact (hf i (by simpa using hi)).2
/-- an array of whole numbers -/
def arrTok (P : Program) (t : TypeId) (n : Nat) (k : IntKind) : Bool :=
  match P.underlying t with
  | some (.array m e) => Nat.beq m n && Nat.beq (P.cellsOf e) 1 && Nat.beq (P.cellsOf t) m && (match P.underlying e with | some (.int k') => k == k' | _ => false)
  | _ => false
theorem mapM_all {α β : Type} {f : α → Option β} : ∀ {l : List α} {ys : List β}, l.mapM f = some ys → ∀ x ∈ l, ∃ y, f x = some y := by
  intro l
  induction l with
  | nil => intro ys _ x hx; cases hx
  | cons a r ih =>
    intro ys h x hx
    rw [List.mapM_cons] at h
    obtain ⟨y, hy, h⟩ := Option.bind_eq_some_iff.1 h
    obtain ⟨zs, hz, _⟩ := Option.bind_eq_some_iff.1 h
    rcases List.mem_cons.1 hx with rfl | hx
    · exact ⟨y, hy⟩
    · exact ih hz x hx
theorem open_arr {t : TypeId} {n : Nat} {k : IntKind} {r : Reach} {b0 : Nat} {v : Value} {d : DataW H} {ps : List MemPlace} (ht : arrTok P t n k = true)
    (hval : Value.okWide P w r b0 t v) (hd : DataW.Trod enc P w base spare held t v d ps) : ∃ xs : List Int, xs.length = n ∧ v = .agg (xs.map (Value.int k)).toArray ∧ ∀ x ∈ xs, (Lit.int k x).wf = true := by
  unfold arrTok at ht
  split at ht
  · next m e hu =>
    simp only [Bool.and_eq_true] at ht
    obtain ⟨⟨⟨h1, h2⟩, h4⟩, h3⟩ := ht
    have h4 := Nat.eq_of_beq_eq_true h4
    have h1 := Nat.eq_of_beq_eq_true h1
    have h2 := Nat.eq_of_beq_eq_true h2
    subst h1
    split at h3
    · next k' he =>
      have : k = k' := by simpa using h3
      subst this
      simp only [Value.okWide, hu] at hval
      obtain ⟨cs, rfl, hsz, -⟩ := hval
      obtain ⟨fuel, hf⟩ := hd
      cases fuel with
      | zero => simp [DataW.trod] at hf
      | succ fuel =>
        unfold DataW.trod at hf
        rw [hu] at hf
        change (if cs.toList.length = P.cellsOf t then _ else none) = _ at hf
        rw [if_pos (show cs.toList.length = P.cellsOf t by rw [Array.length_toList, hsz])] at hf
        obtain ⟨ys, hy, -⟩ := Option.map_eq_some_iff.1 hf
        have hx : ∀ i, i < m → ∃ x : Int, cs.toList[i]? = some (.int k x) ∧ (Lit.int k x).wf = true := by
          intro i hi
          obtain ⟨y, hy⟩ := mapM_all hy i (List.mem_range.2 hi)
          rw [h2, Nat.mul_one] at hy
          obtain ⟨x, hx, _, hw⟩ := DataW.trod_int he hy
          refine ⟨x, ?_, hw⟩
          have := congrArg (fun l => l[0]?) hx
          simp only [List.getElem?_take_of_lt (show 0 < 1 by decide), List.getElem?_drop, Nat.add_zero] at this
          exact this
        obtain ⟨f, hf⟩ := choose_lt (p := fun i (x : Int) => cs.toList[i]? = some (.int k x) ∧ (Lit.int k x).wf = true) hx
        have hlen : cs.toList.length = m := by
          rw [Array.length_toList, hsz, h4]
        refine ⟨(List.range m).map f, by simp, ?_, fun x hx => ?_⟩
        · have : cs.toList = ((List.range m).map f).map (Value.int k) := by
            refine List.ext_getElem? fun i => ?_
            by_cases hi : i < m
            · rw [(hf i hi).1]
              simp [hi]
            · rw [List.getElem?_eq_none (by omega), List.getElem?_eq_none (by simp; omega)]
          rw [← this]
        · obtain ⟨i, hi, rfl⟩ := List.mem_map.1 hx
          exact (hf i (List.mem_range.1 hi)).2
    · cases h3
  · cases ht
theorem open_arr3 {t : TypeId} {k : IntKind} {r : Reach} {b0 : Nat} {v : Value} {d : DataW H} {ps : List MemPlace} (ht : arrTok P t 3 k = true)
    (hval : Value.okWide P w r b0 t v) (hd : DataW.Trod enc P w base spare held t v d ps) : ∃ x0 x1 x2 : Int, v = .agg #[.int k x0, .int k x1, .int k x2] ∧ (Lit.int k x0).wf = true ∧ (Lit.int k x1).wf = true ∧ (Lit.int k x2).wf = true := by
  obtain ⟨xs, hl, rfl, hw⟩ := open_arr ht hval hd
  match xs, hl with
  | [x0, x1, x2], _ => exact ⟨x0, x1, x2, rfl, hw _ (by simp), hw _ (by simp), hw _ (by simp)⟩
theorem open_arr4 {t : TypeId} {k : IntKind} {r : Reach} {b0 : Nat} {v : Value} {d : DataW H} {ps : List MemPlace} (ht : arrTok P t 4 k = true)
    (hval : Value.okWide P w r b0 t v) (hd : DataW.Trod enc P w base spare held t v d ps) : ∃ x0 x1 x2 x3 : Int, v = .agg #[.int k x0, .int k x1, .int k x2, .int k x3] ∧ (Lit.int k x0).wf = true ∧ (Lit.int k x1).wf = true ∧ (Lit.int k x2).wf = true ∧ (Lit.int k x3).wf = true := by
  obtain ⟨xs, hl, rfl, hw⟩ := open_arr ht hval hd
  match xs, hl with
  | [x0, x1, x2, x3], _ => exact ⟨x0, x1, x2, x3, rfl, hw _ (by simp), hw _ (by simp), hw _ (by simp), hw _ (by simp)⟩
end
end Go.Proofs.YtenonfkfoedfmaaGreatDoor.B

