/- Contracts of the package por: the port. -/
import Derived.Test.YtbhmejmkoefahaaPor
namespace Go.Proofs.Ytbhmejmkoefahaa.B
open Go
set_option linter.unusedVariables false

def hC (q : PP) (σ : Int → Sl) (f : Int → Option Value) : Prop := ∀ i ∈ ids q.C, f i = some (.agg #[.int .u32 (q.g i), vS (σ i)])

def hA (q : PP) (f : Int → Option Value) : Prop := ∀ i ∈ ids q.A, f i = some (.agg #[.int .u32 (q.g i), vS ⟨none, 0, 0⟩])

def portP (b : Nat) (byPri : Bool) (most : Int) (q : PP) : SP := fun h => ∃ pc mc pa ma so fc fa σ, hC q σ fc ∧ hA q fa ∧
  oksH [pts b [.pointer (some ⟨pc, 0, none⟩), .map (some mc), .pointer (some ⟨pa, 0, none⟩), .map (some ma), .int .i64 most, .int .i64 q.last, vS so], lineP pc [.bool byPri] q.C, mpP mc fc, lineP pa [.bool false] q.A, mpP ma fa, slc 3 so (flat op3 q.L), bagP σ q.s (ids q.C)] h

theorem portE {e w L b byPri most q} (h : Ok e (portP b byPri most q :: L) w) : ∃ pc mc pa ma so, ∃ fc fa : Int → Option Value, ∃ σ : Int → Sl, hC q σ fc ∧ hA q fa ∧
    Ok e (pts b [.pointer (some ⟨pc, 0, none⟩), .map (some mc), .pointer (some ⟨pa, 0, none⟩), .map (some ma), .int .i64 most, .int .i64 q.last, vS so] :: lineP pc [.bool byPri] q.C :: mpP mc fc :: lineP pa [.bool false] q.A :: mpP ma fa :: slc 3 so (flat op3 q.L) :: bagP σ q.s (ids q.C) :: L) w := by
  obtain ⟨pc, h⟩ := h.exE
  obtain ⟨mc, h⟩ := h.exE
  obtain ⟨pa, h⟩ := h.exE
  obtain ⟨ma, h⟩ := h.exE
  obtain ⟨so, h⟩ := h.exE
  obtain ⟨fc, h⟩ := h.exE
  obtain ⟨fa, h⟩ := h.exE
  obtain ⟨σ, h⟩ := h.exE
  obtain ⟨h1, h⟩ := h.pureE
  obtain ⟨h2, h⟩ := h.pureE
  exact ⟨pc, mc, pa, ma, so, fc, fa, σ, h1, h2, h.unpack⟩

theorem portI {e w L b byPri most q pc mc pa ma so} {fc fa : Int → Option Value} {σ : Int → Sl} (h1 : hC q σ fc) (h2 : hA q fa)
    (h : Ok e (pts b [.pointer (some ⟨pc, 0, none⟩), .map (some mc), .pointer (some ⟨pa, 0, none⟩), .map (some ma), .int .i64 most, .int .i64 q.last, vS so] :: lineP pc [.bool byPri] q.C :: mpP mc fc :: lineP pa [.bool false] q.A :: mpP ma fa :: slc 3 so (flat op3 q.L) :: bagP σ q.s (ids q.C) :: L) w) : Ok e (portP b byPri most q :: L) w :=
  (Ok.pack (M := [pts b [.pointer (some ⟨pc, 0, none⟩), .map (some mc), .pointer (some ⟨pa, 0, none⟩), .map (some ma), .int .i64 most, .int .i64 q.last, vS so], lineP pc [.bool byPri] q.C, mpP mc fc, lineP pa [.bool false] q.A, mpP ma fa, slc 3 so (flat op3 q.L), bagP σ q.s (ids q.C)]) h).imp fun k hk => ⟨pc, mc, pa, ma, so, fc, fa, σ, h1, h2, hk⟩

theorem New_por {e w L byPri most R} (h : Ok e L w) (k0 : ¬ (0 ≤ most ∧ most ≤ 1024) → R [.pointer none, .int .i64 (-17)] w)
    (k1 : (0 ≤ most ∧ most ≤ 1024) → ∀ b w', Ok e (portP b byPri most ⟨[], [], fun _ => 0, fun _ => [], [], 0⟩ :: L) w' → R [.pointer (some ⟨b, 0, none⟩), .int .i64 0] w') : sh8 byPri most R w := by
  unfold sh8
  refine jn.bool (decide (¬ (0 ≤ most ∧ most ≤ 1024))) (fun J hJ => cs.mk (fun h1 => ?_) (fun h1 => ?_)) ?_
  · have h1 := of_decide_eq_true h1
    rw [decide_eq_true (by omega)] at hJ
    exact hJ
  · have h1 := of_decide_eq_false h1
    rw [show decide (¬ (0 ≤ most ∧ most ≤ 1024)) = decide (most > 1024) from decide_eq_decide.2 (by omega)] at hJ
    exact hJ
  refine cs.mk (fun h1 => k0 (of_decide_eq_true h1)) (fun h1 => ?_)
  have h1 : 0 ≤ most ∧ most ≤ 1024 := Decidable.not_not.1 (of_decide_eq_false h1)
  refine call27 (New_order h fun pc w1 h => ⟨(some ⟨pc, 0, none⟩, ()), rfl, ?_⟩)
  refine ef.makeMap h fun mc w2 h => ?_
  refine call27 (New_order h fun pa w3 h => ⟨(some ⟨pa, 0, none⟩, ()), rfl, ?_⟩)
  refine ef.makeMap h fun ma w4 h => ?_
  refine al.mk h fun b w5 h => ?_
  have h := bag_nil (σ := fun _ => ⟨none, 0, 0⟩) (s := fun _ => []) (h.slcNil 3)
  refine k1 h1 b w5 (portI (q := ⟨[], [], fun _ => 0, fun _ => [], [], 0⟩) (pc := pc) (mc := mc) (pa := pa) (ma := ma) (so := ⟨none, 0, 0⟩) (fc := fun _ => none) (fa := fun _ => none) (σ := fun _ => ⟨none, 0, 0⟩) (fun i hi => by simp at hi) (fun i hi => by simp at hi) ?_)
  have h := (Ok.emb (h) (.cons (A := pts b _) (by with_reducible first | exact sl0 | exact .there sl0 | exact .there sl1 | exact .there sl2 | exact .there sl3 | exact .there sl4 | exact .there sl5 | exact .there sl6 | exact .there sl7 | exact .there sl8 | exact .there sl9 | exact .there sl10 | exact .there sl11 | exact .there sl12) (.cons (A := lineP pc _ _) (by with_reducible first | exact sl0 | exact .there sl0 | exact .there sl1 | exact .there sl2 | exact .there sl3 | exact .there sl4 | exact .there sl5 | exact .there sl6 | exact .there sl7 | exact .there sl8 | exact .there sl9 | exact .there sl10 | exact .there sl11 | exact .there sl12) (.cons (A := mpP mc _) (by with_reducible first | exact sl0 | exact .there sl0 | exact .there sl1 | exact .there sl2 | exact .there sl3 | exact .there sl4 | exact .there sl5 | exact .there sl6 | exact .there sl7 | exact .there sl8 | exact .there sl9 | exact .there sl10 | exact .there sl11 | exact .there sl12) (.cons (A := lineP pa _ _) (by with_reducible first | exact sl0 | exact .there sl0 | exact .there sl1 | exact .there sl2 | exact .there sl3 | exact .there sl4 | exact .there sl5 | exact .there sl6 | exact .there sl7 | exact .there sl8 | exact .there sl9 | exact .there sl10 | exact .there sl11 | exact .there sl12) (.cons (A := mpP ma _) (by with_reducible first | exact sl0 | exact .there sl0 | exact .there sl1 | exact .there sl2 | exact .there sl3 | exact .there sl4 | exact .there sl5 | exact .there sl6 | exact .there sl7 | exact .there sl8 | exact .there sl9 | exact .there sl10 | exact .there sl11 | exact .there sl12) (.cons (A := slc 3 _ _) (by with_reducible first | exact sl0 | exact .there sl0 | exact .there sl1 | exact .there sl2 | exact .there sl3 | exact .there sl4 | exact .there sl5 | exact .there sl6 | exact .there sl7 | exact .there sl8 | exact .there sl9 | exact .there sl10 | exact .there sl11 | exact .there sl12) (.cons (A := bagP _ _ _) (by with_reducible first | exact sl0 | exact .there sl0 | exact .there sl1 | exact .there sl2 | exact .there sl3 | exact .there sl4 | exact .there sl5 | exact .there sl6 | exact .there sl7 | exact .there sl8 | exact .there sl9 | exact .there sl10 | exact .there sl11 | exact .there sl12) (.same _)))))))))
  exact h

theorem right_por {w t pri R} (k : R [.bool (decide (goodT t pri))] w) : sh28 t pri R w := by
  unfold sh28
  refine jn.bool (decide (1 ≤ t ∧ t ≤ 16)) (fun J hJ => cs.mk (fun h1 => ?_) (fun h1 => ?_)) ?_
  · have h1 := of_decide_eq_true h1
    rw [show decide (1 ≤ t ∧ t ≤ 16) = decide (t ≤ 16) from decide_eq_decide.2 (by omega)] at hJ
    exact hJ
  · have h1 := of_decide_eq_false h1
    rw [decide_eq_false (by omega)] at hJ
    exact hJ
  refine jn.bool (decide (1 ≤ t ∧ t ≤ 16 ∧ 1 ≤ pri)) (fun J hJ => cs.mk (fun h1 => ?_) (fun h1 => ?_)) ?_
  · have h1 : 1 ≤ t ∧ t ≤ 16 := of_decide_eq_true h1
    rw [show decide (1 ≤ t ∧ t ≤ 16 ∧ 1 ≤ pri) = decide (pri ≥ 1) from decide_eq_decide.2 (by omega)] at hJ
    exact hJ
  · have h1 : ¬ (1 ≤ t ∧ t ≤ 16) := of_decide_eq_false h1
    rw [decide_eq_false (by omega)] at hJ
    exact hJ
  refine jn.bool (decide (goodT t pri)) (fun J hJ => cs.mk (fun h1 => ?_) (fun h1 => ?_)) k
  · have h1 : 1 ≤ t ∧ t ≤ 16 ∧ 1 ≤ pri := of_decide_eq_true h1
    rw [show decide (goodT t pri) = decide (pri ≤ 16) from decide_eq_decide.2 (by unfold goodT; omega)] at hJ
    exact hJ
  · have h1 : ¬ (1 ≤ t ∧ t ≤ 16 ∧ 1 ≤ pri) := of_decide_eq_false h1
    rw [decide_eq_false (by unfold goodT; omega)] at hJ
    exact hJ

theorem in_por {e w L b byPri most q t N R} (h : Ok e (portP b byPri most q :: L) w) (ho : PPo N q) (hN : N ≤ 2 ^ 20) (k : ∀ w', Ok e (portP b byPri most q :: L) w' → R [.bool (q.inP t)] w') : sh29 (some ⟨b, 0, none⟩) t R w := by
  unfold sh29
  have l1 := okL_len ho.c
  have l2 := okL_len ho.a
  have l3 := ho.n
  refine al.mk h fun b1 w1 h => ?_
  refine dr.mk h fun w2 h => ?_
  refine jn.at (q.inP t, ()) (fun w' => Ok e (portP b byPri most q :: L) w') (fun J hJ => ?_) (fun w' h => k w' h)
  obtain ⟨pc, mc, pa, ma, so, fc, fa, σ, h1, h2, h⟩ := portE h.p1
  refine nn.mk (ldP.mk (by refine Ok.cellS h (by with_reducible first | exact sl0 | exact .there sl0 | exact .there sl1 | exact .there sl2 | exact .there sl3 | exact .there sl4 | exact .there sl5 | exact .there sl6 | exact .there sl7 | exact .there sl8 | exact .there sl9 | exact .there sl10 | exact .there sl11 | exact .there sl12) ?_; rfl) (nn.mk (ldI.mk (by refine Ok.cellS h (by with_reducible first | exact sl0 | exact .there sl0 | exact .there sl1 | exact .there sl2 | exact .there sl3 | exact .there sl4 | exact .there sl5 | exact .there sl6 | exact .there sl7 | exact .there sl8 | exact .there sl9 | exact .there sl10 | exact .there sl11 | exact .there sl12) ?_; rfl) ?_)))
  refine call49 (Has_order (Ok.emb (h) (.cons (A := lineP pc _ _) (by with_reducible first | exact sl0 | exact .there sl0 | exact .there sl1 | exact .there sl2 | exact .there sl3 | exact .there sl4 | exact .there sl5 | exact .there sl6 | exact .there sl7 | exact .there sl8 | exact .there sl9 | exact .there sl10 | exact .there sl11 | exact .there sl12) (.same _))) (by omega) fun w3 h => ⟨(decide (0 ≤ atI q.C t), ()), rfl, ?_⟩)
  refine cs.mk (fun hc => ?_) (fun hc => ?_)
  · have h := portI h1 h2 (Ok.emb (h) (.cons (A := pts b _) (by with_reducible first | exact sl0 | exact .there sl0 | exact .there sl1 | exact .there sl2 | exact .there sl3 | exact .there sl4 | exact .there sl5 | exact .there sl6 | exact .there sl7 | exact .there sl8 | exact .there sl9 | exact .there sl10 | exact .there sl11 | exact .there sl12) (.cons (A := lineP pc _ _) (by with_reducible first | exact sl0 | exact .there sl0 | exact .there sl1 | exact .there sl2 | exact .there sl3 | exact .there sl4 | exact .there sl5 | exact .there sl6 | exact .there sl7 | exact .there sl8 | exact .there sl9 | exact .there sl10 | exact .there sl11 | exact .there sl12) (.cons (A := mpP mc _) (by with_reducible first | exact sl0 | exact .there sl0 | exact .there sl1 | exact .there sl2 | exact .there sl3 | exact .there sl4 | exact .there sl5 | exact .there sl6 | exact .there sl7 | exact .there sl8 | exact .there sl9 | exact .there sl10 | exact .there sl11 | exact .there sl12) (.cons (A := lineP pa _ _) (by with_reducible first | exact sl0 | exact .there sl0 | exact .there sl1 | exact .there sl2 | exact .there sl3 | exact .there sl4 | exact .there sl5 | exact .there sl6 | exact .there sl7 | exact .there sl8 | exact .there sl9 | exact .there sl10 | exact .there sl11 | exact .there sl12) (.cons (A := mpP ma _) (by with_reducible first | exact sl0 | exact .there sl0 | exact .there sl1 | exact .there sl2 | exact .there sl3 | exact .there sl4 | exact .there sl5 | exact .there sl6 | exact .there sl7 | exact .there sl8 | exact .there sl9 | exact .there sl10 | exact .there sl11 | exact .there sl12) (.cons (A := slc 3 so _) (by with_reducible first | exact sl0 | exact .there sl0 | exact .there sl1 | exact .there sl2 | exact .there sl3 | exact .there sl4 | exact .there sl5 | exact .there sl6 | exact .there sl7 | exact .there sl8 | exact .there sl9 | exact .there sl10 | exact .there sl11 | exact .there sl12) (.cons (A := bagP σ _ _) (by with_reducible first | exact sl0 | exact .there sl0 | exact .there sl1 | exact .there sl2 | exact .there sl3 | exact .there sl4 | exact .there sl5 | exact .there sl6 | exact .there sl7 | exact .there sl8 | exact .there sl9 | exact .there sl10 | exact .there sl11 | exact .there sl12) (.same _)))))))))
    have := hJ _ ((Ok.emb (h) (.cons (A := pts b1 _) (by with_reducible first | exact sl0 | exact .there sl0 | exact .there sl1 | exact .there sl2 | exact .there sl3 | exact .there sl4 | exact .there sl5 | exact .there sl6 | exact .there sl7 | exact .there sl8 | exact .there sl9 | exact .there sl10 | exact .there sl11 | exact .there sl12) (.cons (A := portP b _ _ _) (by with_reducible first | exact sl0 | exact .there sl0 | exact .there sl1 | exact .there sl2 | exact .there sl3 | exact .there sl4 | exact .there sl5 | exact .there sl6 | exact .there sl7 | exact .there sl8 | exact .there sl9 | exact .there sl10 | exact .there sl11 | exact .there sl12) (.same _))))).drop
    rw [show q.inP t = true by unfold PP.inP; dsimp only at hc; rw [hc]; simp] at this
    exact this
  refine nn.mk (ldP.mk (by refine Ok.cellS h (by with_reducible first | exact sl0 | exact .there sl0 | exact .there sl1 | exact .there sl2 | exact .there sl3 | exact .there sl4 | exact .there sl5 | exact .there sl6 | exact .there sl7 | exact .there sl8 | exact .there sl9 | exact .there sl10 | exact .there sl11 | exact .there sl12) ?_; rfl) (nn.mk (ldI.mk (by refine Ok.cellS h (by with_reducible first | exact sl0 | exact .there sl0 | exact .there sl1 | exact .there sl2 | exact .there sl3 | exact .there sl4 | exact .there sl5 | exact .there sl6 | exact .there sl7 | exact .there sl8 | exact .there sl9 | exact .there sl10 | exact .there sl11 | exact .there sl12) ?_; rfl) ?_)))
  refine call49 (Has_order (Ok.emb (h) (.cons (A := lineP pa _ _) (by with_reducible first | exact sl0 | exact .there sl0 | exact .there sl1 | exact .there sl2 | exact .there sl3 | exact .there sl4 | exact .there sl5 | exact .there sl6 | exact .there sl7 | exact .there sl8 | exact .there sl9 | exact .there sl10 | exact .there sl11 | exact .there sl12) (.same _))) (by omega) fun w4 h => ⟨(decide (0 ≤ atI q.A t), ()), rfl, ?_⟩)
  refine cs.mk (fun ha => ?_) (fun ha => ?_)
  · have h := portI h1 h2 (Ok.emb (h) (.cons (A := pts b _) (by with_reducible first | exact sl0 | exact .there sl0 | exact .there sl1 | exact .there sl2 | exact .there sl3 | exact .there sl4 | exact .there sl5 | exact .there sl6 | exact .there sl7 | exact .there sl8 | exact .there sl9 | exact .there sl10 | exact .there sl11 | exact .there sl12) (.cons (A := lineP pc _ _) (by with_reducible first | exact sl0 | exact .there sl0 | exact .there sl1 | exact .there sl2 | exact .there sl3 | exact .there sl4 | exact .there sl5 | exact .there sl6 | exact .there sl7 | exact .there sl8 | exact .there sl9 | exact .there sl10 | exact .there sl11 | exact .there sl12) (.cons (A := mpP mc _) (by with_reducible first | exact sl0 | exact .there sl0 | exact .there sl1 | exact .there sl2 | exact .there sl3 | exact .there sl4 | exact .there sl5 | exact .there sl6 | exact .there sl7 | exact .there sl8 | exact .there sl9 | exact .there sl10 | exact .there sl11 | exact .there sl12) (.cons (A := lineP pa _ _) (by with_reducible first | exact sl0 | exact .there sl0 | exact .there sl1 | exact .there sl2 | exact .there sl3 | exact .there sl4 | exact .there sl5 | exact .there sl6 | exact .there sl7 | exact .there sl8 | exact .there sl9 | exact .there sl10 | exact .there sl11 | exact .there sl12) (.cons (A := mpP ma _) (by with_reducible first | exact sl0 | exact .there sl0 | exact .there sl1 | exact .there sl2 | exact .there sl3 | exact .there sl4 | exact .there sl5 | exact .there sl6 | exact .there sl7 | exact .there sl8 | exact .there sl9 | exact .there sl10 | exact .there sl11 | exact .there sl12) (.cons (A := slc 3 so _) (by with_reducible first | exact sl0 | exact .there sl0 | exact .there sl1 | exact .there sl2 | exact .there sl3 | exact .there sl4 | exact .there sl5 | exact .there sl6 | exact .there sl7 | exact .there sl8 | exact .there sl9 | exact .there sl10 | exact .there sl11 | exact .there sl12) (.cons (A := bagP σ _ _) (by with_reducible first | exact sl0 | exact .there sl0 | exact .there sl1 | exact .there sl2 | exact .there sl3 | exact .there sl4 | exact .there sl5 | exact .there sl6 | exact .there sl7 | exact .there sl8 | exact .there sl9 | exact .there sl10 | exact .there sl11 | exact .there sl12) (.same _)))))))))
    have := hJ _ ((Ok.emb (h) (.cons (A := pts b1 _) (by with_reducible first | exact sl0 | exact .there sl0 | exact .there sl1 | exact .there sl2 | exact .there sl3 | exact .there sl4 | exact .there sl5 | exact .there sl6 | exact .there sl7 | exact .there sl8 | exact .there sl9 | exact .there sl10 | exact .there sl11 | exact .there sl12) (.cons (A := portP b _ _ _) (by with_reducible first | exact sl0 | exact .there sl0 | exact .there sl1 | exact .there sl2 | exact .there sl3 | exact .there sl4 | exact .there sl5 | exact .there sl6 | exact .there sl7 | exact .there sl8 | exact .there sl9 | exact .there sl10 | exact .there sl11 | exact .there sl12) (.same _))))).drop
    rw [show q.inP t = true by unfold PP.inP; dsimp only at ha; rw [ha]; simp] at this
    exact this
  refine nn.mk (ldS.mk (by refine Ok.cellS h (by with_reducible first | exact sl0 | exact .there sl0 | exact .there sl1 | exact .there sl2 | exact .there sl3 | exact .there sl4 | exact .there sl5 | exact .there sl6 | exact .there sl7 | exact .there sl8 | exact .there sl9 | exact .there sl10 | exact .there sl11 | exact .there sl12) ?_; rfl) ?_)
  refine call50 (a1 := ⟨51, [], [.pointer (some ⟨b1, 0, none⟩)]⟩) ?_
  unfold sh50
  have h := (Ok.emb (h) (.cons (A := slc 3 so _) (by with_reducible first | exact sl0 | exact .there sl0 | exact .there sl1 | exact .there sl2 | exact .there sl3 | exact .there sl4 | exact .there sl5 | exact .there sl6 | exact .there sl7 | exact .there sl8 | exact .there sl9 | exact .there sl10 | exact .there sl11 | exact .there sl12) (.cons (A := pts b1 _) (by with_reducible first | exact sl0 | exact .there sl0 | exact .there sl1 | exact .there sl2 | exact .there sl3 | exact .there sl4 | exact .there sl5 | exact .there sl6 | exact .there sl7 | exact .there sl8 | exact .there sl9 | exact .there sl10 | exact .there sl11 | exact .there sl12) (.same _))))
  refine call46 (IndexFunc_open (pr := fun x => x.2.1 == t) h (by omega) (by kernel_rfl) (fun x w5 K h hK => ?_) fun w5 h => ⟨(idxL (fun x => x.2.1 == t) q.L, ()), rfl, ?_⟩)
  · refine call51 (a0 := (x.1, x.2.1, x.2.2, ())) (c0 := b1) ?_
    unfold sh51
    refine al.mk h fun b2 w6 h => ?_
    refine ldI.mk (by refine Ok.cellS h (by with_reducible first | exact sl0 | exact .there sl0 | exact .there sl1 | exact .there sl2 | exact .there sl3 | exact .there sl4 | exact .there sl5 | exact .there sl6 | exact .there sl7 | exact .there sl8 | exact .there sl9 | exact .there sl10 | exact .there sl11 | exact .there sl12) ?_; rfl) (ldI.mk (by refine Ok.cellS h (by with_reducible first | exact sl0 | exact .there sl0 | exact .there sl1 | exact .there sl2 | exact .there sl3 | exact .there sl4 | exact .there sl5 | exact .there sl6 | exact .there sl7 | exact .there sl8 | exact .there sl9 | exact .there sl10 | exact .there sl11 | exact .there sl12) ?_; rfl) ?_)
    exact ⟨(x.2.1 == t, ()), rfl, hK _ h.drop⟩
  refine ⟨(decide (0 ≤ idxL (fun x => x.2.1 == t) q.L), ()), rfl, ?_⟩
  have h := portI h1 h2 (Ok.emb (h) (.cons (A := pts b _) (by with_reducible first | exact sl0 | exact .there sl0 | exact .there sl1 | exact .there sl2 | exact .there sl3 | exact .there sl4 | exact .there sl5 | exact .there sl6 | exact .there sl7 | exact .there sl8 | exact .there sl9 | exact .there sl10 | exact .there sl11 | exact .there sl12) (.cons (A := lineP pc _ _) (by with_reducible first | exact sl0 | exact .there sl0 | exact .there sl1 | exact .there sl2 | exact .there sl3 | exact .there sl4 | exact .there sl5 | exact .there sl6 | exact .there sl7 | exact .there sl8 | exact .there sl9 | exact .there sl10 | exact .there sl11 | exact .there sl12) (.cons (A := mpP mc _) (by with_reducible first | exact sl0 | exact .there sl0 | exact .there sl1 | exact .there sl2 | exact .there sl3 | exact .there sl4 | exact .there sl5 | exact .there sl6 | exact .there sl7 | exact .there sl8 | exact .there sl9 | exact .there sl10 | exact .there sl11 | exact .there sl12) (.cons (A := lineP pa _ _) (by with_reducible first | exact sl0 | exact .there sl0 | exact .there sl1 | exact .there sl2 | exact .there sl3 | exact .there sl4 | exact .there sl5 | exact .there sl6 | exact .there sl7 | exact .there sl8 | exact .there sl9 | exact .there sl10 | exact .there sl11 | exact .there sl12) (.cons (A := mpP ma _) (by with_reducible first | exact sl0 | exact .there sl0 | exact .there sl1 | exact .there sl2 | exact .there sl3 | exact .there sl4 | exact .there sl5 | exact .there sl6 | exact .there sl7 | exact .there sl8 | exact .there sl9 | exact .there sl10 | exact .there sl11 | exact .there sl12) (.cons (A := slc 3 so _) (by with_reducible first | exact sl0 | exact .there sl0 | exact .there sl1 | exact .there sl2 | exact .there sl3 | exact .there sl4 | exact .there sl5 | exact .there sl6 | exact .there sl7 | exact .there sl8 | exact .there sl9 | exact .there sl10 | exact .there sl11 | exact .there sl12) (.cons (A := bagP σ _ _) (by with_reducible first | exact sl0 | exact .there sl0 | exact .there sl1 | exact .there sl2 | exact .there sl3 | exact .there sl4 | exact .there sl5 | exact .there sl6 | exact .there sl7 | exact .there sl8 | exact .there sl9 | exact .there sl10 | exact .there sl11 | exact .there sl12) (.same _)))))))))
  have := hJ _ ((Ok.emb (h) (.cons (A := pts b1 _) (by with_reducible first | exact sl0 | exact .there sl0 | exact .there sl1 | exact .there sl2 | exact .there sl3 | exact .there sl4 | exact .there sl5 | exact .there sl6 | exact .there sl7 | exact .there sl8 | exact .there sl9 | exact .there sl10 | exact .there sl11 | exact .there sl12) (.cons (A := portP b _ _ _) (by with_reducible first | exact sl0 | exact .there sl0 | exact .there sl1 | exact .there sl2 | exact .there sl3 | exact .there sl4 | exact .there sl5 | exact .there sl6 | exact .there sl7 | exact .there sl8 | exact .there sl9 | exact .there sl10 | exact .there sl11 | exact .there sl12) (.same _))))).drop
  dsimp only at hc ha
  rw [show q.inP t = decide (0 ≤ idxL (fun x => x.2.1 == t) q.L) by unfold PP.inP; rw [hc, ha]; simp] at this
  exact this

theorem begin_por {e w L b byPri most q t pri N R} (h : Ok e (portP b byPri most q :: L) w) (ho : PPo N q) (hN : N ≤ 2 ^ 20)
    (k : ∀ w', Ok e (portP b byPri most ⟨q.C, q.A, q.g, q.s, q.L ++ [(q.last + 1, t, pri)], q.last + 1⟩ :: L) w' → R [.int .i64 (q.last + 1)] w') : sh33 (some ⟨b, 0, none⟩) t pri R w := by
  unfold sh33
  have l3 := ho.n
  have l4 := ho.l
  obtain ⟨pc, mc, pa, ma, so, fc, fa, σ, h1, h2, h⟩ := portE h
  have hsl := slc_flat_len op3_len (by decide) (Ok.emb (h) (.cons (A := slc 3 so _) (by with_reducible first | exact sl0 | exact .there sl0 | exact .there sl1 | exact .there sl2 | exact .there sl3 | exact .there sl4 | exact .there sl5 | exact .there sl6 | exact .there sl7 | exact .there sl8 | exact .there sl9 | exact .there sl10 | exact .there sl11 | exact .there sl12) (.same _)))
  have hw : w64 (q.last + 1) = q.last + 1 := w64_in (by omega) (by omega)
  (repeat (first | with_reducible refine dr.mk h fun _ h => ?_ | with_reducible refine nn.mk ?_ | ((first | with_reducible apply ldI.mk | with_reducible apply ldB.mk | with_reducible apply ldP.mk | with_reducible apply ldS.mk | with_reducible apply ldM.mk | with_reducible apply ldF.mk | with_reducible apply ldG.mk); (· exact (by refine Ok.cellS h (by with_reducible first | exact sl0 | exact .there sl0 | exact .there sl1 | exact .there sl2 | exact .there sl3 | exact .there sl4 | exact .there sl5 | exact .there sl6 | exact .there sl7 | exact .there sl8 | exact .there sl9 | exact .there sl10 | exact .there sl11 | exact .there sl12) ?_; rfl))) | (refine st1.mk (Ok.bring h (by with_reducible first | exact sl0 | exact .there sl0 | exact .there sl1 | exact .there sl2 | exact .there sl3 | exact .there sl4 | exact .there sl5 | exact .there sl6 | exact .there sl7 | exact .there sl8 | exact .there sl9 | exact .there sl10 | exact .there sl11 | exact .there sl12)) (by simp) fun _ h => ?_; dsimp only [List.set] at h)))
  rw [hw] at h
  (repeat (first | with_reducible refine dr.mk h fun _ h => ?_ | with_reducible refine nn.mk ?_ | ((first | with_reducible apply ldI.mk | with_reducible apply ldB.mk | with_reducible apply ldP.mk | with_reducible apply ldS.mk | with_reducible apply ldM.mk | with_reducible apply ldF.mk | with_reducible apply ldG.mk); (· exact (by refine Ok.cellS h (by with_reducible first | exact sl0 | exact .there sl0 | exact .there sl1 | exact .there sl2 | exact .there sl3 | exact .there sl4 | exact .there sl5 | exact .there sl6 | exact .there sl7 | exact .there sl8 | exact .there sl9 | exact .there sl10 | exact .there sl11 | exact .there sl12) ?_; rfl))) | (refine st1.mk (Ok.bring h (by with_reducible first | exact sl0 | exact .there sl0 | exact .there sl1 | exact .there sl2 | exact .there sl3 | exact .there sl4 | exact .there sl5 | exact .there sl6 | exact .there sl7 | exact .there sl8 | exact .there sl9 | exact .there sl10 | exact .there sl11 | exact .there sl12)) (by simp) fun _ h => ?_; dsimp only [List.set] at h)))
  refine al.mk h fun b2 w3 h => ⟨(by refine Ok.cellS h (by with_reducible first | exact sl0 | exact .there sl0 | exact .there sl1 | exact .there sl2 | exact .there sl3 | exact .there sl4 | exact .there sl5 | exact .there sl6 | exact .there sl7 | exact .there sl8 | exact .there sl9 | exact .there sl10 | exact .there sl11 | exact .there sl12) ?_; rfl), ?_⟩
  have h := (Ok.emb (h) (.cons (A := pts b2 _) (by with_reducible first | exact sl0 | exact .there sl0 | exact .there sl1 | exact .there sl2 | exact .there sl3 | exact .there sl4 | exact .there sl5 | exact .there sl6 | exact .there sl7 | exact .there sl8 | exact .there sl9 | exact .there sl10 | exact .there sl11 | exact .there sl12) (.cons (A := slc 3 so _) (by with_reducible first | exact sl0 | exact .there sl0 | exact .there sl1 | exact .there sl2 | exact .there sl3 | exact .there sl4 | exact .there sl5 | exact .there sl6 | exact .there sl7 | exact .there sl8 | exact .there sl9 | exact .there sl10 | exact .there sl11 | exact .there sl12) (.same _))))
  rw [hw] at h
  have h : Ok e (pts b2 (op3 (q.last + 1, t, pri)) :: slc 3 so (flat op3 q.L) :: _) w3 := h
  refine ef.append1 slT_open (by decide) h rfl (op3_one _) (by omega) fun s2 w4 hl2 h => ?_
  have e1 : flat op3 q.L ++ op3 (q.last + 1, t, pri) = flat op3 (q.L ++ [(q.last + 1, t, pri)]) := by rw [flat_append]; simp [flat]
  rw [e1] at h
  (repeat (first | with_reducible refine dr.mk h fun _ h => ?_ | with_reducible refine nn.mk ?_ | ((first | with_reducible apply ldI.mk | with_reducible apply ldB.mk | with_reducible apply ldP.mk | with_reducible apply ldS.mk | with_reducible apply ldM.mk | with_reducible apply ldF.mk | with_reducible apply ldG.mk); (· exact (by refine Ok.cellS h (by with_reducible first | exact sl0 | exact .there sl0 | exact .there sl1 | exact .there sl2 | exact .there sl3 | exact .there sl4 | exact .there sl5 | exact .there sl6 | exact .there sl7 | exact .there sl8 | exact .there sl9 | exact .there sl10 | exact .there sl11 | exact .there sl12) ?_; rfl))) | (refine st1.mk (Ok.bring h (by with_reducible first | exact sl0 | exact .there sl0 | exact .there sl1 | exact .there sl2 | exact .there sl3 | exact .there sl4 | exact .there sl5 | exact .there sl6 | exact .there sl7 | exact .there sl8 | exact .there sl9 | exact .there sl10 | exact .there sl11 | exact .there sl12)) (by simp) fun _ h => ?_; dsimp only [List.set] at h)))
  exact k _ (portI (q := ⟨q.C, q.A, q.g, q.s, q.L ++ [(q.last + 1, t, pri)], q.last + 1⟩) h1 h2 (Ok.emb (h) (.cons (A := pts b _) (by with_reducible first | exact sl0 | exact .there sl0 | exact .there sl1 | exact .there sl2 | exact .there sl3 | exact .there sl4 | exact .there sl5 | exact .there sl6 | exact .there sl7 | exact .there sl8 | exact .there sl9 | exact .there sl10 | exact .there sl11 | exact .there sl12) (.cons (A := lineP pc _ _) (by with_reducible first | exact sl0 | exact .there sl0 | exact .there sl1 | exact .there sl2 | exact .there sl3 | exact .there sl4 | exact .there sl5 | exact .there sl6 | exact .there sl7 | exact .there sl8 | exact .there sl9 | exact .there sl10 | exact .there sl11 | exact .there sl12) (.cons (A := mpP mc _) (by with_reducible first | exact sl0 | exact .there sl0 | exact .there sl1 | exact .there sl2 | exact .there sl3 | exact .there sl4 | exact .there sl5 | exact .there sl6 | exact .there sl7 | exact .there sl8 | exact .there sl9 | exact .there sl10 | exact .there sl11 | exact .there sl12) (.cons (A := lineP pa _ _) (by with_reducible first | exact sl0 | exact .there sl0 | exact .there sl1 | exact .there sl2 | exact .there sl3 | exact .there sl4 | exact .there sl5 | exact .there sl6 | exact .there sl7 | exact .there sl8 | exact .there sl9 | exact .there sl10 | exact .there sl11 | exact .there sl12) (.cons (A := mpP ma _) (by with_reducible first | exact sl0 | exact .there sl0 | exact .there sl1 | exact .there sl2 | exact .there sl3 | exact .there sl4 | exact .there sl5 | exact .there sl6 | exact .there sl7 | exact .there sl8 | exact .there sl9 | exact .there sl10 | exact .there sl11 | exact .there sl12) (.cons (A := slc 3 s2 _) (by with_reducible first | exact sl0 | exact .there sl0 | exact .there sl1 | exact .there sl2 | exact .there sl3 | exact .there sl4 | exact .there sl5 | exact .there sl6 | exact .there sl7 | exact .there sl8 | exact .there sl9 | exact .there sl10 | exact .there sl11 | exact .there sl12) (.cons (A := bagP σ _ _) (by with_reducible first | exact sl0 | exact .there sl0 | exact .there sl1 | exact .there sl2 | exact .there sl3 | exact .there sl4 | exact .there sl5 | exact .there sl6 | exact .there sl7 | exact .there sl8 | exact .there sl9 | exact .there sl10 | exact .there sl11 | exact .there sl12) (.same _))))))))))

theorem met0 {e w b L code v1 v2 v3 v4} {R : List Value → World → Prop} (h : Ok e (pts b [v1, v2, v3, v4] :: L) w) (k : ∀ w', Ok e L w' → R [.agg #[.int .i64 0, .int .i64 0, .slice none 0 0, .bool false], .int .i64 code] w') :
    st1 w b 0 (.int .i64 0) fun w5 => st1 w5 b (0 + 1) (.int .i64 0) fun w6 => st1 w6 b (0 + 2) (.slice none 0 0) fun w7 => st1 w7 b (0 + 3) (.bool false) fun w8 =>
    ldI w8 .i64 b 0 fun n9 => ldI w8 .i64 b (0 + 1) fun n10 => ldS w8 b (0 + 2) fun s11 => ldB w8 b (0 + 3) fun b12 =>
    R [.agg #[.int .i64 n9, .int .i64 n10, vS s11, .bool b12], .int .i64 code] w8 := by
  (repeat (first | with_reducible refine dr.mk h fun _ h => ?_ | with_reducible refine nn.mk ?_ | ((first | with_reducible apply ldI.mk | with_reducible apply ldB.mk | with_reducible apply ldP.mk | with_reducible apply ldS.mk | with_reducible apply ldM.mk | with_reducible apply ldF.mk | with_reducible apply ldG.mk); (· exact (by refine Ok.cellS h (by with_reducible first | exact sl0 | exact .there sl0 | exact .there sl1 | exact .there sl2 | exact .there sl3 | exact .there sl4 | exact .there sl5 | exact .there sl6 | exact .there sl7 | exact .there sl8 | exact .there sl9 | exact .there sl10 | exact .there sl11 | exact .there sl12) ?_; rfl))) | (refine st1.mk (Ok.bring h (by with_reducible first | exact sl0 | exact .there sl0 | exact .there sl1 | exact .there sl2 | exact .there sl3 | exact .there sl4 | exact .there sl5 | exact .there sl6 | exact .there sl7 | exact .there sl8 | exact .there sl9 | exact .there sl10 | exact .there sl11 | exact .there sl12)) (by simp) fun _ h => ?_; dsimp only [List.set] at h)))
  refine ldS.mk (x := ⟨none, 0, 0⟩) (by refine Ok.cellS h (by with_reducible first | exact sl0 | exact .there sl0 | exact .there sl1 | exact .there sl2 | exact .there sl3 | exact .there sl4 | exact .there sl5 | exact .there sl6 | exact .there sl7 | exact .there sl8 | exact .there sl9 | exact .there sl10 | exact .there sl11 | exact .there sl12) ?_; rfl) (ldB.mk (by refine Ok.cellS h (by with_reducible first | exact sl0 | exact .there sl0 | exact .there sl1 | exact .there sl2 | exact .there sl3 | exact .there sl4 | exact .there sl5 | exact .there sl6 | exact .there sl7 | exact .there sl8 | exact .there sl9 | exact .there sl10 | exact .there sl11 | exact .there sl12) ?_; rfl) ?_)
  exact k _ h.drop

theorem met1 {e w b L code v1 v2 v3 v4 no t y ok} {R : List Value → World → Prop} (h : Ok e (pts b [v1, v2, v3, v4] :: L) w) (k : ∀ w', Ok e L w' → R [.agg #[.int .i64 no, .int .i64 t, vS y, .bool ok], .int .i64 code] w') :
    st1 w b 0 (.int .i64 no) fun w5 => st1 w5 b (0 + 1) (.int .i64 t) fun w6 => st1 w6 b (0 + 2) (vS y) fun w7 => st1 w7 b (0 + 3) (.bool ok) fun w8 =>
    ldI w8 .i64 b 0 fun n9 => ldI w8 .i64 b (0 + 1) fun n10 => ldS w8 b (0 + 2) fun s11 => ldB w8 b (0 + 3) fun b12 =>
    R [.agg #[.int .i64 n9, .int .i64 n10, vS s11, .bool b12], .int .i64 code] w8 := by
  (repeat (first | with_reducible refine dr.mk h fun _ h => ?_ | with_reducible refine nn.mk ?_ | ((first | with_reducible apply ldI.mk | with_reducible apply ldB.mk | with_reducible apply ldP.mk | with_reducible apply ldS.mk | with_reducible apply ldM.mk | with_reducible apply ldF.mk | with_reducible apply ldG.mk); (· exact (by refine Ok.cellS h (by with_reducible first | exact sl0 | exact .there sl0 | exact .there sl1 | exact .there sl2 | exact .there sl3 | exact .there sl4 | exact .there sl5 | exact .there sl6 | exact .there sl7 | exact .there sl8 | exact .there sl9 | exact .there sl10 | exact .there sl11 | exact .there sl12) ?_; rfl))) | (refine st1.mk (Ok.bring h (by with_reducible first | exact sl0 | exact .there sl0 | exact .there sl1 | exact .there sl2 | exact .there sl3 | exact .there sl4 | exact .there sl5 | exact .there sl6 | exact .there sl7 | exact .there sl8 | exact .there sl9 | exact .there sl10 | exact .there sl11 | exact .there sl12)) (by simp) fun _ h => ?_; dsimp only [List.set] at h)))
  exact k _ h.drop

theorem rdbNil {e w L} (h : Ok e L w) : Ok e (rdb ⟨none, 0, 0⟩ [] :: L) w := h.rdbNil rfl

theorem PPo.cut {N : Nat} {q : PP} {t : Int} (h : PPo N q) : PPo N ⟨q.C, rmL q.A t, q.g, q.s, q.L, q.last⟩ :=
  ⟨h.c, okL_rm h.a, fun i hi hm => h.ca i hi ((rmL_sub q.A t).map Prod.fst |>.subset hm), h.n, h.l, h.sl⟩

theorem PPo.cutC {N : Nat} {q : PP} {t : Int} (h : PPo N q) : PPo N ⟨rmL q.C t, q.A, q.g, q.s, q.L, q.last⟩ :=
  ⟨okL_rm h.c, h.a, fun i hi hm => h.ca i ((rmL_sub q.C t).map Prod.fst |>.subset hi) hm, h.n, h.l, fun i hi => h.sl i ((rmL_sub q.C t).map Prod.fst |>.subset hi)⟩

theorem PPo.more {N : Nat} {q : PP} {x : Int × Int × Int} (h : PPo N q) : PPo (N + 1) ⟨q.C, q.A, q.g, q.s, q.L ++ [x], q.last + 1⟩ :=
  ⟨h.c, h.a, h.ca, by have := h.n; simp only [List.length_append, List.length_singleton]; omega, ⟨by have := h.l.1; show 0 ≤ q.last + 1; omega, by have := h.l.2; show q.last + 1 ≤ _; omega⟩, h.sl⟩

theorem inP_no {q : PP} {t : Int} (h : ¬ q.inP t = true) : t ∉ ids q.C ∧ t ∉ ids q.A := by
  unfold PP.inP at h
  simp only [Bool.or_eq_true, decide_eq_true_eq, not_or] at h
  exact ⟨fun hm => h.1.1 (atI_pos.2 hm), fun hm => h.1.2 (atI_pos.2 hm)⟩

theorem addL_good {byPri : Bool} {l : List (Int × Int)} {t pri : Int} (hg : goodT t pri) (ht : t ∉ ids l) : (addL byPri l t pri) = (0, putL byPri l (t, pri)) := by
  have h1 : atI l t < 0 := atI_neg.2 ht
  unfold goodT at hg
  unfold addL
  first
    | (split <;> first | omega | (split <;> first | omega | rfl))
    | (simp only []; split <;> first | omega | rfl)

theorem call_ok {N : Nat} {q : PP} {byPri : Bool} {most t pri bits : Int} {l : List UInt8} (h : PPo N q) (hm : most ≤ 2 ^ 20) : PPo (N + 1) (q.call byPri most t pri bits l).2 := by
  unfold PP.call
  split
  · exact h.mono (Nat.le_succ _)
  · next h1 =>
    split
    · exact h.mono (Nat.le_succ _)
    · next h2 =>
      obtain ⟨hC, hA⟩ := inP_no h2
      have hg : goodT t pri := Decidable.not_not.1 fun hn => h1 (.inr (.inr hn))
      have hl : ¬ (l.length : Int) > most := fun hn => h1 (.inr (.inl hn))
      cases hme : meetL q.g bits q.A with
      | some x => exact h.cut.more
      | none =>
        dsimp only
        rw [addL_good hg hC]
        have hg2 := hg
        unfold goodT at hg2
        refine ⟨okL_put h.c ⟨hg2.1, hg2.2.1⟩ hC, h.a, fun i hi hm => ?_, Nat.le_succ_of_le h.n, ⟨h.l.1, by have := h.l.2; show q.last ≤ _; omega⟩, fun i hi => ?_⟩
        · rcases List.mem_cons.1 (putL_ids.mem_iff.1 hi) with he | he
          · have he : i = t := he
            rw [he] at hm
            exact hA hm
          · exact h.ca i he hm
        · show (updI q.s t l i).length ≤ _
          by_cases hit : i = t
          · subst hit; rw [updI_same]; omega
          · rw [updI_other hit]
            rcases List.mem_cons.1 (putL_ids.mem_iff.1 hi) with he | he
            · exact absurd he hit
            · exact h.sl i he

theorem accept_ok {N : Nat} {q : PP} {t pri bits : Int} (h : PPo N q) : PPo (N + 1) (q.accept t pri bits).2 := by
  unfold PP.accept
  split
  · exact h.mono (Nat.le_succ _)
  · next h1 =>
    split
    · exact h.mono (Nat.le_succ _)
    · next h2 =>
      obtain ⟨hC, hA⟩ := inP_no h2
      have hg : goodT t pri := Decidable.not_not.1 fun hn => h1 (.inr hn)
      cases hme : meetL q.g bits q.C with
      | some x => exact h.cutC.more
      | none =>
        dsimp only
        rw [addL_good hg hA]
        have hg2 := hg
        unfold goodT at hg2
        refine ⟨h.c, okL_put h.a ⟨hg2.1, hg2.2.1⟩ hA, fun i hi hm => ?_, Nat.le_succ_of_le h.n, ⟨h.l.1, by have := h.l.2; show q.last ≤ _; omega⟩, h.sl⟩
        rcases List.mem_cons.1 (putL_ids.mem_iff.1 hm) with he | he
        · have he : i = t := he
          rw [he] at hi
          exact hC hi
        · exact h.ca i hi he

set_option maxHeartbeats 2000000 in
theorem Call_por {e w A L b byPri most q t pri bits x l N R} (h : Ok e (portP b byPri most q :: A :: L) w) (r : RdB e A x l) (ho : PPo N q) (hN : N < 2 ^ 20) (hm : most ≤ 1024)
    (k : ∀ y w', Ok e (rdb y (q.call byPri most t pri bits l).1.2.2.1 :: portP b byPri most (q.call byPri most t pri bits l).2 :: A :: L) w' →
      R [.agg #[.int .i64 (q.call byPri most t pri bits l).1.1, .int .i64 (q.call byPri most t pri bits l).1.2.1, vS y, .bool (q.call byPri most t pri bits l).1.2.2.2.1], .int .i64 (q.call byPri most t pri bits l).1.2.2.2.2] w') :
    sh9 (some ⟨b, 0, none⟩) t pri bits x R w := by
  unfold sh9
  unfold PP.call at k
  have l1 := okL_len ho.c
  have l2 := okL_len ho.a
  have hxl := r.len
  refine al.mk h fun b1 w1 h => ?_
  refine jn.at (decide (bits = 0 ∨ (l.length : Int) > most), ()) (fun w' => Ok e (pts b1 [.int .i64 0, .int .i64 0, .slice none 0 0, .bool false] :: portP b byPri most q :: A :: L) w') (fun J hJ => cs.mk (fun h1 => ?_) (fun h1 => ?_)) (fun w2 h => ?_)
  · have h1 : bits = 0 := by simpa using h1
    have := hJ _ h
    rw [decide_eq_true (.inl h1)] at this
    exact this
  · have h1 : ¬ bits = 0 := by simpa using h1
    obtain ⟨pc, mc, pa, ma, so, fc, fa, σ, g1, g2, h⟩ := portE h.p1
    refine nn.mk (ldI.mk (by refine Ok.cellS h (by with_reducible first | exact sl0 | exact .there sl0 | exact .there sl1 | exact .there sl2 | exact .there sl3 | exact .there sl4 | exact .there sl5 | exact .there sl6 | exact .there sl7 | exact .there sl8 | exact .there sl9 | exact .there sl10 | exact .there sl11 | exact .there sl12) ?_; rfl) ?_)
    have h := portI g1 g2 (Ok.emb (h) (.cons (A := pts b _) (by with_reducible first | exact sl0 | exact .there sl0 | exact .there sl1 | exact .there sl2 | exact .there sl3 | exact .there sl4 | exact .there sl5 | exact .there sl6 | exact .there sl7 | exact .there sl8 | exact .there sl9 | exact .there sl10 | exact .there sl11 | exact .there sl12) (.cons (A := lineP pc _ _) (by with_reducible first | exact sl0 | exact .there sl0 | exact .there sl1 | exact .there sl2 | exact .there sl3 | exact .there sl4 | exact .there sl5 | exact .there sl6 | exact .there sl7 | exact .there sl8 | exact .there sl9 | exact .there sl10 | exact .there sl11 | exact .there sl12) (.cons (A := mpP mc _) (by with_reducible first | exact sl0 | exact .there sl0 | exact .there sl1 | exact .there sl2 | exact .there sl3 | exact .there sl4 | exact .there sl5 | exact .there sl6 | exact .there sl7 | exact .there sl8 | exact .there sl9 | exact .there sl10 | exact .there sl11 | exact .there sl12) (.cons (A := lineP pa _ _) (by with_reducible first | exact sl0 | exact .there sl0 | exact .there sl1 | exact .there sl2 | exact .there sl3 | exact .there sl4 | exact .there sl5 | exact .there sl6 | exact .there sl7 | exact .there sl8 | exact .there sl9 | exact .there sl10 | exact .there sl11 | exact .there sl12) (.cons (A := mpP ma _) (by with_reducible first | exact sl0 | exact .there sl0 | exact .there sl1 | exact .there sl2 | exact .there sl3 | exact .there sl4 | exact .there sl5 | exact .there sl6 | exact .there sl7 | exact .there sl8 | exact .there sl9 | exact .there sl10 | exact .there sl11 | exact .there sl12) (.cons (A := slc 3 so _) (by with_reducible first | exact sl0 | exact .there sl0 | exact .there sl1 | exact .there sl2 | exact .there sl3 | exact .there sl4 | exact .there sl5 | exact .there sl6 | exact .there sl7 | exact .there sl8 | exact .there sl9 | exact .there sl10 | exact .there sl11 | exact .there sl12) (.cons (A := bagP σ _ _) (by with_reducible first | exact sl0 | exact .there sl0 | exact .there sl1 | exact .there sl2 | exact .there sl3 | exact .there sl4 | exact .there sl5 | exact .there sl6 | exact .there sl7 | exact .there sl8 | exact .there sl9 | exact .there sl10 | exact .there sl11 | exact .there sl12) (.same _)))))))))
    have := hJ _ (Ok.emb (h) (.cons (A := pts b1 _) (by with_reducible first | exact sl0 | exact .there sl0 | exact .there sl1 | exact .there sl2 | exact .there sl3 | exact .there sl4 | exact .there sl5 | exact .there sl6 | exact .there sl7 | exact .there sl8 | exact .there sl9 | exact .there sl10 | exact .there sl11 | exact .there sl12) (.cons (A := portP b _ _ _) (by with_reducible first | exact sl0 | exact .there sl0 | exact .there sl1 | exact .there sl2 | exact .there sl3 | exact .there sl4 | exact .there sl5 | exact .there sl6 | exact .there sl7 | exact .there sl8 | exact .there sl9 | exact .there sl10 | exact .there sl11 | exact .there sl12) (.same _))))
    rw [show decide (bits = 0 ∨ (l.length : Int) > most) = decide ((x.len : Int) > most) from decide_eq_decide.2 (by omega)] at this
    exact this
  refine jn.at (decide (bits = 0 ∨ (l.length : Int) > most ∨ ¬ goodT t pri), ()) (fun w' => Ok e (pts b1 [.int .i64 0, .int .i64 0, .slice none 0 0, .bool false] :: portP b byPri most q :: A :: L) w') (fun J hJ => cs.mk (fun h1 => ?_) (fun h1 => ?_)) (fun w3 h => ?_)
  · have h1 : bits = 0 ∨ (l.length : Int) > most := of_decide_eq_true h1
    have := hJ _ h
    rw [decide_eq_true (by omega)] at this
    exact this
  · have h1 : ¬ (bits = 0 ∨ (l.length : Int) > most) := of_decide_eq_false h1
    refine call28 (right_por ⟨(decide (goodT t pri), ()), rfl, ?_⟩)
    have := hJ _ h
    rw [show decide (bits = 0 ∨ (l.length : Int) > most ∨ ¬ goodT t pri) = !decide (goodT t pri) by
      rw [Bool.eq_iff_iff, decide_eq_true_iff]; simp only [Bool.not_eq_true', decide_eq_false_iff_not]
      exact ⟨fun h => h.elim (fun h => absurd (.inl h) h1) (fun h => h.elim (fun h => absurd (.inr h) h1) id), fun h => .inr (.inr h)⟩] at this
    exact this
  refine cs.mk (fun h1 => ?_) (fun h1 => ?_)
  · have h1 : bits = 0 ∨ (l.length : Int) > most ∨ ¬ goodT t pri := of_decide_eq_true h1
    rw [if_pos h1] at k
    refine met0 h fun w4 h => k ⟨none, 0, 0⟩ _ (rdbNil h)
  have h1 : ¬ (bits = 0 ∨ (l.length : Int) > most ∨ ¬ goodT t pri) := of_decide_eq_false h1
  rw [if_neg h1] at k
  have hg : goodT t pri := Decidable.not_not.1 fun hn => h1 (.inr (.inr hn))
  have hlm : ¬ (l.length : Int) > most := fun hn => h1 (.inr (.inl hn))
  refine call29 (in_por h.p1 ho (by omega) fun w4 h => ⟨(q.inP t, ()), rfl, ?_⟩)
  refine cs.mk (fun h2 => ?_) (fun h2 => ?_)
  · have h2 : q.inP t = true := h2
    rw [if_pos h2] at k
    refine met0 (Ok.emb (h) (.cons (A := pts b1 _) (by with_reducible first | exact sl0 | exact .there sl0 | exact .there sl1 | exact .there sl2 | exact .there sl3 | exact .there sl4 | exact .there sl5 | exact .there sl6 | exact .there sl7 | exact .there sl8 | exact .there sl9 | exact .there sl10 | exact .there sl11 | exact .there sl12) (.same _))) fun w5 h => k ⟨none, 0, 0⟩ _ (rdbNil h)
  have h2 : ¬ q.inP t = true := by rw [show q.inP t = false from h2]; decide
  rw [if_neg h2] at k
  obtain ⟨hC, hA⟩ := inP_no h2
  refine call31 (Clone_b (Ok.emb (h) (.cons (A := A) (by with_reducible first | exact sl0 | exact .there sl0 | exact .there sl1 | exact .there sl2 | exact .there sl3 | exact .there sl4 | exact .there sl5 | exact .there sl6 | exact .there sl7 | exact .there sl8 | exact .there sl9 | exact .there sl10 | exact .there sl11 | exact .there sl12) (.same _))) r (by omega) fun s1 w5 hl1 h => ⟨(s1, ()), rfl, ?_⟩)
  refine call30 (Clip_b h fun s2 hl2 h => ⟨(s2, ()), rfl, ?_⟩)
  have h := h.slcR
  obtain ⟨pc, mc, pa, ma, so, fc, fa, σ, g1, g2, h⟩ := portE (Ok.emb (h) (.cons (A := portP b _ _ _) (by with_reducible first | exact sl0 | exact .there sl0 | exact .there sl1 | exact .there sl2 | exact .there sl3 | exact .there sl4 | exact .there sl5 | exact .there sl6 | exact .there sl7 | exact .there sl8 | exact .there sl9 | exact .there sl10 | exact .there sl11 | exact .there sl12) (.same _)))
  refine nn.mk (ldP.mk (by refine Ok.cellS h (by with_reducible first | exact sl0 | exact .there sl0 | exact .there sl1 | exact .there sl2 | exact .there sl3 | exact .there sl4 | exact .there sl5 | exact .there sl6 | exact .there sl7 | exact .there sl8 | exact .there sl9 | exact .there sl10 | exact .there sl11 | exact .there sl12) ?_; rfl) (ldM.mk (by refine Ok.cellS h (by with_reducible first | exact sl0 | exact .there sl0 | exact .there sl1 | exact .there sl2 | exact .there sl3 | exact .there sl4 | exact .there sl5 | exact .there sl6 | exact .there sl7 | exact .there sl8 | exact .there sl9 | exact .there sl10 | exact .there sl11 | exact .there sl12) ?_; rfl) ?_))
  refine call32 (a0 := (some ⟨pa, 0, none⟩, some ma, ())) (meet_line (g := q.g) (σ := fun _ => ⟨none, 0, 0⟩) (Ok.emb (h) (.cons (A := lineP pa _ _) (by with_reducible first | exact sl0 | exact .there sl0 | exact .there sl1 | exact .there sl2 | exact .there sl3 | exact .there sl4 | exact .there sl5 | exact .there sl6 | exact .there sl7 | exact .there sl8 | exact .there sl9 | exact .there sl10 | exact .there sl11 | exact .there sl12) (.cons (A := mpP ma _) (by with_reducible first | exact sl0 | exact .there sl0 | exact .there sl1 | exact .there sl2 | exact .there sl3 | exact .there sl4 | exact .there sl5 | exact .there sl6 | exact .there sl7 | exact .there sl8 | exact .there sl9 | exact .there sl10 | exact .there sl11 | exact .there sl12) (.same _)))) l2 (fun i hi => g2 i hi) (fun hme w6 h => ⟨(((0 : Int), (0 : Int), ()), ((0 : Int), ⟨none, 0, 0⟩, ()), false, ()), rfl, ?_⟩)
    fun z hme w6 h => ⟨((z.1, z.2, ()), (q.g z.1, ⟨none, 0, 0⟩, ()), true, ()), rfl, ?_⟩)
  · rw [hme, addL_good hg hC] at k
    refine al.mk h fun b2 w7 h => ?_
    refine al.mk h fun b3 w8 h => ?_
    (repeat (first | with_reducible refine dr.mk h fun _ h => ?_ | with_reducible refine nn.mk ?_ | ((first | with_reducible apply ldI.mk | with_reducible apply ldB.mk | with_reducible apply ldP.mk | with_reducible apply ldS.mk | with_reducible apply ldM.mk | with_reducible apply ldF.mk | with_reducible apply ldG.mk); (· exact (by refine Ok.cellS h (by with_reducible first | exact sl0 | exact .there sl0 | exact .there sl1 | exact .there sl2 | exact .there sl3 | exact .there sl4 | exact .there sl5 | exact .there sl6 | exact .there sl7 | exact .there sl8 | exact .there sl9 | exact .there sl10 | exact .there sl11 | exact .there sl12) ?_; rfl))) | (refine st1.mk (Ok.bring h (by with_reducible first | exact sl0 | exact .there sl0 | exact .there sl1 | exact .there sl2 | exact .there sl3 | exact .there sl4 | exact .there sl5 | exact .there sl6 | exact .there sl7 | exact .there sl8 | exact .there sl9 | exact .there sl10 | exact .there sl11 | exact .there sl12)) (by simp) fun _ h => ?_; dsimp only [List.set] at h)))
    refine cs.no rfl ?_
    refine nn.mk (ldP.mk (by refine Ok.cellS h (by with_reducible first | exact sl0 | exact .there sl0 | exact .there sl1 | exact .there sl2 | exact .there sl3 | exact .there sl4 | exact .there sl5 | exact .there sl6 | exact .there sl7 | exact .there sl8 | exact .there sl9 | exact .there sl10 | exact .there sl11 | exact .there sl12) ?_; rfl) (ldM.mk (by refine Ok.cellS h (by with_reducible first | exact sl0 | exact .there sl0 | exact .there sl1 | exact .there sl2 | exact .there sl3 | exact .there sl4 | exact .there sl5 | exact .there sl6 | exact .there sl7 | exact .there sl8 | exact .there sl9 | exact .there sl10 | exact .there sl11 | exact .there sl12) ?_; rfl) ?_))
    refine call34 (a0 := (some ⟨pc, 0, none⟩, some mc, ())) (a3 := (bits, s2, ())) (wait_line (Ok.emb (h) (.cons (A := lineP pc _ _) (by with_reducible first | exact sl0 | exact .there sl0 | exact .there sl1 | exact .there sl2 | exact .there sl3 | exact .there sl4 | exact .there sl5 | exact .there sl6 | exact .there sl7 | exact .there sl8 | exact .there sl9 | exact .there sl10 | exact .there sl11 | exact .there sl12) (.cons (A := mpP mc _) (by with_reducible first | exact sl0 | exact .there sl0 | exact .there sl1 | exact .there sl2 | exact .there sl3 | exact .there sl4 | exact .there sl5 | exact .there sl6 | exact .there sl7 | exact .there sl8 | exact .there sl9 | exact .there sl10 | exact .there sl11 | exact .there sl12) (.same _)))) l1 fun w9 h => ⟨(), rfl, ?_⟩)
    rw [addL_good hg hC] at h
    refine met0 (Ok.emb (h) (.cons (A := pts b1 _) (by with_reducible first | exact sl0 | exact .there sl0 | exact .there sl1 | exact .there sl2 | exact .there sl3 | exact .there sl4 | exact .there sl5 | exact .there sl6 | exact .there sl7 | exact .there sl8 | exact .there sl9 | exact .there sl10 | exact .there sl11 | exact .there sl12) (.same _))) fun w10 h => ?_
    have hb : Ok e (bagP (updI σ t s2) (updI q.s t l) (t :: ids q.C) :: _) w10 := bag_put (by
      rw [updI_same, updI_same]
      exact (bag_congr (fun i hi => by
        have hne : i ≠ t := fun he => hC (he ▸ hi)
        rw [updI_other hne, updI_other hne]; exact ⟨rfl, rfl⟩) (Ok.emb (h) (.cons (A := bagP σ _ _) (by with_reducible first | exact sl0 | exact .there sl0 | exact .there sl1 | exact .there sl2 | exact .there sl3 | exact .there sl4 | exact .there sl5 | exact .there sl6 | exact .there sl7 | exact .there sl8 | exact .there sl9 | exact .there sl10 | exact .there sl11 | exact .there sl12) (.cons (A := rdb s2 _) (by with_reducible first | exact sl0 | exact .there sl0 | exact .there sl1 | exact .there sl2 | exact .there sl3 | exact .there sl4 | exact .there sl5 | exact .there sl6 | exact .there sl7 | exact .there sl8 | exact .there sl9 | exact .there sl10 | exact .there sl11 | exact .there sl12) (.same _))))).p1)
    have h := bag_perm (putL_ids (byPri := byPri) (l := q.C) (x := (t, pri))).symm hb
    clear hb
    have h := portI (q := ⟨putL byPri q.C (t, pri), q.A, updI q.g t bits, updI q.s t l, q.L, q.last⟩) (b := b) (byPri := byPri) (most := most) (pc := pc) (mc := mc) (pa := pa) (ma := ma) (so := so) (fc := upd fc t (some (.agg #[.int .u32 bits, vS s2]))) (fa := fa) (σ := updI σ t s2) (fun i hi => ?_) (fun i hi => ?_) (Ok.emb (h) (.cons (A := pts b _) (by with_reducible first | exact sl0 | exact .there sl0 | exact .there sl1 | exact .there sl2 | exact .there sl3 | exact .there sl4 | exact .there sl5 | exact .there sl6 | exact .there sl7 | exact .there sl8 | exact .there sl9 | exact .there sl10 | exact .there sl11 | exact .there sl12) (.cons (A := lineP pc _ _) (by with_reducible first | exact sl0 | exact .there sl0 | exact .there sl1 | exact .there sl2 | exact .there sl3 | exact .there sl4 | exact .there sl5 | exact .there sl6 | exact .there sl7 | exact .there sl8 | exact .there sl9 | exact .there sl10 | exact .there sl11 | exact .there sl12) (.cons (A := mpP mc _) (by with_reducible first | exact sl0 | exact .there sl0 | exact .there sl1 | exact .there sl2 | exact .there sl3 | exact .there sl4 | exact .there sl5 | exact .there sl6 | exact .there sl7 | exact .there sl8 | exact .there sl9 | exact .there sl10 | exact .there sl11 | exact .there sl12) (.cons (A := lineP pa _ _) (by with_reducible first | exact sl0 | exact .there sl0 | exact .there sl1 | exact .there sl2 | exact .there sl3 | exact .there sl4 | exact .there sl5 | exact .there sl6 | exact .there sl7 | exact .there sl8 | exact .there sl9 | exact .there sl10 | exact .there sl11 | exact .there sl12) (.cons (A := mpP ma _) (by with_reducible first | exact sl0 | exact .there sl0 | exact .there sl1 | exact .there sl2 | exact .there sl3 | exact .there sl4 | exact .there sl5 | exact .there sl6 | exact .there sl7 | exact .there sl8 | exact .there sl9 | exact .there sl10 | exact .there sl11 | exact .there sl12) (.cons (A := slc 3 so _) (by with_reducible first | exact sl0 | exact .there sl0 | exact .there sl1 | exact .there sl2 | exact .there sl3 | exact .there sl4 | exact .there sl5 | exact .there sl6 | exact .there sl7 | exact .there sl8 | exact .there sl9 | exact .there sl10 | exact .there sl11 | exact .there sl12) (.cons (A := bagP _ _ _) (by with_reducible first | exact sl0 | exact .there sl0 | exact .there sl1 | exact .there sl2 | exact .there sl3 | exact .there sl4 | exact .there sl5 | exact .there sl6 | exact .there sl7 | exact .there sl8 | exact .there sl9 | exact .there sl10 | exact .there sl11 | exact .there sl12) (.same _)))))))))
    · have h := (Ok.emb (h) (.cons (A := pts b2 _) (by with_reducible first | exact sl0 | exact .there sl0 | exact .there sl1 | exact .there sl2 | exact .there sl3 | exact .there sl4 | exact .there sl5 | exact .there sl6 | exact .there sl7 | exact .there sl8 | exact .there sl9 | exact .there sl10 | exact .there sl11 | exact .there sl12) (.cons (A := pts b3 _) (by with_reducible first | exact sl0 | exact .there sl0 | exact .there sl1 | exact .there sl2 | exact .there sl3 | exact .there sl4 | exact .there sl5 | exact .there sl6 | exact .there sl7 | exact .there sl8 | exact .there sl9 | exact .there sl10 | exact .there sl11 | exact .there sl12) (.cons (A := portP b _ _ _) (by with_reducible first | exact sl0 | exact .there sl0 | exact .there sl1 | exact .there sl2 | exact .there sl3 | exact .there sl4 | exact .there sl5 | exact .there sl6 | exact .there sl7 | exact .there sl8 | exact .there sl9 | exact .there sl10 | exact .there sl11 | exact .there sl12) (.cons (A := A) (by with_reducible first | exact sl0 | exact .there sl0 | exact .there sl1 | exact .there sl2 | exact .there sl3 | exact .there sl4 | exact .there sl5 | exact .there sl6 | exact .there sl7 | exact .there sl8 | exact .there sl9 | exact .there sl10 | exact .there sl11 | exact .there sl12) (.same _))))))
      exact k ⟨none, 0, 0⟩ _ (rdbNil h.drop.drop)
    · rcases List.mem_cons.1 (putL_ids.mem_iff.1 hi) with he | he
      · have he : i = t := he
        rw [he, upd_same]
        show _ = some (Value.agg #[.int .u32 (updI q.g t bits t), vS (updI σ t s2 t)])
        rw [updI_same, updI_same]
      · have hne : i ≠ t := fun h => hC (h ▸ he)
        rw [upd_other hne, g1 i he]
        show _ = some (Value.agg #[.int .u32 (updI q.g t bits i), vS (updI σ t s2 i)])
        rw [updI_other hne, updI_other hne]
    · have hne : i ≠ t := fun h => hA (h ▸ hi)
      rw [g2 i hi]
      show _ = some (Value.agg #[.int .u32 (updI q.g t bits i), _])
      rw [updI_other hne]
  · rw [hme] at k
    refine al.mk h fun b2 w7 h => ?_
    refine al.mk h fun b3 w8 h => ?_
    (repeat (first | with_reducible refine dr.mk h fun _ h => ?_ | with_reducible refine nn.mk ?_ | ((first | with_reducible apply ldI.mk | with_reducible apply ldB.mk | with_reducible apply ldP.mk | with_reducible apply ldS.mk | with_reducible apply ldM.mk | with_reducible apply ldF.mk | with_reducible apply ldG.mk); (· exact (by refine Ok.cellS h (by with_reducible first | exact sl0 | exact .there sl0 | exact .there sl1 | exact .there sl2 | exact .there sl3 | exact .there sl4 | exact .there sl5 | exact .there sl6 | exact .there sl7 | exact .there sl8 | exact .there sl9 | exact .there sl10 | exact .there sl11 | exact .there sl12) ?_; rfl))) | (refine st1.mk (Ok.bring h (by with_reducible first | exact sl0 | exact .there sl0 | exact .there sl1 | exact .there sl2 | exact .there sl3 | exact .there sl4 | exact .there sl5 | exact .there sl6 | exact .there sl7 | exact .there sl8 | exact .there sl9 | exact .there sl10 | exact .there sl11 | exact .there sl12)) (by simp) fun _ h => ?_; dsimp only [List.set] at h)))
    refine cs.yes rfl ?_
    refine dr.mk h fun w9 h => ?_
    refine ldI.mk (by refine Ok.cellS h (by with_reducible first | exact sl0 | exact .there sl0 | exact .there sl1 | exact .there sl2 | exact .there sl3 | exact .there sl4 | exact .there sl5 | exact .there sl6 | exact .there sl7 | exact .there sl8 | exact .there sl9 | exact .there sl10 | exact .there sl11 | exact .there sl12) ?_; rfl) ?_
    have h := portI (q := ⟨q.C, rmL q.A z.1, q.g, q.s, q.L, q.last⟩) (b := b) (byPri := byPri) (most := most) (pc := pc) (mc := mc) (pa := pa) (ma := ma) (so := so) (fc := fc) (fa := upd fa z.1 none) (σ := σ) g1 (fun i hi => ?_) (Ok.emb (h) (.cons (A := pts b _) (by with_reducible first | exact sl0 | exact .there sl0 | exact .there sl1 | exact .there sl2 | exact .there sl3 | exact .there sl4 | exact .there sl5 | exact .there sl6 | exact .there sl7 | exact .there sl8 | exact .there sl9 | exact .there sl10 | exact .there sl11 | exact .there sl12) (.cons (A := lineP pc _ _) (by with_reducible first | exact sl0 | exact .there sl0 | exact .there sl1 | exact .there sl2 | exact .there sl3 | exact .there sl4 | exact .there sl5 | exact .there sl6 | exact .there sl7 | exact .there sl8 | exact .there sl9 | exact .there sl10 | exact .there sl11 | exact .there sl12) (.cons (A := mpP mc _) (by with_reducible first | exact sl0 | exact .there sl0 | exact .there sl1 | exact .there sl2 | exact .there sl3 | exact .there sl4 | exact .there sl5 | exact .there sl6 | exact .there sl7 | exact .there sl8 | exact .there sl9 | exact .there sl10 | exact .there sl11 | exact .there sl12) (.cons (A := lineP pa _ _) (by with_reducible first | exact sl0 | exact .there sl0 | exact .there sl1 | exact .there sl2 | exact .there sl3 | exact .there sl4 | exact .there sl5 | exact .there sl6 | exact .there sl7 | exact .there sl8 | exact .there sl9 | exact .there sl10 | exact .there sl11 | exact .there sl12) (.cons (A := mpP ma _) (by with_reducible first | exact sl0 | exact .there sl0 | exact .there sl1 | exact .there sl2 | exact .there sl3 | exact .there sl4 | exact .there sl5 | exact .there sl6 | exact .there sl7 | exact .there sl8 | exact .there sl9 | exact .there sl10 | exact .there sl11 | exact .there sl12) (.cons (A := slc 3 so _) (by with_reducible first | exact sl0 | exact .there sl0 | exact .there sl1 | exact .there sl2 | exact .there sl3 | exact .there sl4 | exact .there sl5 | exact .there sl6 | exact .there sl7 | exact .there sl8 | exact .there sl9 | exact .there sl10 | exact .there sl11 | exact .there sl12) (.cons (A := bagP _ _ _) (by with_reducible first | exact sl0 | exact .there sl0 | exact .there sl1 | exact .there sl2 | exact .there sl3 | exact .there sl4 | exact .there sl5 | exact .there sl6 | exact .there sl7 | exact .there sl8 | exact .there sl9 | exact .there sl10 | exact .there sl11 | exact .there sl12) (.same _)))))))))
    · refine call33 (begin_por h (ho.cut (t := z.1)) (by omega) fun w10 h => ⟨(q.last + 1, ()), rfl, (by refine Ok.cellS h (by with_reducible first | exact sl0 | exact .there sl0 | exact .there sl1 | exact .there sl2 | exact .there sl3 | exact .there sl4 | exact .there sl5 | exact .there sl6 | exact .there sl7 | exact .there sl8 | exact .there sl9 | exact .there sl10 | exact .there sl11 | exact .there sl12) ?_; rfl), ?_⟩)
      refine met1 (Ok.emb (h) (.cons (A := pts b1 _) (by with_reducible first | exact sl0 | exact .there sl0 | exact .there sl1 | exact .there sl2 | exact .there sl3 | exact .there sl4 | exact .there sl5 | exact .there sl6 | exact .there sl7 | exact .there sl8 | exact .there sl9 | exact .there sl10 | exact .there sl11 | exact .there sl12) (.same _))) fun w11 h => ?_
      have h := (Ok.emb (h) (.cons (A := pts b2 _) (by with_reducible first | exact sl0 | exact .there sl0 | exact .there sl1 | exact .there sl2 | exact .there sl3 | exact .there sl4 | exact .there sl5 | exact .there sl6 | exact .there sl7 | exact .there sl8 | exact .there sl9 | exact .there sl10 | exact .there sl11 | exact .there sl12) (.cons (A := pts b3 _) (by with_reducible first | exact sl0 | exact .there sl0 | exact .there sl1 | exact .there sl2 | exact .there sl3 | exact .there sl4 | exact .there sl5 | exact .there sl6 | exact .there sl7 | exact .there sl8 | exact .there sl9 | exact .there sl10 | exact .there sl11 | exact .there sl12) (.cons (A := rdb s2 _) (by with_reducible first | exact sl0 | exact .there sl0 | exact .there sl1 | exact .there sl2 | exact .there sl3 | exact .there sl4 | exact .there sl5 | exact .there sl6 | exact .there sl7 | exact .there sl8 | exact .there sl9 | exact .there sl10 | exact .there sl11 | exact .there sl12) (.cons (A := portP b _ _ _) (by with_reducible first | exact sl0 | exact .there sl0 | exact .there sl1 | exact .there sl2 | exact .there sl3 | exact .there sl4 | exact .there sl5 | exact .there sl6 | exact .there sl7 | exact .there sl8 | exact .there sl9 | exact .there sl10 | exact .there sl11 | exact .there sl12) (.cons (A := A) (by with_reducible first | exact sl0 | exact .there sl0 | exact .there sl1 | exact .there sl2 | exact .there sl3 | exact .there sl4 | exact .there sl5 | exact .there sl6 | exact .there sl7 | exact .there sl8 | exact .there sl9 | exact .there sl10 | exact .there sl11 | exact .there sl12) (.same _)))))))
      exact k s2 _ h.drop.drop
    · have hne : i ≠ z.1 := fun h => rmL_ids (id := z.1) ho.a (h ▸ hi)
      rw [upd_other hne]
      exact g2 i ((rmL_sub q.A z.1).map Prod.fst |>.subset hi)

end Go.Proofs.Ytbhmejmkoefahaa.B
