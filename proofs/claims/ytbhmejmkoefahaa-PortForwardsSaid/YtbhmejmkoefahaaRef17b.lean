/- Contracts of the document's rendezvous: calls. -/
import Derived.Test.YtbhmejmkoefahaaRef17
namespace Go.Proofs.Ytbhmejmkoefahaa.B
open Go
set_option linter.unusedVariables false

theorem hR_more {q : PP} {W Z} {x : Int × Int × Int} (h : hR q W Z) : hR ⟨q.C, q.A, q.g, q.s, q.L ++ [x], q.last + 1⟩ W Z := ⟨h.w, h.z, h.gc, h.ga, h.s⟩

theorem hR_cut {q : PP} {W Z} {t : Int} (h : hR q W Z) : hR ⟨q.C, rmL q.A t, q.g, q.s, q.L, q.last⟩ W Z := ⟨h.w, h.z, h.gc, fun i hi => h.ga i ((rmL_sub q.A t).map Prod.fst |>.subset hi), h.s⟩

theorem hR_cutC {q : PP} {W Z} {t : Int} (h : hR q W Z) : hR ⟨rmL q.C t, q.A, q.g, q.s, q.L, q.last⟩ W Z :=
  ⟨h.w, h.z, fun i hi => h.gc i ((rmL_sub q.C t).map Prod.fst |>.subset hi), h.ga, fun i hi => h.s i ((rmL_sub q.C t).map Prod.fst |>.subset hi)⟩

theorem toNat_ne {i t : Int} (h1 : 1 ≤ i) (h2 : 1 ≤ t) (h : i ≠ t) : i.toNat ≠ t.toNat := by omega

set_option maxHeartbeats 4000000 in
theorem Call_ref17 {e w A L u byPri most q t pri bits x l N R} (h : Ok e (rpP u byPri most q :: A :: L) w) (r : RdB e A x l) (ho : PPo N q) (hN : N < 2 ^ 20)
    (k : ∀ w', Ok e (rpP u byPri most (q.call byPri most t pri bits l).2 :: A :: L) w' →
      R [.agg #[.int .i64 (q.call byPri most t pri bits l).1.1, .int .i64 (q.call byPri most t pri bits l).1.2.1, .string (bs (q.call byPri most t pri bits l).1.2.2.1), .bool (q.call byPri most t pri bits l).1.2.2.2.1], .int .i64 (q.call byPri most t pri bits l).1.2.2.2.2] w') :
    sh17 (some ⟨u, 0, none⟩) t pri bits x R w := by
  unfold sh17
  unfold PP.call at k
  have l1 := okL_len ho.c
  have l2 := okL_len ho.a
  have hxl := r.len
  refine al.mk h fun b1 w1 h => ?_
  refine jn.at (decide (bits = 0 ∨ (l.length : Int) > most), ()) (fun w' => Ok e (pts b1 [.int .i64 0, .int .i64 0, .string ByteArray.empty, .bool false] :: rpP u byPri most q :: A :: L) w') (fun J hJ => cs.mk (fun h1 => ?_) (fun h1 => ?_)) (fun w2 h => ?_)
  · have h1 : bits = 0 := by simpa using h1
    have := hJ _ h
    rw [decide_eq_true (.inl h1)] at this
    exact this
  · have h1 : ¬ bits = 0 := by simpa using h1
    obtain ⟨pc, pa, W, Z, so, hr, h⟩ := rpE h.p1
    refine nn.mk (ldI.mk (Ok.cellS h (by with_reducible first | exact sl0 | exact .there sl0 | exact .there sl1 | exact .there sl2 | exact .there sl3 | exact .there sl4 | exact .there sl5 | exact .there sl6 | exact .there sl7 | exact .there sl8 | exact .there sl9 | exact .there sl10 | exact .there sl11 | exact .there sl12) (rpC_t (j := 2) hr.w hr.z)) ?_)
    have h := rpI hr h
    have := hJ _ (Ok.emb (h) (.cons (A := pts b1 _) (by with_reducible first | exact sl0 | exact .there sl0 | exact .there sl1 | exact .there sl2 | exact .there sl3 | exact .there sl4 | exact .there sl5 | exact .there sl6 | exact .there sl7 | exact .there sl8 | exact .there sl9 | exact .there sl10 | exact .there sl11 | exact .there sl12) (.cons (A := rpP u _ _ _) (by with_reducible first | exact sl0 | exact .there sl0 | exact .there sl1 | exact .there sl2 | exact .there sl3 | exact .there sl4 | exact .there sl5 | exact .there sl6 | exact .there sl7 | exact .there sl8 | exact .there sl9 | exact .there sl10 | exact .there sl11 | exact .there sl12) (.same _))))
    rw [show decide (bits = 0 ∨ (l.length : Int) > most) = decide ((x.len : Int) > most) from decide_eq_decide.2 (by omega)] at this
    exact this
  refine jn.at (decide (bits = 0 ∨ (l.length : Int) > most ∨ ¬ goodT t pri), ()) (fun w' => Ok e (pts b1 [.int .i64 0, .int .i64 0, .string ByteArray.empty, .bool false] :: rpP u byPri most q :: A :: L) w') (fun J hJ => cs.mk (fun h1 => ?_) (fun h1 => ?_)) (fun w3 h => ?_)
  · have h1 : bits = 0 ∨ (l.length : Int) > most := of_decide_eq_true h1
    have := hJ _ h
    rw [decide_eq_true (by omega)] at this
    exact this
  · have h1 : ¬ (bits = 0 ∨ (l.length : Int) > most) := of_decide_eq_false h1
    refine call39 (Good_r17 h ⟨(decide (goodT t pri), ()), rfl, ?_⟩)
    have := hJ _ h
    rw [show decide (bits = 0 ∨ (l.length : Int) > most ∨ ¬ goodT t pri) = !decide (goodT t pri) by
      rw [Bool.eq_iff_iff, decide_eq_true_iff]; simp only [Bool.not_eq_true', decide_eq_false_iff_not]
      exact ⟨fun h => h.elim (fun h => absurd (.inl h) h1) (fun h => h.elim (fun h => absurd (.inr h) h1) id), fun h => .inr (.inr h)⟩] at this
    exact this
  refine cs.mk (fun h1 => ?_) (fun h1 => ?_)
  · have h1 : bits = 0 ∨ (l.length : Int) > most ∨ ¬ goodT t pri := of_decide_eq_true h1
    rw [if_pos h1] at k
    refine metR h fun w4 h => k _ h
  have h1 : ¬ (bits = 0 ∨ (l.length : Int) > most ∨ ¬ goodT t pri) := of_decide_eq_false h1
  rw [if_neg h1] at k
  have hg : goodT t pri := Decidable.not_not.1 fun hn => h1 (.inr (.inr hn))
  have hg2 := hg
  unfold goodT at hg2
  refine call40 (In_ref17 h.p1 ho (by omega) fun w4 h => ⟨(q.inP t, ()), rfl, ?_⟩)
  refine cs.mk (fun h2 => ?_) (fun h2 => ?_)
  · have h2 : q.inP t = true := h2
    rw [if_pos h2] at k
    refine metR (Ok.emb (h) (.cons (A := pts b1 _) (by with_reducible first | exact sl0 | exact .there sl0 | exact .there sl1 | exact .there sl2 | exact .there sl3 | exact .there sl4 | exact .there sl5 | exact .there sl6 | exact .there sl7 | exact .there sl8 | exact .there sl9 | exact .there sl10 | exact .there sl11 | exact .there sl12) (.same _))) fun w5 h => k _ h
  have h2 : ¬ q.inP t = true := by rw [show q.inP t = false from h2]; decide
  rw [if_neg h2] at k
  obtain ⟨hC, hA⟩ := inP_no h2
  obtain ⟨pc, pa, W, Z, so, hr, h⟩ := rpE h
  obtain ⟨sa, hsa, h⟩ := refE (Ok.emb (h) (.cons (A := refP pa _ _) (by with_reducible first | exact sl0 | exact .there sl0 | exact .there sl1 | exact .there sl2 | exact .there sl3 | exact .there sl4 | exact .there sl5 | exact .there sl6 | exact .there sl7 | exact .there sl8 | exact .there sl9 | exact .there sl10 | exact .there sl11 | exact .there sl12) (.same _)))
  have h := (Ok.emb (h) (.cons (A := pts u _) (by with_reducible first | exact sl0 | exact .there sl0 | exact .there sl1 | exact .there sl2 | exact .there sl3 | exact .there sl4 | exact .there sl5 | exact .there sl6 | exact .there sl7 | exact .there sl8 | exact .there sl9 | exact .there sl10 | exact .there sl11 | exact .there sl12) (.cons (A := pts pa _) (by with_reducible first | exact sl0 | exact .there sl0 | exact .there sl1 | exact .there sl2 | exact .there sl3 | exact .there sl4 | exact .there sl5 | exact .there sl6 | exact .there sl7 | exact .there sl8 | exact .there sl9 | exact .there sl10 | exact .there sl11 | exact .there sl12) (.cons (A := slc 2 sa _) (by with_reducible first | exact sl0 | exact .there sl0 | exact .there sl1 | exact .there sl2 | exact .there sl3 | exact .there sl4 | exact .there sl5 | exact .there sl6 | exact .there sl7 | exact .there sl8 | exact .there sl9 | exact .there sl10 | exact .there sl11 | exact .there sl12) (.cons (A := pts b1 _) (by with_reducible first | exact sl0 | exact .there sl0 | exact .there sl1 | exact .there sl2 | exact .there sl3 | exact .there sl4 | exact .there sl5 | exact .there sl6 | exact .there sl7 | exact .there sl8 | exact .there sl9 | exact .there sl10 | exact .there sl11 | exact .there sl12) (.cons (A := refP pc _ _) (by with_reducible first | exact sl0 | exact .there sl0 | exact .there sl1 | exact .there sl2 | exact .there sl3 | exact .there sl4 | exact .there sl5 | exact .there sl6 | exact .there sl7 | exact .there sl8 | exact .there sl9 | exact .there sl10 | exact .there sl11 | exact .there sl12) (.cons (A := slc 3 so _) (by with_reducible first | exact sl0 | exact .there sl0 | exact .there sl1 | exact .there sl2 | exact .there sl3 | exact .there sl4 | exact .there sl5 | exact .there sl6 | exact .there sl7 | exact .there sl8 | exact .there sl9 | exact .there sl10 | exact .there sl11 | exact .there sl12) (.cons (A := A) (by with_reducible first | exact sl0 | exact .there sl0 | exact .there sl1 | exact .there sl2 | exact .there sl3 | exact .there sl4 | exact .there sl5 | exact .there sl6 | exact .there sl7 | exact .there sl8 | exact .there sl9 | exact .there sl10 | exact .there sl11 | exact .there sl12) (.same _)))))))))
  refine lp.mk (fun t1 w' => ∃ n : Nat, t1.1 = (n : Int) ∧ n ≤ q.A.length ∧ (∀ m, m < n → ∀ x, q.A[m]? = some x → (bAnd .u32 (q.g x.1) bits != 0) = false) ∧
      Ok e (pts u (rpC pc pa W Z so q.last most) :: pts pa [.bool false, vS sa] :: slc 2 sa (prs q.A) :: pts b1 [.int .i64 0, .int .i64 0, .string ByteArray.empty, .bool false] :: refP pc byPri q.C :: slc 3 so (flat op3 q.L) :: A :: L) w')
    (fun t1 _ => q.A.length - t1.1.toNat) ⟨0, rfl, Nat.zero_le _, fun m hm => absurd hm (Nat.not_lt_zero _), h⟩ ?_
  clear h
  rintro ⟨(i : Int), _⟩ w6 ⟨n, hn, hnl, hno, h⟩
  dsimp only at hn
  subst hn
  refine nn.mk (ldP.mk (by refine Ok.cellS h (by with_reducible first | exact sl0 | exact .there sl0 | exact .there sl1 | exact .there sl2 | exact .there sl3 | exact .there sl4 | exact .there sl5 | exact .there sl6 | exact .there sl7 | exact .there sl8 | exact .there sl9 | exact .there sl10 | exact .there sl11 | exact .there sl12) ?_; rfl) (nn.mk (ldS.mk (by refine Ok.cellS h (by with_reducible first | exact sl0 | exact .there sl0 | exact .there sl1 | exact .there sl2 | exact .there sl3 | exact .there sl4 | exact .there sl5 | exact .there sl6 | exact .there sl7 | exact .there sl8 | exact .there sl9 | exact .there sl10 | exact .there sl11 | exact .there sl12) ?_; rfl) ?_)))
  refine cs.mk (fun hlt => ?_) (fun hge => ?_)
  · have hlt : n < q.A.length := by have := of_decide_eq_true hlt; dsimp only at this; omega
    obtain ⟨z, hz⟩ : ∃ z, q.A[n]? = some z := ⟨_, List.getElem?_eq_getElem hlt⟩
    have hzi : z.1 ∈ ids q.A := List.mem_map.2 ⟨z, List.mem_of_getElem? hz, rfl⟩
    have hzb := ho.a.2 z.1 hzi
    refine nn.mk (ldP.mk (by refine Ok.cellS h (by with_reducible first | exact sl0 | exact .there sl0 | exact .there sl1 | exact .there sl2 | exact .there sl3 | exact .there sl4 | exact .there sl5 | exact .there sl6 | exact .there sl7 | exact .there sl8 | exact .there sl9 | exact .there sl10 | exact .there sl11 | exact .there sl12) ?_; rfl) (nn.mk (ldS.mk (by refine Ok.cellS h (by with_reducible first | exact sl0 | exact .there sl0 | exact .there sl1 | exact .there sl2 | exact .there sl3 | exact .there sl4 | exact .there sl5 | exact .there sl6 | exact .there sl7 | exact .there sl8 | exact .there sl9 | exact .there sl10 | exact .there sl11 | exact .there sl12) ?_; rfl) ?_)))
    refine ix_pr (Ok.emb (h) (.cons (A := slc 2 sa _) (by with_reducible first | exact sl0 | exact .there sl0 | exact .there sl1 | exact .there sl2 | exact .there sl3 | exact .there sl4 | exact .there sl5 | exact .there sl6 | exact .there sl7 | exact .there sl8 | exact .there sl9 | exact .there sl10 | exact .there sl11 | exact .there sl12) (.same _))) (Int.natCast_nonneg _) (by dsimp only; omega) fun b2 o2 y hy _ _ c1 c2 => ldI.mk (c1 _ ⟨_, (Ok.emb (h) (.cons (A := slc 2 sa _) (by with_reducible first | exact sl0 | exact .there sl0 | exact .there sl1 | exact .there sl2 | exact .there sl3 | exact .there sl4 | exact .there sl5 | exact .there sl6 | exact .there sl7 | exact .there sl8 | exact .there sl9 | exact .there sl10 | exact .there sl11 | exact .there sl12) (.same _)))⟩) ?_
    dsimp only at hy
    rw [Int.toNat_natCast, hz] at hy
    cases hy
    clear c1 c2
    refine nn.mk ⟨by omega, by omega, ldI.mk (Ok.cellS h (by with_reducible first | exact sl0 | exact .there sl0 | exact .there sl1 | exact .there sl2 | exact .there sl3 | exact .there sl4 | exact .there sl5 | exact .there sl6 | exact .there sl7 | exact .there sl8 | exact .there sl9 | exact .there sl10 | exact .there sl11 | exact .there sl12) (rpC_w (hr.ga z.1 hzi))) ?_⟩
    refine cs.mk (fun hm => ?_) (fun hm => ?_)
    · rw [meetL_some hz hm hno] at k
      refine nn.mk (ldP.mk (by refine Ok.cellS h (by with_reducible first | exact sl0 | exact .there sl0 | exact .there sl1 | exact .there sl2 | exact .there sl3 | exact .there sl4 | exact .there sl5 | exact .there sl6 | exact .there sl7 | exact .there sl8 | exact .there sl9 | exact .there sl10 | exact .there sl11 | exact .there sl12) ?_; rfl) ?_)
      have h := refI (q := pa) (byPri := false) (l := q.A) (s := sa) (Ok.emb (h) (.cons (A := pts pa _) (by with_reducible first | exact sl0 | exact .there sl0 | exact .there sl1 | exact .there sl2 | exact .there sl3 | exact .there sl4 | exact .there sl5 | exact .there sl6 | exact .there sl7 | exact .there sl8 | exact .there sl9 | exact .there sl10 | exact .there sl11 | exact .there sl12) (.cons (A := slc 2 sa _) (by with_reducible first | exact sl0 | exact .there sl0 | exact .there sl1 | exact .there sl2 | exact .there sl3 | exact .there sl4 | exact .there sl5 | exact .there sl6 | exact .there sl7 | exact .there sl8 | exact .there sl9 | exact .there sl10 | exact .there sl11 | exact .there sl12) (.same _))))
      refine call41 (Remove_ref4 h (by omega) fun w7 h => ⟨(decide (0 ≤ atI q.A z.1), ()), rfl, ?_⟩)
      refine dr.mk h fun w8 h => ?_
      refine tx.mk bsT (Ok.emb (h) (.cons (A := A) (by with_reducible first | exact sl0 | exact .there sl0 | exact .there sl1 | exact .there sl2 | exact .there sl3 | exact .there sl4 | exact .there sl5 | exact .there sl6 | exact .there sl7 | exact .there sl8 | exact .there sl9 | exact .there sl10 | exact .there sl11 | exact .there sl12) (.same _))) r ?_
      have h := rpI (q := ⟨q.C, rmL q.A z.1, q.g, q.s, q.L, q.last⟩) (u := u) (byPri := byPri) (most := most) (hR_cut hr) (Ok.emb (h) (.cons (A := pts u _) (by with_reducible first | exact sl0 | exact .there sl0 | exact .there sl1 | exact .there sl2 | exact .there sl3 | exact .there sl4 | exact .there sl5 | exact .there sl6 | exact .there sl7 | exact .there sl8 | exact .there sl9 | exact .there sl10 | exact .there sl11 | exact .there sl12) (.cons (A := refP pc _ _) (by with_reducible first | exact sl0 | exact .there sl0 | exact .there sl1 | exact .there sl2 | exact .there sl3 | exact .there sl4 | exact .there sl5 | exact .there sl6 | exact .there sl7 | exact .there sl8 | exact .there sl9 | exact .there sl10 | exact .there sl11 | exact .there sl12) (.cons (A := refP pa _ _) (by with_reducible first | exact sl0 | exact .there sl0 | exact .there sl1 | exact .there sl2 | exact .there sl3 | exact .there sl4 | exact .there sl5 | exact .there sl6 | exact .there sl7 | exact .there sl8 | exact .there sl9 | exact .there sl10 | exact .there sl11 | exact .there sl12) (.cons (A := slc 3 so _) (by with_reducible first | exact sl0 | exact .there sl0 | exact .there sl1 | exact .there sl2 | exact .there sl3 | exact .there sl4 | exact .there sl5 | exact .there sl6 | exact .there sl7 | exact .there sl8 | exact .there sl9 | exact .there sl10 | exact .there sl11 | exact .there sl12) (.same _))))))
      refine call42 (meet_ref17 h (ho.cut (t := z.1)) (by omega) fun w9 h => ⟨(q.last + 1, ()), rfl, tx.run bsT (Ok.emb (h) (.cons (A := A) (by with_reducible first | exact sl0 | exact .there sl0 | exact .there sl1 | exact .there sl2 | exact .there sl3 | exact .there sl4 | exact .there sl5 | exact .there sl6 | exact .there sl7 | exact .there sl8 | exact .there sl9 | exact .there sl10 | exact .there sl11 | exact .there sl12) (.same _))) r, ?_⟩)
      refine metR (Ok.emb (h) (.cons (A := pts b1 _) (by with_reducible first | exact sl0 | exact .there sl0 | exact .there sl1 | exact .there sl2 | exact .there sl3 | exact .there sl4 | exact .there sl5 | exact .there sl6 | exact .there sl7 | exact .there sl8 | exact .there sl9 | exact .there sl10 | exact .there sl11 | exact .there sl12) (.same _))) fun w10 h => k _ (Ok.emb (h) (.cons (A := rpP u _ _ _) (by with_reducible first | exact sl0 | exact .there sl0 | exact .there sl1 | exact .there sl2 | exact .there sl3 | exact .there sl4 | exact .there sl5 | exact .there sl6 | exact .there sl7 | exact .there sl8 | exact .there sl9 | exact .there sl10 | exact .there sl11 | exact .there sl12) (.cons (A := A) (by with_reducible first | exact sl0 | exact .there sl0 | exact .there sl1 | exact .there sl2 | exact .there sl3 | exact .there sl4 | exact .there sl5 | exact .there sl6 | exact .there sl7 | exact .there sl8 | exact .there sl9 | exact .there sl10 | exact .there sl11 | exact .there sl12) (.same _))))
    · have hw : w64 ((n : Int) + 1) = ((n + 1 : Nat) : Int) := by rw [w64_in (by omega) (by omega)]; rfl
      dsimp only
      rw [hw]
      refine ⟨⟨n + 1, rfl, hlt, fun j hj y hy => ?_, h⟩, ?_⟩
      · rcases Nat.lt_or_ge j n with hm' | hm'
        · exact hno j hm' y hy
        · have : j = n := by omega
          subst this
          rw [hz] at hy
          cases hy
          exact hm
      · show q.A.length - Int.toNat ((n + 1 : Nat) : Int) < q.A.length - Int.toNat (n : Int)
        omega
  · have hge : q.A.length ≤ n := by have := of_decide_eq_false hge; dsimp only at this; omega
    rw [meetL_none fun j y hy => hno j (by have := (List.getElem?_eq_some_iff.1 hy).1; omega) y hy, addL_good hg hC] at k
    refine nn.mk (ldP.mk (by refine Ok.cellS h (by with_reducible first | exact sl0 | exact .there sl0 | exact .there sl1 | exact .there sl2 | exact .there sl3 | exact .there sl4 | exact .there sl5 | exact .there sl6 | exact .there sl7 | exact .there sl8 | exact .there sl9 | exact .there sl10 | exact .there sl11 | exact .there sl12) ?_; rfl) ?_)
    refine call43 (Add_ref4 (Ok.emb (h) (.cons (A := refP pc _ _) (by with_reducible first | exact sl0 | exact .there sl0 | exact .there sl1 | exact .there sl2 | exact .there sl3 | exact .there sl4 | exact .there sl5 | exact .there sl6 | exact .there sl7 | exact .there sl8 | exact .there sl9 | exact .there sl10 | exact .there sl11 | exact .there sl12) (.same _))) (by omega) fun w7 h => ⟨((addL byPri q.C t pri).1, ()), rfl, ?_⟩)
    rw [addL_good hg hC] at h
    refine nn.mk ⟨by omega, by omega, ?_⟩
    have hWl := hr.w
    have hZl := hr.z
    refine st1.mk (Ok.emb (h) (.cons (A := pts u _) (by with_reducible first | exact sl0 | exact .there sl0 | exact .there sl1 | exact .there sl2 | exact .there sl3 | exact .there sl4 | exact .there sl5 | exact .there sl6 | exact .there sl7 | exact .there sl8 | exact .there sl9 | exact .there sl10 | exact .there sl11 | exact .there sl12) (.same _))) (by rw [rpC_len hWl hZl]; omega) fun w8 h => ?_
    rw [rpC_setW (by omega)] at h
    refine dr.mk h fun w9 h => ?_
    refine tx.mk bsT (Ok.emb (h) (.cons (A := A) (by with_reducible first | exact sl0 | exact .there sl0 | exact .there sl1 | exact .there sl2 | exact .there sl3 | exact .there sl4 | exact .there sl5 | exact .there sl6 | exact .there sl7 | exact .there sl8 | exact .there sl9 | exact .there sl10 | exact .there sl11 | exact .there sl12) (.same _))) r (nn.mk ⟨by omega, by omega, ?_⟩)
    have hWl2 : (W.set t.toNat bits).length = 17 := by rw [List.length_set]; exact hWl
    refine st1.mk (Ok.emb (h) (.cons (A := pts u _) (by with_reducible first | exact sl0 | exact .there sl0 | exact .there sl1 | exact .there sl2 | exact .there sl3 | exact .there sl4 | exact .there sl5 | exact .there sl6 | exact .there sl7 | exact .there sl8 | exact .there sl9 | exact .there sl10 | exact .there sl11 | exact .there sl12) (.same _))) (by rw [rpC_len hWl2 hZl]; omega) fun w10 h => ?_
    rw [rpC_setZ hWl2 (by omega)] at h
    refine metR (Ok.emb (h) (.cons (A := pts b1 _) (by with_reducible first | exact sl0 | exact .there sl0 | exact .there sl1 | exact .there sl2 | exact .there sl3 | exact .there sl4 | exact .there sl5 | exact .there sl6 | exact .there sl7 | exact .there sl8 | exact .there sl9 | exact .there sl10 | exact .there sl11 | exact .there sl12) (.same _))) fun w11 h => ?_
    have h := refI (q := pa) (byPri := false) (l := q.A) (s := sa) (Ok.emb (h) (.cons (A := pts pa _) (by with_reducible first | exact sl0 | exact .there sl0 | exact .there sl1 | exact .there sl2 | exact .there sl3 | exact .there sl4 | exact .there sl5 | exact .there sl6 | exact .there sl7 | exact .there sl8 | exact .there sl9 | exact .there sl10 | exact .there sl11 | exact .there sl12) (.cons (A := slc 2 sa _) (by with_reducible first | exact sl0 | exact .there sl0 | exact .there sl1 | exact .there sl2 | exact .there sl3 | exact .there sl4 | exact .there sl5 | exact .there sl6 | exact .there sl7 | exact .there sl8 | exact .there sl9 | exact .there sl10 | exact .there sl11 | exact .there sl12) (.same _))))
    have h := rpI (q := ⟨putL byPri q.C (t, pri), q.A, updI q.g t bits, updI q.s t l, q.L, q.last⟩) (u := u) (byPri := byPri) (most := most) (pc := pc) (pa := pa) (W := W.set t.toNat bits) (Z := Z.set t.toNat l) (so := so) ⟨hWl2, by rw [List.length_set]; exact hZl, fun i hi => ?_, fun i hi => ?_, fun i hi => ?_⟩ (Ok.emb (h) (.cons (A := pts u _) (by with_reducible first | exact sl0 | exact .there sl0 | exact .there sl1 | exact .there sl2 | exact .there sl3 | exact .there sl4 | exact .there sl5 | exact .there sl6 | exact .there sl7 | exact .there sl8 | exact .there sl9 | exact .there sl10 | exact .there sl11 | exact .there sl12) (.cons (A := refP pc _ _) (by with_reducible first | exact sl0 | exact .there sl0 | exact .there sl1 | exact .there sl2 | exact .there sl3 | exact .there sl4 | exact .there sl5 | exact .there sl6 | exact .there sl7 | exact .there sl8 | exact .there sl9 | exact .there sl10 | exact .there sl11 | exact .there sl12) (.cons (A := refP pa _ _) (by with_reducible first | exact sl0 | exact .there sl0 | exact .there sl1 | exact .there sl2 | exact .there sl3 | exact .there sl4 | exact .there sl5 | exact .there sl6 | exact .there sl7 | exact .there sl8 | exact .there sl9 | exact .there sl10 | exact .there sl11 | exact .there sl12) (.cons (A := slc 3 so _) (by with_reducible first | exact sl0 | exact .there sl0 | exact .there sl1 | exact .there sl2 | exact .there sl3 | exact .there sl4 | exact .there sl5 | exact .there sl6 | exact .there sl7 | exact .there sl8 | exact .there sl9 | exact .there sl10 | exact .there sl11 | exact .there sl12) (.same _))))))
    · exact k _ (Ok.emb (h) (.cons (A := rpP u _ _ _) (by with_reducible first | exact sl0 | exact .there sl0 | exact .there sl1 | exact .there sl2 | exact .there sl3 | exact .there sl4 | exact .there sl5 | exact .there sl6 | exact .there sl7 | exact .there sl8 | exact .there sl9 | exact .there sl10 | exact .there sl11 | exact .there sl12) (.cons (A := A) (by with_reducible first | exact sl0 | exact .there sl0 | exact .there sl1 | exact .there sl2 | exact .there sl3 | exact .there sl4 | exact .there sl5 | exact .there sl6 | exact .there sl7 | exact .there sl8 | exact .there sl9 | exact .there sl10 | exact .there sl11 | exact .there sl12) (.same _))))
    · show (W.set t.toNat bits)[i.toNat]? = some (updI q.g t bits i)
      rcases List.mem_cons.1 (putL_ids.mem_iff.1 hi) with he | he
      · have he : i = t := he
        rw [he, updI_same, List.getElem?_set_self (by omega)]
      · have hne : i ≠ t := fun h => hC (h ▸ he)
        have hib := ho.c.2 i he
        rw [updI_other hne, List.getElem?_set_ne (toNat_ne hg2.1 hib.1 (Ne.symm hne))]
        exact hr.gc i he
    · show (W.set t.toNat bits)[i.toNat]? = some (updI q.g t bits i)
      have hne : i ≠ t := fun h => hA (h ▸ hi)
      have hib := ho.a.2 i hi
      rw [updI_other hne, List.getElem?_set_ne (toNat_ne hg2.1 hib.1 (Ne.symm hne))]
      exact hr.ga i hi
    · show (Z.set t.toNat l)[i.toNat]? = some (updI q.s t l i)
      rcases List.mem_cons.1 (putL_ids.mem_iff.1 hi) with he | he
      · have he : i = t := he
        rw [he, updI_same, List.getElem?_set_self (by omega)]
      · have hne : i ≠ t := fun h => hC (h ▸ he)
        have hib := ho.c.2 i he
        rw [updI_other hne, List.getElem?_set_ne (toNat_ne hg2.1 hib.1 (Ne.symm hne))]
        exact hr.s i he

set_option maxHeartbeats 4000000 in
theorem Accept_ref17 {e w L u byPri most q t pri bits N R} (h : Ok e (rpP u byPri most q :: L) w) (ho : PPo N q) (hN : N < 2 ^ 20)
    (k : ∀ w', Ok e (rpP u byPri most (q.accept t pri bits).2 :: L) w' →
      R [.agg #[.int .i64 (q.accept t pri bits).1.1, .int .i64 (q.accept t pri bits).1.2.1, .string (bs (q.accept t pri bits).1.2.2.1), .bool (q.accept t pri bits).1.2.2.2.1], .int .i64 (q.accept t pri bits).1.2.2.2.2] w') :
    sh19 (some ⟨u, 0, none⟩) t pri bits R w := by
  unfold sh19
  unfold PP.accept at k
  have l1 := okL_len ho.c
  have l2 := okL_len ho.a
  refine al.mk h fun b1 w1 h => ?_
  refine jn.bool (decide (bits = 0 ∨ ¬ goodT t pri)) (fun J hJ => cs.mk (fun h1 => ?_) (fun h1 => ?_)) ?_
  · have h1 : bits = 0 := by simpa using h1
    rw [decide_eq_true (.inl h1)] at hJ
    exact hJ
  · have h1 : ¬ bits = 0 := by simpa using h1
    refine call39 (Good_r17 h ⟨(decide (goodT t pri), ()), rfl, ?_⟩)
    rw [show decide (bits = 0 ∨ ¬ goodT t pri) = !decide (goodT t pri) by
      rw [Bool.eq_iff_iff, decide_eq_true_iff]; simp only [Bool.not_eq_true', decide_eq_false_iff_not]
      exact ⟨fun h => h.elim (fun h => absurd h h1) id, fun h => .inr h⟩] at hJ
    exact hJ
  refine cs.mk (fun h1 => ?_) (fun h1 => ?_)
  · have h1 : bits = 0 ∨ ¬ goodT t pri := of_decide_eq_true h1
    rw [if_pos h1] at k
    refine metR h fun w4 h => k _ h
  have h1 : ¬ (bits = 0 ∨ ¬ goodT t pri) := of_decide_eq_false h1
  rw [if_neg h1] at k
  have hg : goodT t pri := Decidable.not_not.1 fun hn => h1 (.inr hn)
  have hg2 := hg
  unfold goodT at hg2
  refine call40 (In_ref17 h.p1 ho (by omega) fun w4 h => ⟨(q.inP t, ()), rfl, ?_⟩)
  refine cs.mk (fun h2 => ?_) (fun h2 => ?_)
  · have h2 : q.inP t = true := h2
    rw [if_pos h2] at k
    refine metR (Ok.emb (h) (.cons (A := pts b1 _) (by with_reducible first | exact sl0 | exact .there sl0 | exact .there sl1 | exact .there sl2 | exact .there sl3 | exact .there sl4 | exact .there sl5 | exact .there sl6 | exact .there sl7 | exact .there sl8 | exact .there sl9 | exact .there sl10 | exact .there sl11 | exact .there sl12) (.same _))) fun w5 h => k _ h
  have h2 : ¬ q.inP t = true := by rw [show q.inP t = false from h2]; decide
  rw [if_neg h2] at k
  obtain ⟨hC, hA⟩ := inP_no h2
  obtain ⟨pc, pa, W, Z, so, hr, h⟩ := rpE h
  obtain ⟨sa, hsa, h⟩ := refE (Ok.emb (h) (.cons (A := refP pc _ _) (by with_reducible first | exact sl0 | exact .there sl0 | exact .there sl1 | exact .there sl2 | exact .there sl3 | exact .there sl4 | exact .there sl5 | exact .there sl6 | exact .there sl7 | exact .there sl8 | exact .there sl9 | exact .there sl10 | exact .there sl11 | exact .there sl12) (.same _)))
  have h := (Ok.emb (h) (.cons (A := pts u _) (by with_reducible first | exact sl0 | exact .there sl0 | exact .there sl1 | exact .there sl2 | exact .there sl3 | exact .there sl4 | exact .there sl5 | exact .there sl6 | exact .there sl7 | exact .there sl8 | exact .there sl9 | exact .there sl10 | exact .there sl11 | exact .there sl12) (.cons (A := pts pc _) (by with_reducible first | exact sl0 | exact .there sl0 | exact .there sl1 | exact .there sl2 | exact .there sl3 | exact .there sl4 | exact .there sl5 | exact .there sl6 | exact .there sl7 | exact .there sl8 | exact .there sl9 | exact .there sl10 | exact .there sl11 | exact .there sl12) (.cons (A := slc 2 sa _) (by with_reducible first | exact sl0 | exact .there sl0 | exact .there sl1 | exact .there sl2 | exact .there sl3 | exact .there sl4 | exact .there sl5 | exact .there sl6 | exact .there sl7 | exact .there sl8 | exact .there sl9 | exact .there sl10 | exact .there sl11 | exact .there sl12) (.cons (A := pts b1 _) (by with_reducible first | exact sl0 | exact .there sl0 | exact .there sl1 | exact .there sl2 | exact .there sl3 | exact .there sl4 | exact .there sl5 | exact .there sl6 | exact .there sl7 | exact .there sl8 | exact .there sl9 | exact .there sl10 | exact .there sl11 | exact .there sl12) (.cons (A := refP pa _ _) (by with_reducible first | exact sl0 | exact .there sl0 | exact .there sl1 | exact .there sl2 | exact .there sl3 | exact .there sl4 | exact .there sl5 | exact .there sl6 | exact .there sl7 | exact .there sl8 | exact .there sl9 | exact .there sl10 | exact .there sl11 | exact .there sl12) (.cons (A := slc 3 so _) (by with_reducible first | exact sl0 | exact .there sl0 | exact .there sl1 | exact .there sl2 | exact .there sl3 | exact .there sl4 | exact .there sl5 | exact .there sl6 | exact .there sl7 | exact .there sl8 | exact .there sl9 | exact .there sl10 | exact .there sl11 | exact .there sl12) (.same _))))))))
  refine lp.mk (fun t1 w' => ∃ n : Nat, t1.1 = (n : Int) ∧ n ≤ q.C.length ∧ (∀ m, m < n → ∀ x, q.C[m]? = some x → (bAnd .u32 (q.g x.1) bits != 0) = false) ∧
      Ok e (pts u (rpC pc pa W Z so q.last most) :: pts pc [.bool byPri, vS sa] :: slc 2 sa (prs q.C) :: pts b1 [.int .i64 0, .int .i64 0, .string ByteArray.empty, .bool false] :: refP pa false q.A :: slc 3 so (flat op3 q.L) :: L) w')
    (fun t1 _ => q.C.length - t1.1.toNat) ⟨0, rfl, Nat.zero_le _, fun m hm => absurd hm (Nat.not_lt_zero _), h⟩ ?_
  clear h
  rintro ⟨(i : Int), _⟩ w6 ⟨n, hn, hnl, hno, h⟩
  dsimp only at hn
  subst hn
  refine nn.mk (ldP.mk (by refine Ok.cellS h (by with_reducible first | exact sl0 | exact .there sl0 | exact .there sl1 | exact .there sl2 | exact .there sl3 | exact .there sl4 | exact .there sl5 | exact .there sl6 | exact .there sl7 | exact .there sl8 | exact .there sl9 | exact .there sl10 | exact .there sl11 | exact .there sl12) ?_; rfl) (nn.mk (ldS.mk (by refine Ok.cellS h (by with_reducible first | exact sl0 | exact .there sl0 | exact .there sl1 | exact .there sl2 | exact .there sl3 | exact .there sl4 | exact .there sl5 | exact .there sl6 | exact .there sl7 | exact .there sl8 | exact .there sl9 | exact .there sl10 | exact .there sl11 | exact .there sl12) ?_; rfl) ?_)))
  refine cs.mk (fun hlt => ?_) (fun hge => ?_)
  · have hlt : n < q.C.length := by have := of_decide_eq_true hlt; dsimp only at this; omega
    obtain ⟨z, hz⟩ : ∃ z, q.C[n]? = some z := ⟨_, List.getElem?_eq_getElem hlt⟩
    have hzi : z.1 ∈ ids q.C := List.mem_map.2 ⟨z, List.mem_of_getElem? hz, rfl⟩
    have hzb := ho.c.2 z.1 hzi
    refine nn.mk (ldP.mk (by refine Ok.cellS h (by with_reducible first | exact sl0 | exact .there sl0 | exact .there sl1 | exact .there sl2 | exact .there sl3 | exact .there sl4 | exact .there sl5 | exact .there sl6 | exact .there sl7 | exact .there sl8 | exact .there sl9 | exact .there sl10 | exact .there sl11 | exact .there sl12) ?_; rfl) (nn.mk (ldS.mk (by refine Ok.cellS h (by with_reducible first | exact sl0 | exact .there sl0 | exact .there sl1 | exact .there sl2 | exact .there sl3 | exact .there sl4 | exact .there sl5 | exact .there sl6 | exact .there sl7 | exact .there sl8 | exact .there sl9 | exact .there sl10 | exact .there sl11 | exact .there sl12) ?_; rfl) ?_)))
    refine ix_pr (Ok.emb (h) (.cons (A := slc 2 sa _) (by with_reducible first | exact sl0 | exact .there sl0 | exact .there sl1 | exact .there sl2 | exact .there sl3 | exact .there sl4 | exact .there sl5 | exact .there sl6 | exact .there sl7 | exact .there sl8 | exact .there sl9 | exact .there sl10 | exact .there sl11 | exact .there sl12) (.same _))) (Int.natCast_nonneg _) (by dsimp only; omega) fun b2 o2 y hy _ _ c1 c2 => ldI.mk (c1 _ ⟨_, (Ok.emb (h) (.cons (A := slc 2 sa _) (by with_reducible first | exact sl0 | exact .there sl0 | exact .there sl1 | exact .there sl2 | exact .there sl3 | exact .there sl4 | exact .there sl5 | exact .there sl6 | exact .there sl7 | exact .there sl8 | exact .there sl9 | exact .there sl10 | exact .there sl11 | exact .there sl12) (.same _)))⟩) (ldI.mk (c2 _ ⟨_, (Ok.emb (h) (.cons (A := slc 2 sa _) (by with_reducible first | exact sl0 | exact .there sl0 | exact .there sl1 | exact .there sl2 | exact .there sl3 | exact .there sl4 | exact .there sl5 | exact .there sl6 | exact .there sl7 | exact .there sl8 | exact .there sl9 | exact .there sl10 | exact .there sl11 | exact .there sl12) (.same _)))⟩) ?_)
    dsimp only at hy
    rw [Int.toNat_natCast, hz] at hy
    cases hy
    clear c1 c2
    refine al.mk h fun b3 w7 h => ?_
    (repeat (first | with_reducible refine dr.mk h fun _ h => ?_ | with_reducible refine nn.mk ?_ | ((first | with_reducible apply ldI.mk | with_reducible apply ldB.mk | with_reducible apply ldP.mk | with_reducible apply ldS.mk | with_reducible apply ldM.mk | with_reducible apply ldF.mk | with_reducible apply ldG.mk); (· exact (by refine Ok.cellS h (by with_reducible first | exact sl0 | exact .there sl0 | exact .there sl1 | exact .there sl2 | exact .there sl3 | exact .there sl4 | exact .there sl5 | exact .there sl6 | exact .there sl7 | exact .there sl8 | exact .there sl9 | exact .there sl10 | exact .there sl11 | exact .there sl12) ?_; rfl))) | (refine st1.mk (Ok.bring h (by with_reducible first | exact sl0 | exact .there sl0 | exact .there sl1 | exact .there sl2 | exact .there sl3 | exact .there sl4 | exact .there sl5 | exact .there sl6 | exact .there sl7 | exact .there sl8 | exact .there sl9 | exact .there sl10 | exact .there sl11 | exact .there sl12)) (by simp) fun _ h => ?_; dsimp only [List.set] at h)))
    refine ⟨by omega, by omega, ldI.mk (Ok.cellS h (by with_reducible first | exact sl0 | exact .there sl0 | exact .there sl1 | exact .there sl2 | exact .there sl3 | exact .there sl4 | exact .there sl5 | exact .there sl6 | exact .there sl7 | exact .there sl8 | exact .there sl9 | exact .there sl10 | exact .there sl11 | exact .there sl12) (rpC_w (hr.gc z.1 hzi))) ?_⟩
    refine cs.mk (fun hm => ?_) (fun hm => ?_)
    · rw [meetL_some hz hm hno] at k
      refine dr.mk h fun w8 h => ?_
      refine nn.mk (ldP.mk (by refine Ok.cellS h (by with_reducible first | exact sl0 | exact .there sl0 | exact .there sl1 | exact .there sl2 | exact .there sl3 | exact .there sl4 | exact .there sl5 | exact .there sl6 | exact .there sl7 | exact .there sl8 | exact .there sl9 | exact .there sl10 | exact .there sl11 | exact .there sl12) ?_; rfl) (ldI.mk (by refine Ok.cellS h (by with_reducible first | exact sl0 | exact .there sl0 | exact .there sl1 | exact .there sl2 | exact .there sl3 | exact .there sl4 | exact .there sl5 | exact .there sl6 | exact .there sl7 | exact .there sl8 | exact .there sl9 | exact .there sl10 | exact .there sl11 | exact .there sl12) ?_; rfl) ?_))
      have h := refI (q := pc) (byPri := byPri) (l := q.C) (s := sa) (Ok.emb (h) (.cons (A := pts pc _) (by with_reducible first | exact sl0 | exact .there sl0 | exact .there sl1 | exact .there sl2 | exact .there sl3 | exact .there sl4 | exact .there sl5 | exact .there sl6 | exact .there sl7 | exact .there sl8 | exact .there sl9 | exact .there sl10 | exact .there sl11 | exact .there sl12) (.cons (A := slc 2 sa _) (by with_reducible first | exact sl0 | exact .there sl0 | exact .there sl1 | exact .there sl2 | exact .there sl3 | exact .there sl4 | exact .there sl5 | exact .there sl6 | exact .there sl7 | exact .there sl8 | exact .there sl9 | exact .there sl10 | exact .there sl11 | exact .there sl12) (.same _))))
      refine call41 (Remove_ref4 h (by omega) fun w9 h => ⟨(decide (0 ≤ atI q.C z.1), ()), rfl, ?_⟩)
      refine dr.mk h fun w10 h => ?_
      refine ldI.mk (by refine Ok.cellS h (by with_reducible first | exact sl0 | exact .there sl0 | exact .there sl1 | exact .there sl2 | exact .there sl3 | exact .there sl4 | exact .there sl5 | exact .there sl6 | exact .there sl7 | exact .there sl8 | exact .there sl9 | exact .there sl10 | exact .there sl11 | exact .there sl12) ?_; rfl) (ldI.mk (by refine Ok.cellS h (by with_reducible first | exact sl0 | exact .there sl0 | exact .there sl1 | exact .there sl2 | exact .there sl3 | exact .there sl4 | exact .there sl5 | exact .there sl6 | exact .there sl7 | exact .there sl8 | exact .there sl9 | exact .there sl10 | exact .there sl11 | exact .there sl12) ?_; rfl) (ldI.mk (by refine Ok.cellS h (by with_reducible first | exact sl0 | exact .there sl0 | exact .there sl1 | exact .there sl2 | exact .there sl3 | exact .there sl4 | exact .there sl5 | exact .there sl6 | exact .there sl7 | exact .there sl8 | exact .there sl9 | exact .there sl10 | exact .there sl11 | exact .there sl12) ?_; rfl) (ldI.mk (by refine Ok.cellS h (by with_reducible first | exact sl0 | exact .there sl0 | exact .there sl1 | exact .there sl2 | exact .there sl3 | exact .there sl4 | exact .there sl5 | exact .there sl6 | exact .there sl7 | exact .there sl8 | exact .there sl9 | exact .there sl10 | exact .there sl11 | exact .there sl12) ?_; rfl) ?_)))
      refine nn.mk ⟨by omega, by omega, ldG.mk (Ok.cellS h (by with_reducible first | exact sl0 | exact .there sl0 | exact .there sl1 | exact .there sl2 | exact .there sl3 | exact .there sl4 | exact .there sl5 | exact .there sl6 | exact .there sl7 | exact .there sl8 | exact .there sl9 | exact .there sl10 | exact .there sl11 | exact .there sl12) (rpC_z hr.w (hr.s z.1 hzi))) ?_⟩
      have l3 := ho.n
      have l4 := ho.l
      refine call42 (meetX_ref17 (t := z.1) (pri := z.2) hr.w hr.z (Ok.emb (h) (.cons (A := pts u _) (by with_reducible first | exact sl0 | exact .there sl0 | exact .there sl1 | exact .there sl2 | exact .there sl3 | exact .there sl4 | exact .there sl5 | exact .there sl6 | exact .there sl7 | exact .there sl8 | exact .there sl9 | exact .there sl10 | exact .there sl11 | exact .there sl12) (.cons (A := refP pc _ _) (by with_reducible first | exact sl0 | exact .there sl0 | exact .there sl1 | exact .there sl2 | exact .there sl3 | exact .there sl4 | exact .there sl5 | exact .there sl6 | exact .there sl7 | exact .there sl8 | exact .there sl9 | exact .there sl10 | exact .there sl11 | exact .there sl12) (.cons (A := refP pa _ _) (by with_reducible first | exact sl0 | exact .there sl0 | exact .there sl1 | exact .there sl2 | exact .there sl3 | exact .there sl4 | exact .there sl5 | exact .there sl6 | exact .there sl7 | exact .there sl8 | exact .there sl9 | exact .there sl10 | exact .there sl11 | exact .there sl12) (.cons (A := slc 3 so _) (by with_reducible first | exact sl0 | exact .there sl0 | exact .there sl1 | exact .there sl2 | exact .there sl3 | exact .there sl4 | exact .there sl5 | exact .there sl6 | exact .there sl7 | exact .there sl8 | exact .there sl9 | exact .there sl10 | exact .there sl11 | exact .there sl12) (.same _)))))) (by omega) (by omega) fun so' w11 h => ⟨(q.last + 1, ()), rfl, Ok.cellS h (by with_reducible first | exact sl0 | exact .there sl0 | exact .there sl1 | exact .there sl2 | exact .there sl3 | exact .there sl4 | exact .there sl5 | exact .there sl6 | exact .there sl7 | exact .there sl8 | exact .there sl9 | exact .there sl10 | exact .there sl11 | exact .there sl12) (rpC_z hr.w (hr.s z.1 hzi)), (by refine Ok.cellS h (by with_reducible first | exact sl0 | exact .there sl0 | exact .there sl1 | exact .there sl2 | exact .there sl3 | exact .there sl4 | exact .there sl5 | exact .there sl6 | exact .there sl7 | exact .there sl8 | exact .there sl9 | exact .there sl10 | exact .there sl11 | exact .there sl12) ?_; rfl), (by refine Ok.cellS h (by with_reducible first | exact sl0 | exact .there sl0 | exact .there sl1 | exact .there sl2 | exact .there sl3 | exact .there sl4 | exact .there sl5 | exact .there sl6 | exact .there sl7 | exact .there sl8 | exact .there sl9 | exact .there sl10 | exact .there sl11 | exact .there sl12) ?_; rfl), ?_⟩)
      have h := rpI (q := ⟨rmL q.C z.1, q.A, q.g, q.s, q.L ++ [(q.last + 1, z.1, z.2)], q.last + 1⟩) (u := u) (byPri := byPri) (most := most) (hR_more (hR_cutC hr)) h
      refine metR (Ok.emb (h) (.cons (A := pts b1 _) (by with_reducible first | exact sl0 | exact .there sl0 | exact .there sl1 | exact .there sl2 | exact .there sl3 | exact .there sl4 | exact .there sl5 | exact .there sl6 | exact .there sl7 | exact .there sl8 | exact .there sl9 | exact .there sl10 | exact .there sl11 | exact .there sl12) (.same _))) fun w12 h => k _ ((Ok.emb (h) (.cons (A := pts b3 _) (by with_reducible first | exact sl0 | exact .there sl0 | exact .there sl1 | exact .there sl2 | exact .there sl3 | exact .there sl4 | exact .there sl5 | exact .there sl6 | exact .there sl7 | exact .there sl8 | exact .there sl9 | exact .there sl10 | exact .there sl11 | exact .there sl12) (.cons (A := rpP u _ _ _) (by with_reducible first | exact sl0 | exact .there sl0 | exact .there sl1 | exact .there sl2 | exact .there sl3 | exact .there sl4 | exact .there sl5 | exact .there sl6 | exact .there sl7 | exact .there sl8 | exact .there sl9 | exact .there sl10 | exact .there sl11 | exact .there sl12) (.same _))))).drop
    · have hw : w64 ((n : Int) + 1) = ((n + 1 : Nat) : Int) := by rw [w64_in (by omega) (by omega)]; rfl
      dsimp only
      rw [hw]
      refine ⟨⟨n + 1, rfl, hlt, fun j hj y hy => ?_, ((Ok.emb (h) (.cons (A := pts b3 _) (by with_reducible first | exact sl0 | exact .there sl0 | exact .there sl1 | exact .there sl2 | exact .there sl3 | exact .there sl4 | exact .there sl5 | exact .there sl6 | exact .there sl7 | exact .there sl8 | exact .there sl9 | exact .there sl10 | exact .there sl11 | exact .there sl12) (.cons (A := pts u _) (by with_reducible first | exact sl0 | exact .there sl0 | exact .there sl1 | exact .there sl2 | exact .there sl3 | exact .there sl4 | exact .there sl5 | exact .there sl6 | exact .there sl7 | exact .there sl8 | exact .there sl9 | exact .there sl10 | exact .there sl11 | exact .there sl12) (.cons (A := pts pc _) (by with_reducible first | exact sl0 | exact .there sl0 | exact .there sl1 | exact .there sl2 | exact .there sl3 | exact .there sl4 | exact .there sl5 | exact .there sl6 | exact .there sl7 | exact .there sl8 | exact .there sl9 | exact .there sl10 | exact .there sl11 | exact .there sl12) (.cons (A := slc 2 sa _) (by with_reducible first | exact sl0 | exact .there sl0 | exact .there sl1 | exact .there sl2 | exact .there sl3 | exact .there sl4 | exact .there sl5 | exact .there sl6 | exact .there sl7 | exact .there sl8 | exact .there sl9 | exact .there sl10 | exact .there sl11 | exact .there sl12) (.cons (A := pts b1 _) (by with_reducible first | exact sl0 | exact .there sl0 | exact .there sl1 | exact .there sl2 | exact .there sl3 | exact .there sl4 | exact .there sl5 | exact .there sl6 | exact .there sl7 | exact .there sl8 | exact .there sl9 | exact .there sl10 | exact .there sl11 | exact .there sl12) (.cons (A := refP pa _ _) (by with_reducible first | exact sl0 | exact .there sl0 | exact .there sl1 | exact .there sl2 | exact .there sl3 | exact .there sl4 | exact .there sl5 | exact .there sl6 | exact .there sl7 | exact .there sl8 | exact .there sl9 | exact .there sl10 | exact .there sl11 | exact .there sl12) (.cons (A := slc 3 so _) (by with_reducible first | exact sl0 | exact .there sl0 | exact .there sl1 | exact .there sl2 | exact .there sl3 | exact .there sl4 | exact .there sl5 | exact .there sl6 | exact .there sl7 | exact .there sl8 | exact .there sl9 | exact .there sl10 | exact .there sl11 | exact .there sl12) (.same _)))))))))).drop⟩, ?_⟩
      · rcases Nat.lt_or_ge j n with hm' | hm'
        · exact hno j hm' y hy
        · have : j = n := by omega
          subst this
          rw [hz] at hy
          cases hy
          exact hm
      · show q.C.length - Int.toNat ((n + 1 : Nat) : Int) < q.C.length - Int.toNat (n : Int)
        omega
  · have hge : q.C.length ≤ n := by have := of_decide_eq_false hge; dsimp only at this; omega
    rw [meetL_none fun j y hy => hno j (by have := (List.getElem?_eq_some_iff.1 hy).1; omega) y hy, addL_good hg hA] at k
    refine nn.mk (ldP.mk (by refine Ok.cellS h (by with_reducible first | exact sl0 | exact .there sl0 | exact .there sl1 | exact .there sl2 | exact .there sl3 | exact .there sl4 | exact .there sl5 | exact .there sl6 | exact .there sl7 | exact .there sl8 | exact .there sl9 | exact .there sl10 | exact .there sl11 | exact .there sl12) ?_; rfl) ?_)
    refine call43 (Add_ref4 (Ok.emb (h) (.cons (A := refP pa _ _) (by with_reducible first | exact sl0 | exact .there sl0 | exact .there sl1 | exact .there sl2 | exact .there sl3 | exact .there sl4 | exact .there sl5 | exact .there sl6 | exact .there sl7 | exact .there sl8 | exact .there sl9 | exact .there sl10 | exact .there sl11 | exact .there sl12) (.same _))) (by omega) fun w7 h => ⟨((addL false q.A t pri).1, ()), rfl, ?_⟩)
    rw [addL_good hg hA] at h
    refine nn.mk ⟨by omega, by omega, ?_⟩
    have hWl := hr.w
    have hZl := hr.z
    refine st1.mk (Ok.emb (h) (.cons (A := pts u _) (by with_reducible first | exact sl0 | exact .there sl0 | exact .there sl1 | exact .there sl2 | exact .there sl3 | exact .there sl4 | exact .there sl5 | exact .there sl6 | exact .there sl7 | exact .there sl8 | exact .there sl9 | exact .there sl10 | exact .there sl11 | exact .there sl12) (.same _))) (by rw [rpC_len hWl hZl]; omega) fun w8 h => ?_
    rw [rpC_setW (by omega)] at h
    have hWl2 : (W.set t.toNat bits).length = 17 := by rw [List.length_set]; exact hWl
    refine metR (Ok.emb (h) (.cons (A := pts b1 _) (by with_reducible first | exact sl0 | exact .there sl0 | exact .there sl1 | exact .there sl2 | exact .there sl3 | exact .there sl4 | exact .there sl5 | exact .there sl6 | exact .there sl7 | exact .there sl8 | exact .there sl9 | exact .there sl10 | exact .there sl11 | exact .there sl12) (.same _))) fun w11 h => ?_
    have h := refI (q := pc) (byPri := byPri) (l := q.C) (s := sa) (Ok.emb (h) (.cons (A := pts pc _) (by with_reducible first | exact sl0 | exact .there sl0 | exact .there sl1 | exact .there sl2 | exact .there sl3 | exact .there sl4 | exact .there sl5 | exact .there sl6 | exact .there sl7 | exact .there sl8 | exact .there sl9 | exact .there sl10 | exact .there sl11 | exact .there sl12) (.cons (A := slc 2 sa _) (by with_reducible first | exact sl0 | exact .there sl0 | exact .there sl1 | exact .there sl2 | exact .there sl3 | exact .there sl4 | exact .there sl5 | exact .there sl6 | exact .there sl7 | exact .there sl8 | exact .there sl9 | exact .there sl10 | exact .there sl11 | exact .there sl12) (.same _))))
    have h := rpI (q := ⟨q.C, putL false q.A (t, pri), updI q.g t bits, q.s, q.L, q.last⟩) (u := u) (byPri := byPri) (most := most) ⟨hWl2, hZl, fun i hi => ?_, fun i hi => ?_, hr.s⟩ (Ok.emb (h) (.cons (A := pts u _) (by with_reducible first | exact sl0 | exact .there sl0 | exact .there sl1 | exact .there sl2 | exact .there sl3 | exact .there sl4 | exact .there sl5 | exact .there sl6 | exact .there sl7 | exact .there sl8 | exact .there sl9 | exact .there sl10 | exact .there sl11 | exact .there sl12) (.cons (A := refP pc _ _) (by with_reducible first | exact sl0 | exact .there sl0 | exact .there sl1 | exact .there sl2 | exact .there sl3 | exact .there sl4 | exact .there sl5 | exact .there sl6 | exact .there sl7 | exact .there sl8 | exact .there sl9 | exact .there sl10 | exact .there sl11 | exact .there sl12) (.cons (A := refP pa _ _) (by with_reducible first | exact sl0 | exact .there sl0 | exact .there sl1 | exact .there sl2 | exact .there sl3 | exact .there sl4 | exact .there sl5 | exact .there sl6 | exact .there sl7 | exact .there sl8 | exact .there sl9 | exact .there sl10 | exact .there sl11 | exact .there sl12) (.cons (A := slc 3 so _) (by with_reducible first | exact sl0 | exact .there sl0 | exact .there sl1 | exact .there sl2 | exact .there sl3 | exact .there sl4 | exact .there sl5 | exact .there sl6 | exact .there sl7 | exact .there sl8 | exact .there sl9 | exact .there sl10 | exact .there sl11 | exact .there sl12) (.same _))))))
    · exact k _ (Ok.emb (h) (.cons (A := rpP u _ _ _) (by with_reducible first | exact sl0 | exact .there sl0 | exact .there sl1 | exact .there sl2 | exact .there sl3 | exact .there sl4 | exact .there sl5 | exact .there sl6 | exact .there sl7 | exact .there sl8 | exact .there sl9 | exact .there sl10 | exact .there sl11 | exact .there sl12) (.same _)))
    · show (W.set t.toNat bits)[i.toNat]? = some (updI q.g t bits i)
      have hne : i ≠ t := fun h => hC (h ▸ hi)
      have hib := ho.c.2 i hi
      rw [updI_other hne, List.getElem?_set_ne (toNat_ne hg2.1 hib.1 (Ne.symm hne))]
      exact hr.gc i hi
    · show (W.set t.toNat bits)[i.toNat]? = some (updI q.g t bits i)
      rcases List.mem_cons.1 (putL_ids.mem_iff.1 hi) with he | he
      · have he : i = t := he
        rw [he, updI_same, List.getElem?_set_self (by omega)]
      · have hne : i ≠ t := fun h => hA (h ▸ he)
        have hib := ho.a.2 i he
        rw [updI_other hne, List.getElem?_set_ne (toNat_ne hg2.1 hib.1 (Ne.symm hne))]
        exact hr.ga i he

end Go.Proofs.Ytbhmejmkoefahaa.B
