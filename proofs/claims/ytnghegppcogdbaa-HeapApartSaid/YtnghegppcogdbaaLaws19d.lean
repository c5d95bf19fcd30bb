/- A law of layer 19: blocks lie apart; given back, all is one gap. -/
import Derived.Test.YtnghegppcogdbaaLaws19c
namespace Go.Proofs.Ytnghegppcogdbaa.B
open Go
set_option linter.unusedVariables false

set_option maxHeartbeats 4000000 in
theorem HeapApart_walk {e : World} {a0 : Int} {a1 a2 : Sl} {xs ys : List Int} (w0 : (Lit.int .i64 a0).wf = true) (ha : ArgI .u8 e a1 xs) (hb : ArgI .u8 e a2 ys) : sh3 a0 a1 a2 (LawEnd e) e := by
  unfold sh3
  have hr := rd_arg ha
  have hr2 := rd_arg hb
  refine call7 (known_19 (Ok.start e) fun w1 h => ⟨(true, ()), enc_b rfl, ?_⟩)
  refine cs.no rfl ?_
  refine jn.bool (decide (¬ (8 ≤ a0 ∧ a0 ≤ 2000))) (fun J hJ => ?_) ?_
  · refine cs.mk (fun h1 => ?_) (fun h1 => ?_)
    · have h1 := of_decide_eq_true h1
      rw [decide_eq_true (by omega)] at hJ
      exact hJ
    · have h1 := of_decide_eq_false h1
      rw [show decide (¬ (8 ≤ a0 ∧ a0 ≤ 2000)) = decide (a0 > 2000) from decide_eq_decide.2 (by omega)] at hJ
      exact hJ
  refine jn.bool (decide (¬ (8 ≤ a0 ∧ a0 ≤ 2000 ∧ a0 % 8 = 0))) (fun J hJ => ?_) ?_
  · refine cs.mk (fun h1 => ?_) (fun h1 => ?_)
    · have h1 := of_decide_eq_true h1
      rw [decide_eq_true (by omega)] at hJ
      exact hJ
    · have h1 := of_decide_eq_false h1
      rw [show decide (¬ (8 ≤ a0 ∧ a0 ≤ 2000 ∧ a0 % 8 = 0)) = (Int.tmod a0 8 != 0) by
        rw [Int.tmod_eq_emod_of_nonneg (by omega), Bool.eq_iff_iff, decide_eq_true_iff, bne_iff_ne]; omega] at hJ
      exact hJ
  refine jn.bool (decide (¬ (8 ≤ a0 ∧ a0 ≤ 2000 ∧ a0 % 8 = 0 ∧ a1.len ≤ 40))) (fun J hJ => ?_) ?_
  · refine cs.mk (fun h1 => ?_) (fun h1 => ?_)
    · have h1 := of_decide_eq_true h1
      rw [decide_eq_true (by omega)] at hJ
      exact hJ
    · have h1 := of_decide_eq_false h1
      rw [show decide (¬ (8 ≤ a0 ∧ a0 ≤ 2000 ∧ a0 % 8 = 0 ∧ a1.len ≤ 40)) = decide ((a1.len : Int) > 40) from decide_eq_decide.2 (by omega)] at hJ
      exact hJ
  refine jn.bool (decide (¬ (8 ≤ a0 ∧ a0 ≤ 2000 ∧ a0 % 8 = 0 ∧ a1.len ≤ 40 ∧ a1.len ≤ a2.len))) (fun J hJ => ?_) ?_
  · refine cs.mk (fun h1 => ?_) (fun h1 => ?_)
    · have h1 := of_decide_eq_true h1
      rw [decide_eq_true (by omega)] at hJ
      exact hJ
    · have h1 := of_decide_eq_false h1
      rw [show decide (¬ (8 ≤ a0 ∧ a0 ≤ 2000 ∧ a0 % 8 = 0 ∧ a1.len ≤ 40 ∧ a1.len ≤ a2.len)) = decide ((a2.len : Int) < (a1.len : Int)) from decide_eq_decide.2 (by omega)] at hJ
      exact hJ
  refine cs.mk (fun h1 => ⟨rfl, h⟩) (fun h1 => ?_)
  have hc := Decidable.not_not.1 (of_decide_eq_false h1)
  clear h1
  have hg : 0 ≤ (16 : Int) ∧ (16 : Int) ≤ 65536 ∧ (16 : Int) % 8 = 0 ∧ 8 ≤ a0 ∧ a0 ≤ 65536 - 16 ∧ a0 % 8 = 0 := by omega
  refine call8 (New_mpl h (fun h0 => absurd hg h0) fun _ b w2 h => ⟨(some ⟨b, 0, none⟩, (0 : Int), ()), rfl, ?_⟩)
  have h := (h.slcNil 1).slcNil 1
  refine lp.mk (fun t w' => ∃ (i : Nat) (q : LP) (P : List (Int × Int)), t.2.2.2.1 = (i : Int) ∧ i ≤ a1.len ∧ q.S = [] ∧ LPo 16 a0 q ∧ q.L.Perm P ∧ (∀ b ∈ P, b.1 % 8 = 0) ∧ P.length ≤ i ∧ t.2.2.1 = sumT P ∧ Ok e [slc 1 t.1 (ints (heldB P)), slc 1 t.2.1 (ints (P.map (·.2))), mplP b false 16 a0 q, old e] w')
    (fun t _ => a1.len - t.2.2.2.1.toNat) ⟨0, ⟨[], [], fun _ => 0⟩, [], rfl, Nat.zero_le _, rfl, lp0_ok hg, List.Perm.refl _, (fun b hb => by cases hb), Nat.le_refl _, rfl, h⟩ ?_
  clear h
  rintro ⟨sa, sn, us, i', _⟩ w3 ⟨i, q, P, hi, hi1, hS, ho, hP, hmod, hPl, hus, h⟩
  dsimp only at hi hus h
  subst hi hus
  have hsa := slc_ints_len h
  have hsn := slc_ints_len h.p1
  unfold heldB at hsa
  rw [List.length_map] at hsa hsn
  have hfb := freeF_bd ho (i := q.L.length + 1) (Nat.le_refl _)
  rw [freeF_sum, sumT_perm hP] at hfb
  have hsum0 : 0 ≤ sumT P := by
    have : ∀ l : List (Int × Int), (∀ b ∈ l, 1 ≤ b.2) → 0 ≤ sumT l := by
      intro l hl
      induction l with
      | nil => exact Int.le_refl _
      | cons b l ih =>
        have h1 := ih fun c hc => hl c (List.mem_cons_of_mem _ hc)
        have h2 := tk_ge (n := b.2) (by have := hl b (List.mem_cons_self ..); omega)
        have h3 := hl b (List.mem_cons_self ..)
        show 0 ≤ tk b.2 + sumT l
        omega
    exact this P fun b hb => (chL_mem ho.ch (hP.mem_iff.2 hb)).2.1
  refine cs.mk (fun hlt => ?_) (fun hge => ?_)
  · have hlt : i < a1.len := by have := of_decide_eq_true hlt; dsimp only at this; omega
    have hw : w64 ((i : Int) + 1) = ((i + 1 : Nat) : Int) := by rw [w64_in (by omega) (by omega)]; rfl
    have hmu : a1.len - Int.toNat ((i + 1 : Nat) : Int) < a1.len - Int.toNat (i : Int) := by omega
    refine ix_rd hr (Int.natCast_nonneg _) (by show (i : Int) < (a1.len : Int); omega) fun c o x hx hcell => ldI.mk (hcell _ _ (Ok.emb (h) (.cons (A := old e) (by with_reducible first | exact sl0 | exact .there sl0 | exact .there sl1 | exact .there sl2 | exact .there sl3 | exact .there sl4 | exact .there sl5 | exact .there sl6 | exact .there sl7 | exact .there sl8 | exact .there sl9 | exact .there sl10 | exact .there sl11 | exact .there sl12) (.same _)))) ?_
    clear hcell
    have hxb := ha.u8 (List.mem_of_getElem? hx)
    obtain ⟨k, hk⟩ : ∃ k, k = 1 + x := ⟨_, rfl⟩
    rw [w64_in (x := x) (by omega) (by omega), w64_in (x := 1 + x) (by omega) (by omega), ← hk, w64_in (x := a0 - 8) (by omega) (by omega)]
    dsimp only
    rw [hw]
    refine cs.mk (fun h1 => ?_) (fun h1 => ?_)
    · exact ⟨⟨i + 1, q, P, rfl, hlt, hS, ho, hP, hmod, by omega, rfl, h⟩, hmu⟩
    have h1 : k ≤ a0 - 8 := by have := of_decide_eq_false h1; omega
    obtain ⟨⟨⟨y, ok⟩, m⟩, hfd⟩ : ∃ r, findL 16 (16 + a0) q.L k = r := ⟨_, rfl⟩
    have e1 : q.poll 16 a0 k = ((y, ok, 0), ⟨q.S, m, q.g⟩) := by
      obtain ⟨S, L, g⟩ := q
      exact poll_find (by omega) hfd
    have o2 := lpoll_ok (n := k) ho
    refine call9 (Poll_mpl (Ok.emb (h) (.cons (A := mplP b _ _ _ _) (by with_reducible first | exact sl0 | exact .there sl0 | exact .there sl1 | exact .there sl2 | exact .there sl3 | exact .there sl4 | exact .there sl5 | exact .there sl6 | exact .there sl7 | exact .there sl8 | exact .there sl9 | exact .there sl10 | exact .there sl11 | exact .there sl12) (.same _))) ho fun w5 h => ⟨(y, ok, (0 : Int), ()), by rw [e1]; rfl, ?_⟩)
    rw [e1] at h o2
    refine cs.no rfl ?_
    dsimp only at h o2 ⊢
    cases ok with
    | false =>
      refine cs.yes rfl ?_
      have hm : m = q.L := by
        have h5 := findL_no (a := 16) (hi := 16 + a0) (n := k) (l := q.L) (by rw [hfd])
        rw [hfd] at h5
        exact h5
      subst hm
      exact ⟨⟨i + 1, ⟨q.S, q.L, q.g⟩, P, rfl, hlt, hS, o2, hP, hmod, by omega, rfl, (h.emb (by repeat' (first | with_reducible exact Emb.same _ | exact Emb.nil _ | refine Emb.cons (by with_reducible first | exact sl0 | exact .there sl0 | exact .there sl1 | exact .there sl2 | exact .there sl3 | exact .there sl4 | exact .there sl5 | exact .there sl6 | exact .there sl7 | exact .there sl8 | exact .there sl9 | exact .there sl10 | exact .there sl11 | exact .there sl12) ?_ | refine Emb.skip ?_)))⟩, hmu⟩
    | true =>
      refine cs.no rfl ?_
      have hgot := findL_got hfd
      have hym := findL_mod hfd (fun b hb => hmod b (hP.mem_iff.1 hb)) (by decide)
      have hmem := chL_mem o2.ch (hgot.mem_iff.2 (List.mem_cons_self ..))
      dsimp only at hmem
      have htk := tk_ge (n := k) (by omega)
      have htk2 : tk k = 8 + (k + 7) / 8 * 8 := rfl
      refine jn.bool (false) (fun J hJ => ?_) ?_
      · refine cs.no ?_ ?_
        · rw [Int.tmod_eq_emod_of_nonneg (by omega), bne_eq_false_iff_eq]; exact hym
        · rw [decide_eq_false (by omega)]; exact hJ
      refine jn.bool (false) (fun J hJ => ?_) ?_
      · refine cs.no rfl ?_
        rw [w64_in (x := y + k) (by omega) (by omega), w64_in (x := 16 + a0) (by omega) (by omega), decide_eq_false (by omega)]
        exact hJ
      refine cs.no rfl ?_
      refine lp.mk (fun t w' => ∃ j : Nat, t.1 = (j : Int) ∧ j ≤ P.length ∧ Ok e [slc 1 sa (ints (heldB P)), slc 1 sn (ints (P.map (·.2))), mplP b false 16 a0 ⟨q.S, m, q.g⟩, old e] w') (fun t _ => P.length - t.1.toNat) ⟨0, rfl, Nat.zero_le _, (h.emb (by repeat' (first | with_reducible exact Emb.same _ | exact Emb.nil _ | refine Emb.cons (by with_reducible first | exact sl0 | exact .there sl0 | exact .there sl1 | exact .there sl2 | exact .there sl3 | exact .there sl4 | exact .there sl5 | exact .there sl6 | exact .there sl7 | exact .there sl8 | exact .there sl9 | exact .there sl10 | exact .there sl11 | exact .there sl12) ?_ | refine Emb.skip ?_)))⟩ ?_
      clear h
      rintro ⟨j', _⟩ w6 ⟨j, hj, hj1, h⟩
      dsimp only at hj
      subst hj
      refine cs.mk (fun hlt2 => ?_) (fun hge2 => ?_)
      · have hlt2 : j < P.length := by have := of_decide_eq_true hlt2; dsimp only at this; omega
        have hw2 : w64 ((j : Int) + 1) = ((j + 1 : Nat) : Int) := by rw [w64_in (by omega) (by omega)]; rfl
        obtain ⟨p, hp⟩ : ∃ p, P[j]? = some p := ⟨_, List.getElem?_eq_getElem hlt2⟩
        have hpa : (heldB P)[j]? = some (p.1 + 8) := by unfold heldB; rw [List.getElem?_map, hp]; rfl
        have hpn : (P.map (·.2))[j]? = some p.2 := by rw [List.getElem?_map, hp]; rfl
        have hpq := hP.mem_iff.2 (List.mem_of_getElem? hp)
        have hpm := chL_mem ho.ch hpq
        have hpt := tk_ge (n := p.2) (by omega)
        have hap := pair_apart o2.ch hgot hpq
        dsimp only at hap
        refine dr.mk h fun w7 h => ?_
        dsimp only
        refine jn.bool (false) (fun J hJ => ?_) ?_
        · refine ix_int (Ok.emb (h) (.cons (A := slc 1 sa _) (by with_reducible first | exact sl0 | exact .there sl0 | exact .there sl1 | exact .there sl2 | exact .there sl3 | exact .there sl4 | exact .there sl5 | exact .there sl6 | exact .there sl7 | exact .there sl8 | exact .there sl9 | exact .there sl10 | exact .there sl11 | exact .there sl12) (.same _))) (Int.natCast_nonneg _) (by omega) fun c o v hv hcell => ldI.mk (hcell _ ⟨_, (Ok.emb (h) (.cons (A := slc 1 sa _) (by with_reducible first | exact sl0 | exact .there sl0 | exact .there sl1 | exact .there sl2 | exact .there sl3 | exact .there sl4 | exact .there sl5 | exact .there sl6 | exact .there sl7 | exact .there sl8 | exact .there sl9 | exact .there sl10 | exact .there sl11 | exact .there sl12) (.same _)))⟩) ?_
          rw [Int.toNat_natCast, hpa] at hv
          cases hv
          clear hcell
          refine ix_int (Ok.emb (h) (.cons (A := slc 1 sn _) (by with_reducible first | exact sl0 | exact .there sl0 | exact .there sl1 | exact .there sl2 | exact .there sl3 | exact .there sl4 | exact .there sl5 | exact .there sl6 | exact .there sl7 | exact .there sl8 | exact .there sl9 | exact .there sl10 | exact .there sl11 | exact .there sl12) (.same _))) (Int.natCast_nonneg _) (by omega) fun c o v hv hcell => ldI.mk (hcell _ ⟨_, (Ok.emb (h) (.cons (A := slc 1 sn _) (by with_reducible first | exact sl0 | exact .there sl0 | exact .there sl1 | exact .there sl2 | exact .there sl3 | exact .there sl4 | exact .there sl5 | exact .there sl6 | exact .there sl7 | exact .there sl8 | exact .there sl9 | exact .there sl10 | exact .there sl11 | exact .there sl12) (.same _)))⟩) ?_
          rw [Int.toNat_natCast, hpn] at hv
          cases hv
          clear hcell
          rw [w64_in (x := p.1 + 8 + p.2) (by omega) (by omega), w64_in (x := p.1 + 8 + p.2 + 8) (by omega) (by omega)]
          refine cs.mk (fun h5 => ?_) (fun h5 => hJ)
          have h5 := of_decide_eq_true h5
          refine ix_int (Ok.emb (h) (.cons (A := slc 1 sa _) (by with_reducible first | exact sl0 | exact .there sl0 | exact .there sl1 | exact .there sl2 | exact .there sl3 | exact .there sl4 | exact .there sl5 | exact .there sl6 | exact .there sl7 | exact .there sl8 | exact .there sl9 | exact .there sl10 | exact .there sl11 | exact .there sl12) (.same _))) (Int.natCast_nonneg _) (by omega) fun c o v hv hcell => ldI.mk (hcell _ ⟨_, (Ok.emb (h) (.cons (A := slc 1 sa _) (by with_reducible first | exact sl0 | exact .there sl0 | exact .there sl1 | exact .there sl2 | exact .there sl3 | exact .there sl4 | exact .there sl5 | exact .there sl6 | exact .there sl7 | exact .there sl8 | exact .there sl9 | exact .there sl10 | exact .there sl11 | exact .there sl12) (.same _)))⟩) ?_
          rw [Int.toNat_natCast, hpa] at hv
          cases hv
          clear hcell
          rw [w64_in (x := y + k) (by omega) (by omega), w64_in (x := y + k + 8) (by omega) (by omega), decide_eq_false (by omega)]
          exact hJ
        refine cs.no rfl ?_
        rw [hw2]
        refine ⟨⟨j + 1, rfl, hlt2, h⟩, ?_⟩
        show P.length - Int.toNat ((j + 1 : Nat) : Int) < P.length - Int.toNat (j : Int)
        omega
      refine al.mk h fun c w7 h => ?_
      refine ef.append1 (n := 1) slT_int (by decide) (Ok.emb (h) (.cons (A := pts c _) (by with_reducible first | exact sl0 | exact .there sl0 | exact .there sl1 | exact .there sl2 | exact .there sl3 | exact .there sl4 | exact .there sl5 | exact .there sl6 | exact .there sl7 | exact .there sl8 | exact .there sl9 | exact .there sl10 | exact .there sl11 | exact .there sl12) (.cons (A := slc 1 sa _) (by with_reducible first | exact sl0 | exact .there sl0 | exact .there sl1 | exact .there sl2 | exact .there sl3 | exact .there sl4 | exact .there sl5 | exact .there sl6 | exact .there sl7 | exact .there sl8 | exact .there sl9 | exact .there sl10 | exact .there sl11 | exact .there sl12) (.same _)))) rfl (by intro v hv; simp at hv; subst hv; rfl) (by omega) fun s2 w8 hl2 h => ?_
      rw [ints_snoc] at h
      refine al.mk h fun c w9 h => ?_
      refine ef.append1 (n := 1) slT_int (by decide) (Ok.emb (h) (.cons (A := pts c _) (by with_reducible first | exact sl0 | exact .there sl0 | exact .there sl1 | exact .there sl2 | exact .there sl3 | exact .there sl4 | exact .there sl5 | exact .there sl6 | exact .there sl7 | exact .there sl8 | exact .there sl9 | exact .there sl10 | exact .there sl11 | exact .there sl12) (.cons (A := slc 1 sn _) (by with_reducible first | exact sl0 | exact .there sl0 | exact .there sl1 | exact .there sl2 | exact .there sl3 | exact .there sl4 | exact .there sl5 | exact .there sl6 | exact .there sl7 | exact .there sl8 | exact .there sl9 | exact .there sl10 | exact .there sl11 | exact .there sl12) (.same _)))) rfl (by intro v hv; simp at hv; subst hv; rfl) (by omega) fun s3 w10 hl3 h => ?_
      rw [ints_snoc] at h
      have hsm : sumT m = tk k + sumT P := by rw [sumT_perm hgot]; show tk k + sumT q.L = _; rw [sumT_perm hP]
      refine call10 (Free_mpl (Ok.emb (h) (.cons (A := mplP b _ _ _ _) (by with_reducible first | exact sl0 | exact .there sl0 | exact .there sl1 | exact .there sl2 | exact .there sl3 | exact .there sl4 | exact .there sl5 | exact .there sl6 | exact .there sl7 | exact .there sl8 | exact .there sl9 | exact .there sl10 | exact .there sl11 | exact .there sl12) (.same _))) o2 fun w11 h => ⟨((freeF 16 (16 + a0) m (m.length + 1)).1, (freeF 16 (16 + a0) m (m.length + 1)).2, ()), rfl, ?_⟩)
      dsimp only
      have hfb2 := freeF_bd o2 (i := m.length + 1) (Nat.le_refl _)
      dsimp only at hfb2
      rw [freeF_sum] at hfb2 ⊢
      rw [w64_in (x := sumT P + 8) (by omega) (by omega), w64_in (x := k + 7) (by omega) (by omega), Int.tdiv_eq_ediv_of_nonneg (by omega), w64_in (x := (k + 7) / 8) (by omega) (by omega), w64_in (x := (k + 7) / 8 * 8) (by omega) (by omega), w64_in (x := sumT P + 8 + (k + 7) / 8 * 8) (by omega) (by omega), w64_in (x := a0 - (sumT P + 8 + (k + 7) / 8 * 8)) (by omega) (by omega)]
      refine cs.no (by rw [bne_eq_false_iff_eq]; omega) ?_
      have hP2 : m.Perm (P ++ [(y - 8, k)]) := hgot.trans ((hP.cons _).trans (List.perm_append_singleton ..).symm)
      have e5 : heldB (P ++ [(y - 8, k)]) = heldB P ++ [y] := by unfold heldB; rw [List.map_append]; simp
      have e6 : (P ++ [(y - 8, k)]).map (·.2) = P.map (·.2) ++ [k] := by rw [List.map_append]; rfl
      refine ⟨⟨i + 1, ⟨q.S, m, q.g⟩, P ++ [(y - 8, k)], rfl, hlt, hS, o2, hP2, ?_, by simp; omega, ?_, ?_⟩, hmu⟩
      · intro c hc
        rcases List.mem_append.1 hc with hc | hc
        · exact hmod c hc
        · rw [List.mem_singleton.1 hc]; show (y - 8) % 8 = 0; omega
      · show sumT P + 8 + (k + 7) / 8 * 8 = _
        rw [← sumT_perm hP2, hsm, htk2]
        omega
      · rw [e5, e6]
        show Ok e [slc 1 s2 _, slc 1 s3 _, _, _] _
        exact (h.emb (by repeat' (first | with_reducible exact Emb.same _ | exact Emb.nil _ | refine Emb.cons (by with_reducible first | exact sl0 | exact .there sl0 | exact .there sl1 | exact .there sl2 | exact .there sl3 | exact .there sl4 | exact .there sl5 | exact .there sl6 | exact .there sl7 | exact .there sl8 | exact .there sl9 | exact .there sl10 | exact .there sl11 | exact .there sl12) ?_ | refine Emb.skip ?_)))
  have hge : a1.len ≤ i := by have := of_decide_eq_false hge; dsimp only at this; omega
  dsimp only
  have hpm : (heldB q.L).Perm (heldB P) := hP.map _
  have hAl : (heldB P).length ≤ 40 := by unfold heldB; rw [List.length_map]; omega
  have hA2 : (heldB P).length ≤ a2.len := by unfold heldB; rw [List.length_map]; omega
  refine lp.mk (fun t w' => ∃ (A : List Int) (q : LP), q.S = [] ∧ LPo 16 a0 q ∧ (heldB q.L).Perm A ∧ A.length ≤ 40 ∧ A.length ≤ a2.len ∧ Ok e [slc 1 t.1 (ints A), mplP b false 16 a0 q, old e] w') (fun t _ => t.1.len) ⟨heldB P, q, hS, ho, hpm, hAl, hA2, (h.emb (by repeat' (first | with_reducible exact Emb.same _ | exact Emb.nil _ | refine Emb.cons (by with_reducible first | exact sl0 | exact .there sl0 | exact .there sl1 | exact .there sl2 | exact .there sl3 | exact .there sl4 | exact .there sl5 | exact .there sl6 | exact .there sl7 | exact .there sl8 | exact .there sl9 | exact .there sl10 | exact .there sl11 | exact .there sl12) ?_ | refine Emb.skip ?_)))⟩ ?_
  clear h ho hS hP hmod hpm hfb hsum0 hsa hsn hAl hA2
  rintro ⟨sa, _⟩ w4 ⟨A, q, hS, ho, hpm, hAl, hA2, h⟩
  dsimp only at h
  have hsa := slc_ints_len h
  refine cs.mk (fun hlt => ?_) (fun hge2 => ?_)
  · have hlt : 0 < sa.len := by have := of_decide_eq_true hlt; dsimp only at this; omega
    dsimp only
    have hw : w64 ((sa.len : Int) - 1) = ((sa.len - 1 : Nat) : Int) := by rw [w64_in (by omega) (by omega)]; omega
    rw [hw]
    refine ix_rd hr2 (Int.natCast_nonneg _) (by omega) fun c o x hx hcell => ldI.mk (hcell _ _ (Ok.emb (h) (.cons (A := old e) (by with_reducible first | exact sl0 | exact .there sl0 | exact .there sl1 | exact .there sl2 | exact .there sl3 | exact .there sl4 | exact .there sl5 | exact .there sl6 | exact .there sl7 | exact .there sl8 | exact .there sl9 | exact .there sl10 | exact .there sl11 | exact .there sl12) (.same _)))) ?_
    clear hcell
    have hxb := hb.u8 (List.mem_of_getElem? hx)
    refine ob.mk (by omega) ?_
    obtain ⟨k, hk, hkl⟩ : ∃ k : Nat, Int.tmod (w64 x) (sa.len : Int) = (k : Int) ∧ k < sa.len := by
      rw [w64_in (by omega) (by omega), Int.tmod_eq_emod_of_nonneg hxb.1]
      have h1 := Int.emod_nonneg x (show (sa.len : Int) ≠ 0 by omega)
      have h2 := Int.emod_lt_of_pos x (show (0 : Int) < (sa.len : Int) by omega)
      exact ⟨(x % (sa.len : Int)).toNat, by omega, by omega⟩
    rw [hk]
    refine ix_int h (Int.natCast_nonneg _) (by omega) fun c o y hy hcell => ldI.mk (hcell _ ⟨_, h⟩) ?_
    rw [Int.toNat_natCast] at hy
    clear hcell
    obtain ⟨q1, e1, hS1, hp1, e2⟩ := put_back ho hS (hpm.mem_iff.2 (List.mem_of_getElem? hy))
    refine call11 (Put_mpl (Ok.emb (h) (.cons (A := mplP b _ _ _ _) (by with_reducible first | exact sl0 | exact .there sl0 | exact .there sl1 | exact .there sl2 | exact .there sl3 | exact .there sl4 | exact .there sl5 | exact .there sl6 | exact .there sl7 | exact .there sl8 | exact .there sl9 | exact .there sl10 | exact .there sl11 | exact .there sl12) (.same _))) ho fun r1 w5 hr1 h => ⟨(r1, (0 : Int), ()), by rw [e1]; rfl, ?_⟩)
    have o1 := lput_ok (x := y) ho
    rw [e1] at h o1
    refine cs.no rfl ?_
    dsimp only at h o1 ⊢
    refine ix_int (Ok.emb (h) (.cons (A := slc 1 sa _) (by with_reducible first | exact sl0 | exact .there sl0 | exact .there sl1 | exact .there sl2 | exact .there sl3 | exact .there sl4 | exact .there sl5 | exact .there sl6 | exact .there sl7 | exact .there sl8 | exact .there sl9 | exact .there sl10 | exact .there sl11 | exact .there sl12) (.same _))) (Int.natCast_nonneg _) (by omega) fun c o y' hy' hcell => ldI.mk (hcell _ ⟨_, (Ok.emb (h) (.cons (A := slc 1 sa _) (by with_reducible first | exact sl0 | exact .there sl0 | exact .there sl1 | exact .there sl2 | exact .there sl3 | exact .there sl4 | exact .there sl5 | exact .there sl6 | exact .there sl7 | exact .there sl8 | exact .there sl9 | exact .there sl10 | exact .there sl11 | exact .there sl12) (.same _)))⟩) ?_
    rw [Int.toNat_natCast, hy] at hy'
    cases hy'
    clear hcell
    refine call11 (Put_mpl (Ok.emb (h) (.cons (A := mplP b _ _ _ _) (by with_reducible first | exact sl0 | exact .there sl0 | exact .there sl1 | exact .there sl2 | exact .there sl3 | exact .there sl4 | exact .there sl5 | exact .there sl6 | exact .there sl7 | exact .there sl8 | exact .there sl9 | exact .there sl10 | exact .there sl11 | exact .there sl12) (.same _))) o1 fun r2 w6 hr2 h => ⟨(r2, (-17 : Int), ()), by rw [e2]; rfl, ?_⟩)
    rw [e2] at h
    refine cs.no rfl ?_
    dsimp only at h ⊢
    refine dr.mk h fun w7 h => ?_
    rw [w64_in (x := (k : Int) + 1) (by omega) (by omega)]
    refine sb_sub (Ok.emb (h) (.cons (A := slc 1 sa _) (by with_reducible first | exact sl0 | exact .there sl0 | exact .there sl1 | exact .there sl2 | exact .there sl3 | exact .there sl4 | exact .there sl5 | exact .there sl6 | exact .there sl7 | exact .there sl8 | exact .there sl9 | exact .there sl10 | exact .there sl11 | exact .there sl12) (.same _))) (Int.le_refl _) (Int.natCast_nonneg _) (by omega) fun x1 hx1 => ?_
    refine sb_sub (Ok.emb (h) (.cons (A := slc 1 sa _) (by with_reducible first | exact sl0 | exact .there sl0 | exact .there sl1 | exact .there sl2 | exact .there sl3 | exact .there sl4 | exact .there sl5 | exact .there sl6 | exact .there sl7 | exact .there sl8 | exact .there sl9 | exact .there sl10 | exact .there sl11 | exact .there sl12) (.same _))) (by omega) (by omega) (Int.le_refl _) fun x2 hx2 => ?_
    refine al.mk h fun c1 w11 h => ?_
    have h := h.slcNew (n := 0) (sz := 1) rfl (by simp)
    refine ef.appendSub slT_int (by decide) (Ok.emb (h) (.cons (A := slc 1 ⟨some ⟨c1, 0, none⟩, 0, 0⟩ _) (by with_reducible first | exact sl0 | exact .there sl0 | exact .there sl1 | exact .there sl2 | exact .there sl3 | exact .there sl4 | exact .there sl5 | exact .there sl6 | exact .there sl7 | exact .there sl8 | exact .there sl9 | exact .there sl10 | exact .there sl11 | exact .there sl12) (.cons (A := slc 1 sa _) (by with_reducible first | exact sl0 | exact .there sl0 | exact .there sl1 | exact .there sl2 | exact .there sl3 | exact .there sl4 | exact .there sl5 | exact .there sl6 | exact .there sl7 | exact .there sl8 | exact .there sl9 | exact .there sl10 | exact .there sl11 | exact .there sl12) (.same _)))) hx1 (by omega) (by simp only; omega) fun s3 w12 hl3 h => ?_
    refine ef.appendSub slT_int (by decide) (Ok.emb (h) (.cons (A := slc 1 s3 _) (by with_reducible first | exact sl0 | exact .there sl0 | exact .there sl1 | exact .there sl2 | exact .there sl3 | exact .there sl4 | exact .there sl5 | exact .there sl6 | exact .there sl7 | exact .there sl8 | exact .there sl9 | exact .there sl10 | exact .there sl11 | exact .there sl12) (.cons (A := slc 1 sa _) (by with_reducible first | exact sl0 | exact .there sl0 | exact .there sl1 | exact .there sl2 | exact .there sl3 | exact .there sl4 | exact .there sl5 | exact .there sl6 | exact .there sl7 | exact .there sl8 | exact .there sl9 | exact .there sl10 | exact .there sl11 | exact .there sl12) (.same _)))) hx2 (by omega) (by dsimp only at hl3 ⊢; omega) fun s4 w13 hl4 h => ?_
    have e3 : List.drop (Int.toNat 0 * 1) (List.take (Int.toNat (k : Int) * 1) (ints A)) = ints (A.take k) := by simp [ints, List.map_take]
    have e4 : List.drop (Int.toNat ((k : Int) + 1) * 1) (List.take (Int.toNat (sa.len : Int) * 1) (ints A)) = ints (A.drop (k + 1)) := by
      rw [Int.toNat_natCast, show ((k : Int) + 1).toNat = k + 1 by omega, Nat.mul_one, Nat.mul_one, List.take_of_length_le (by rw [ints_len]; omega)]
      simp [ints, List.map_drop]
    rw [e3, e4, List.nil_append, ← List.map_append] at h
    have htp := take_perm hy
    have hpl := htp.length_eq
    rw [List.length_cons] at hpl
    refine ⟨⟨A.take k ++ A.drop (k + 1), q1, hS1, o1, (hp1.symm.trans (hpm.trans htp)).cons_inv, by omega, by omega, (h.emb (by repeat' (first | with_reducible exact Emb.same _ | exact Emb.nil _ | refine Emb.cons (by with_reducible first | exact sl0 | exact .there sl0 | exact .there sl1 | exact .there sl2 | exact .there sl3 | exact .there sl4 | exact .there sl5 | exact .there sl6 | exact .there sl7 | exact .there sl8 | exact .there sl9 | exact .there sl10 | exact .there sl11 | exact .there sl12) ?_ | refine Emb.skip ?_)))⟩, ?_⟩
    have hs4 := slc_ints_len (Ok.emb (h) (.cons (A := slc 1 s4 _) (by with_reducible first | exact sl0 | exact .there sl0 | exact .there sl1 | exact .there sl2 | exact .there sl3 | exact .there sl4 | exact .there sl5 | exact .there sl6 | exact .there sl7 | exact .there sl8 | exact .there sl9 | exact .there sl10 | exact .there sl11 | exact .there sl12) (.same _)))
    show s4.len < sa.len
    omega
  have hge2 : sa.len = 0 := by have := of_decide_eq_false hge2; dsimp only at this; omega
  have hL : q.L = [] := by
    have h5 := hpm.length_eq
    unfold heldB at h5
    rw [List.length_map] at h5
    exact List.eq_nil_of_length_eq_zero (by omega)
  refine call10 (Free_mpl (Ok.emb (h) (.cons (A := mplP b _ _ _ _) (by with_reducible first | exact sl0 | exact .there sl0 | exact .there sl1 | exact .there sl2 | exact .there sl3 | exact .there sl4 | exact .there sl5 | exact .there sl6 | exact .there sl7 | exact .there sl8 | exact .there sl9 | exact .there sl10 | exact .there sl11 | exact .there sl12) (.same _))) ho fun w11 h => ⟨((a0 : Int), (a0 - 8 : Int), ()), ?_, ?_⟩)
  · rw [hL]
    have e5 : freeF 16 (16 + a0) [] (([] : List (Int × Int)).length + 1) = (a0, a0 - 8) := by
      show (0 + (16 + a0 - 16), if 16 + a0 - 16 - 8 > 0 then 16 + a0 - 16 - 8 else 0) = _
      split
      · rw [show (0 : Int) + (16 + a0 - 16) = a0 by omega, show 16 + a0 - 16 - 8 = a0 - 8 by omega]
      · rw [show (0 : Int) + (16 + a0 - 16) = a0 by omega, show a0 - 8 = 0 by omega]
    rw [e5]
    rfl
  dsimp only
  refine jn.bool (true) (fun J hJ => ?_) ?_
  · refine cs.yes (by simp) ?_
    rw [w64_in (x := a0 - 8) (by omega) (by omega), beq_self_eq_true]
    exact hJ
  refine jn.at (true, ()) (fun w' => Ok e [old e] w') (fun J hJ => cs.yes rfl ?_) (fun w12 h => ⟨rfl, h⟩)
  refine call12 (Held_mpl (Ok.emb (h) (.cons (A := mplP b _ _ _ _) (by with_reducible first | exact sl0 | exact .there sl0 | exact .there sl1 | exact .there sl2 | exact .there sl3 | exact .there sl4 | exact .there sl5 | exact .there sl6 | exact .there sl7 | exact .there sl8 | exact .there sl9 | exact .there sl10 | exact .there sl11 | exact .there sl12) (.same _))) ho fun r w12 hr h => ⟨(r, ()), rfl, ?_⟩)
  have hr : r.len = 0 := by rw [hr, hL]; rfl
  dsimp only
  rw [hr]
  exact hJ _ (h.emb (by repeat' (first | with_reducible exact Emb.same _ | exact Emb.nil _ | refine Emb.cons (by with_reducible first | exact sl0 | exact .there sl0 | exact .there sl1 | exact .there sl2 | exact .there sl3 | exact .there sl4 | exact .there sl5 | exact .there sl6 | exact .there sl7 | exact .there sl8 | exact .there sl9 | exact .there sl10 | exact .there sl11 | exact .there sl12) ?_ | refine Emb.skip ?_)))

end Go.Proofs.Ytnghegppcogdbaa.B
