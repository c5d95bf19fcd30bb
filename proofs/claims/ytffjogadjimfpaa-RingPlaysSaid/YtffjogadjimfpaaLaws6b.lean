/- Laws of layer 6: whole messages, the play. -/
import Derived.Test.YtffjogadjimfpaaLaws6
namespace Go.Proofs.Ytffjogadjimfpaa.B
open Go
set_option linter.unusedVariables false

/-- a part of a whole slice -/
theorem sub_all {e w L s m} (h : Ok e (slc 1 s (by8 m) :: L) w) : SubOf s 1 0 s.len s := by
  refine ⟨by omega, fun h0 => ?_⟩
  obtain ⟨-, -, hcc, hcase⟩ := h.slcE
  rcases hcase with ⟨h0', h00, _⟩ | ⟨b', post, hb, _⟩
  · omega
  · exact ⟨b', hb, by rw [hb, Nat.zero_mul]⟩

set_option maxHeartbeats 2000000 in
theorem RingWhole_walk {e : World} {a0 : Sl} {a1 : Int} {xs : List Int} (ha : ArgI .u8 e a0 xs) (hw1 : (Lit.int .u8 a1).wf = true) : sh4 a0 a1 (LawEnd e) e := by
  unfold sh4
  obtain ⟨l, rfl, r⟩ := argI_b ha
  have hl := r.len
  have hb1 := wf_u8 hw1
  refine call7 (known_6 (Ok.start e) fun w1 h => ⟨(true, ()), enc_b rfl, ?_⟩)
  refine cs.no rfl ?_
  refine jn.g (a0.len ≤ 40) (fun J hJ => cs.mk (fun h1 => hJ true (fun h => by cases h)) (fun h1 => hJ _ fun h2 => ?_)) fun c1 hc1 => ?_
  · have := of_decide_eq_false h2; omega
  refine cs.mk (fun _ => ⟨rfl, h⟩) (fun h1 => ?_)
  have g1 := hc1 h1
  clear hc1 h1
  refine call8 (New_ring h (fun h0 => absurd (by decide) h0) fun _ b w2 h => ⟨(some ⟨b, 0, none⟩, (0 : Int), ()), rfl, ?_⟩)
  have h : Ok e (ringP b 320 [] :: [old e]) w2 := h
  have eT : w64 (Int.tmod a1 8) = a1 % 8 := by rw [Int.tmod_eq_emod_of_nonneg (by omega), w64_in (by omega) (by omega)]
  rw [eT]
  generalize hT : a1 % 8 = T
  have hTb : 0 ≤ T ∧ T ≤ 7 := by omega
  clear eT
  refine lp.mk (fun t w' => ∃ k : Nat, t.1 = (k : Int) ∧ (k : Int) ≤ T + 1 ∧ Ok e [ringP b 320 [], old e] w') (fun t _ => (T + 1).toNat - t.1.toNat) ⟨0, rfl, by omega, h⟩ ?_
  clear h
  rintro ⟨(k' : Int), _⟩ w3 ⟨k, hk, hk1, h⟩
  dsimp only at hk
  subst hk
  refine cs.mk (fun hlt => ?_) (fun hge => ?_)
  · have hlt : (k : Int) ≤ T := of_decide_eq_true hlt
    refine lp.mk (fun t w' => ∃ i : Nat, t.1 = (i : Int) ∧ i ≤ a0.len ∧ Ok e [ringP b 320 [], old e] w') (fun t _ => a0.len - t.1.toNat) ⟨0, rfl, Nat.zero_le _, h⟩ ?_
    clear h
    rintro ⟨(i' : Int), _⟩ w4 ⟨i, hi, hi1, h⟩
    dsimp only at hi
    subst hi
    refine cs.mk (fun hlt2 => ?_) (fun hge => ?_)
    · have hlt2 : i < a0.len := by have := of_decide_eq_true hlt2; dsimp only at this; omega
      refine ix_rdb r (Int.natCast_nonneg _) (by dsimp only; omega) fun b1 o1 y hy hcell => ldI.mk (hcell _ _ h.p1) ?_
      clear hcell
      have hyb := u8_lt y
      have e1 : w64 (y.toNat : Int) = (y.toNat : Int) := w64_in (by omega) (by omega)
      rw [e1]
      refine ef.makeB mkT_b h (by omega) (by omega) fun s w5 hs hsc hsa h => ?_
      rw [Int.toNat_natCast] at h hs
      refine lp.mk (fun t w' => ∃ (j : Nat) (m : List UInt8), t.1 = (j : Int) ∧ j ≤ s.len ∧ m.length = s.len ∧ Ok e [slc 1 s (by8 m), ringP b 320 [], old e] w') (fun t _ => s.len - t.1.toNat) ⟨0, _, rfl, Nat.zero_le _, by rw [List.length_replicate]; omega, h⟩ ?_
      clear h
      rintro ⟨(j' : Int), _⟩ w6 ⟨j, m, hj, hj1, hm, h⟩
      dsimp only at hj
      subst hj
      refine cs.mk (fun hlt3 => ?_) (fun hge => ?_)
      · have hlt3 : j < s.len := by have := of_decide_eq_true hlt3; dsimp only at this; omega
        refine st_sub h (sub_all h) (Nat.le_refl _) (by omega) (x := UInt8.ofNat (w64 (w64 ((i : Int) + (j : Int)) + (k : Int)) % 256).toNat) (by rw [v8, ← wrap_u8]) fun w7 h => ?_
        have hw : w64 ((j : Int) + 1) = ((j + 1 : Nat) : Int) := by rw [w64_in (by omega) (by omega)]; rfl
        dsimp only
        rw [hw]
        refine ⟨⟨j + 1, _, rfl, hlt3, ?_, h⟩, ?_⟩
        · rw [List.length_set]; exact hm
        · show s.len - Int.toNat ((j + 1 : Nat) : Int) < s.len - Int.toNat (j : Int)
          omega
      have hft : fitR 320 [] (m.length : Nat) = true := decide_eq_true (by rw [Int.toNat_natCast]; simp only [szR, List.map_nil, List.sum_nil]; unfold tk; omega)
      have hr := slc_rdB h
      refine call9 (Put_ring h.p1 hr (by omega) fun w7 h => ⟨(true, ()), by rw [hft]; rfl, ?_⟩)
      rw [hft, if_pos rfl, List.nil_append] at h
      refine cs.no rfl ?_
      refine call12 (Get_ring h (fun h0 => by cases h0) fun l2 M' he s2 w8 hs2 h => ⟨(s2, true, ()), rfl, ?_⟩)
      cases he
      refine jn.bool false (fun J hJ => cs.no rfl ?_) ?_
      · refine tx.mkS bsT h ?_
        refine tx.mkS bsT (Ok.emb (h) (.cons (A := slc 1 s _) (by with_reducible first | exact sl0 | exact .there sl0 | exact .there sl1 | exact .there sl2 | exact .there sl3 | exact .there sl4 | exact .there sl5 | exact .there sl6 | exact .there sl7 | exact .there sl8 | exact .there sl9 | exact .there sl10 | exact .there sl11 | exact .there sl12) (.same _))) ?_
        rw [str_eq]
        exact hJ
      have hw : w64 ((i : Int) + 1) = ((i + 1 : Nat) : Int) := by rw [w64_in (by omega) (by omega)]; rfl
      refine cs.no rfl ?_
      dsimp only
      rw [hw]
      refine ⟨⟨i + 1, rfl, hlt2, (h.emb (by repeat' (first | with_reducible exact Emb.same _ | exact Emb.nil _ | refine Emb.cons (by with_reducible first | exact sl0 | exact .there sl0 | exact .there sl1 | exact .there sl2 | exact .there sl3 | exact .there sl4 | exact .there sl5 | exact .there sl6 | exact .there sl7 | exact .there sl8 | exact .there sl9 | exact .there sl10 | exact .there sl11 | exact .there sl12) ?_ | refine Emb.skip ?_)))⟩, ?_⟩
      show a0.len - Int.toNat ((i + 1 : Nat) : Int) < a0.len - Int.toNat (i : Int)
      omega
    · have hw : w64 ((k : Int) + 1) = ((k + 1 : Nat) : Int) := by rw [w64_in (by omega) (by omega)]; rfl
      dsimp only
      rw [hw]
      refine ⟨⟨k + 1, rfl, by omega, h⟩, ?_⟩
      show (T + 1).toNat - Int.toNat ((k + 1 : Nat) : Int) < (T + 1).toNat - Int.toNat (k : Int)
      omega
  refine call10 (Len_ring h ⟨((0 : Int), ()), rfl, ?_⟩)
  refine jn.at (true, ()) (fun w' => Ok e [ringP b 320 [], old e] w') (fun J hJ => cs.yes rfl ?_) (fun w12 h => ⟨rfl, h.drop⟩)
  exact call11 (Free_ring h fun w13 h => ⟨((320 : Int), ()), rfl, hJ _ h⟩)

set_option maxHeartbeats 4000000 in
theorem RingPlays_walk {e : World} {a0 : Int} {a1 : Sl} {a2 : Int} {vs : List Value} (_ : (Lit.int .i64 a0).wf = true) (ha : ArgF [.i .i64, .s (.i .u8)] e a1 vs) (_ : (Lit.int .i64 a2).wf = true) : sh6 a0 a1 a2 (LawEnd e) e := by
  unfold sh6
  refine call7 (known_6 (Ok.start e) fun w1 h => ⟨(true, ()), enc_b rfl, ?_⟩)
  refine cs.no rfl ?_
  refine jn.g (a1.len ≤ 80) (fun J hJ => cs.mk (fun h1 => hJ true (fun h => by cases h)) (fun h1 => ?_)) fun c1 hc1 => ?_
  · have h1 := of_decide_eq_false h1
    refine jn.all (fun t w' => w' = w1) (fun J2 hJ2 => cs.mk (fun _ => hJ2 _ _ rfl) (fun _ => hJ2 _ _ rfl)) (fun t w' hw => ?_)
    subst hw
    exact hJ _ fun _ => by omega
  refine cs.mk (fun _ => ⟨rfl, h⟩) (fun h1 => ?_)
  have g1 := hc1 h1
  clear hc1 h1
  refine call8 (New_ring h (fun h0 w2 h => ⟨(none, (-17 : Int), ()), rfl, ?_⟩) fun h0 b w2 h => ⟨(some ⟨b, 0, none⟩, (0 : Int), ()), rfl, ?_⟩)
  · refine call13 (New_ref6 h (fun _ => ⟨(none, (-17 : Int), ()), rfl, ?_⟩) fun h1 => absurd h1 h0)
    refine jn.bool false (fun J hJ => cs.no rfl hJ) ?_
    exact cs.no rfl (cs.yes rfl ⟨rfl, h⟩)
  refine call13 (New_ref6 h (fun h1 => absurd h0 h1) fun _ u w3 h => ⟨(some ⟨u, 0, none⟩, (0 : Int), ()), rfl, ?_⟩)
  refine jn.bool false (fun J hJ => cs.no rfl hJ) ?_
  refine cs.no rfl (cs.no rfl ?_)
  obtain ⟨z, rfl⟩ := Int.eq_ofNat_of_zero_le h0.1
  rw [Int.toNat_natCast] at h
  let G : TK [kP] → World → Prop := fun t w' => ∃ b M, t.1 = some ⟨b, 0, none⟩ ∧ Ok e [ringP b z M, rr6P u z M, old e] w'
  refine lp.mk (fun t w' => ∃ b M, ∃ n : Nat, t.1 = some ⟨b, 0, none⟩ ∧ t.2.1 = (n : Int) ∧ n ≤ a1.len ∧ Ok e [ringP b z M, rr6P u z M, old e] w')
    (fun t _ => a1.len - t.2.1.toNat) ⟨b, [], 0, rfl, rfl, Nat.zero_le _, h.p1⟩ ?_
  clear h
  rintro ⟨t1, i, _⟩ w3 ⟨b, M, n, ht, hn, hn1, h⟩
  dsimp only at ht hn
  subst ht hn
  refine cs.mk (fun hlt => ?_) (fun hge => ⟨rfl, (h.emb (by repeat' (first | with_reducible exact Emb.same _ | exact Emb.nil _ | refine Emb.cons (by with_reducible first | exact sl0 | exact .there sl0 | exact .there sl1 | exact .there sl2 | exact .there sl3 | exact .there sl4 | exact .there sl5 | exact .there sl6 | exact .there sl7 | exact .there sl8 | exact .there sl9 | exact .there sl10 | exact .there sl11 | exact .there sl12) ?_ | refine Emb.skip ?_)))⟩)
  have hlt : n < a1.len := by have := of_decide_eq_true hlt; dsimp only at this; omega
  obtain ⟨_, hv0, kd, rfl, _⟩ := ha.2 n hlt 0 _ rfl
  obtain ⟨_, hv1, hf1⟩ := ha.2 n hlt 1 _ rfl
  obtain ⟨x, l, rfl, r⟩ := fk_b hf1
  have hxl := r.len
  refine ix_args ha.1 (by decide) (by simp) (by simpa using hlt) fun b1 o hh => ?_
  refine ldS.mk (hh 1 _ (by decide) (by simpa using hv1) _ ⟨_, h.p2⟩) ?_
  refine cs.mk (fun _ => ⟨rfl, (h.emb (by repeat' (first | with_reducible exact Emb.same _ | exact Emb.nil _ | refine Emb.cons (by with_reducible first | exact sl0 | exact .there sl0 | exact .there sl1 | exact .there sl2 | exact .there sl3 | exact .there sl4 | exact .there sl5 | exact .there sl6 | exact .there sl7 | exact .there sl8 | exact .there sl9 | exact .there sl10 | exact .there sl11 | exact .there sl12) ?_ | refine Emb.skip ?_)))⟩) (fun hbig => ?_)
  have hbig := of_decide_eq_false hbig
  clear hh
  refine ix_args ha.1 (by decide) (by simp) (by simpa using hlt) fun b1 o hh => ?_
  refine ldI.mk (hh 0 _ (by decide) (by simpa using hv0) _ ⟨_, h.p2⟩) ?_
  clear hh
  obtain ⟨f1, f2, f3⟩ := rg_facts h
  have hML := szR_len (L := M)
  refine jn.all G (fun J hJ => ?_) (fun t w' hw => ?_)
  · refine cs.mk (fun _ => ?_) (fun _ => ?_)
    · refine dr.mk h fun w4 h => ?_
      refine ix_args ha.1 (by decide) (by simp) (by simpa using hlt) fun b2 o2 hh2 => ?_
      refine ldS.mk (hh2 1 _ (by decide) (by simpa using hv1) _ ⟨_, h.p2⟩) ?_
      refine ix_args ha.1 (by decide) (by simp) (by simpa using hlt) fun b3 o3 hh3 => ?_
      refine ldS.mk (hh3 1 _ (by decide) (by simpa using hv1) _ ⟨_, h.p2⟩) ?_
      have h := (Ok.emb (h) (.cons (A := ringP b _ _) (by with_reducible first | exact sl0 | exact .there sl0 | exact .there sl1 | exact .there sl2 | exact .there sl3 | exact .there sl4 | exact .there sl5 | exact .there sl6 | exact .there sl7 | exact .there sl8 | exact .there sl9 | exact .there sl10 | exact .there sl11 | exact .there sl12) (.cons (A := old e) (by with_reducible first | exact sl0 | exact .there sl0 | exact .there sl1 | exact .there sl2 | exact .there sl3 | exact .there sl4 | exact .there sl5 | exact .there sl6 | exact .there sl7 | exact .there sl8 | exact .there sl9 | exact .there sl10 | exact .there sl11 | exact .there sl12) (.same _))))
      refine call9 (Put_ring h r (by omega) fun w5 h => ⟨(fitR z M (l.length : Nat), ()), rfl, hh3 1 _ (by decide) (by simpa using hv1) _ ⟨_, h.p1⟩, ?_⟩)
      have h := (Ok.emb (h) (.cons (A := rr6P u _ _) (by with_reducible first | exact sl0 | exact .there sl0 | exact .there sl1 | exact .there sl2 | exact .there sl3 | exact .there sl4 | exact .there sl5 | exact .there sl6 | exact .there sl7 | exact .there sl8 | exact .there sl9 | exact .there sl10 | exact .there sl11 | exact .there sl12) (.cons (A := old e) (by with_reducible first | exact sl0 | exact .there sl0 | exact .there sl1 | exact .there sl2 | exact .there sl3 | exact .there sl4 | exact .there sl5 | exact .there sl6 | exact .there sl7 | exact .there sl8 | exact .there sl9 | exact .there sl10 | exact .there sl11 | exact .there sl12) (.same _))))
      refine call14 (Put_ref6 h f2 f1 f3 r fun w6 h => ⟨(fitR z M (l.length : Nat), ()), rfl, ?_⟩)
      exact cs.no (by simp) (hJ _ _ ⟨b, _, rfl, (h.emb (by repeat' (first | with_reducible exact Emb.same _ | exact Emb.nil _ | refine Emb.cons (by with_reducible first | exact sl0 | exact .there sl0 | exact .there sl1 | exact .there sl2 | exact .there sl3 | exact .there sl4 | exact .there sl5 | exact .there sl6 | exact .there sl7 | exact .there sl8 | exact .there sl9 | exact .there sl10 | exact .there sl11 | exact .there sl12) ?_ | refine Emb.skip ?_)))⟩)
    refine jn.all G (fun J1 hJ1 => ?_) (fun t w' hw => hJ t w' hw)
    refine cs.mk (fun _ => ?_) (fun _ => ?_)
    · refine call12 (Get_ring h (fun hM w4 h => ⟨(⟨none, 0, 0⟩, false, ()), rfl, ?_⟩) fun l2 M' hM s w4 hs h => ⟨(s, true, ()), rfl, ?_⟩)
      · refine call15 (Get_ref6 (Ok.emb (h) (.cons (A := rr6P u _ _) (by with_reducible first | exact sl0 | exact .there sl0 | exact .there sl1 | exact .there sl2 | exact .there sl3 | exact .there sl4 | exact .there sl5 | exact .there sl6 | exact .there sl7 | exact .there sl8 | exact .there sl9 | exact .there sl10 | exact .there sl11 | exact .there sl12) (.same _))) (by omega) (fun _ w5 h => ⟨(⟨none, 0, 0⟩, false, ()), rfl, ?_⟩) fun l2 M' hM2 => by rw [hM] at hM2; cases hM2)
        refine tx.mk bsT h (RdB.nil rfl) ?_
        refine tx.mk bsT h (RdB.nil rfl) ?_
        refine jn.bool false (fun J2 hJ2 => cs.no (by simp) hJ2) ?_
        exact cs.no rfl (hJ1 _ _ ⟨b, M, rfl, (h.emb (by repeat' (first | with_reducible exact Emb.same _ | exact Emb.nil _ | refine Emb.cons (by with_reducible first | exact sl0 | exact .there sl0 | exact .there sl1 | exact .there sl2 | exact .there sl3 | exact .there sl4 | exact .there sl5 | exact .there sl6 | exact .there sl7 | exact .there sl8 | exact .there sl9 | exact .there sl10 | exact .there sl11 | exact .there sl12) ?_ | refine Emb.skip ?_)))⟩)
      · refine call15 (Get_ref6 (Ok.emb (h) (.cons (A := rr6P u _ _) (by with_reducible first | exact sl0 | exact .there sl0 | exact .there sl1 | exact .there sl2 | exact .there sl3 | exact .there sl4 | exact .there sl5 | exact .there sl6 | exact .there sl7 | exact .there sl8 | exact .there sl9 | exact .there sl10 | exact .there sl11 | exact .there sl12) (.same _))) (by omega) (fun hM2 => by rw [hM] at hM2; cases hM2) fun l3 M3 hM2 s3 w5 hs3 h => ⟨(s3, true, ()), rfl, ?_⟩)
        rw [hM] at hM2
        cases hM2
        refine tx.mkS bsT (Ok.emb (h) (.cons (A := slc 1 s _) (by with_reducible first | exact sl0 | exact .there sl0 | exact .there sl1 | exact .there sl2 | exact .there sl3 | exact .there sl4 | exact .there sl5 | exact .there sl6 | exact .there sl7 | exact .there sl8 | exact .there sl9 | exact .there sl10 | exact .there sl11 | exact .there sl12) (.same _))) ?_
        refine tx.mkR bsT h ?_
        refine jn.bool false (fun J2 hJ2 => cs.no (by simp) hJ2) ?_
        exact cs.no rfl (hJ1 _ _ ⟨b, M', rfl, (h.emb (by repeat' (first | with_reducible exact Emb.same _ | exact Emb.nil _ | refine Emb.cons (by with_reducible first | exact sl0 | exact .there sl0 | exact .there sl1 | exact .there sl2 | exact .there sl3 | exact .there sl4 | exact .there sl5 | exact .there sl6 | exact .there sl7 | exact .there sl8 | exact .there sl9 | exact .there sl10 | exact .there sl11 | exact .there sl12) ?_ | refine Emb.skip ?_)))⟩)
    refine jn.all G (fun J2 hJ2 => ?_) (fun t w' hw => hJ1 t w' hw)
    refine cs.mk (fun _ => ?_) (fun _ => hJ2 _ _ ⟨b, M, rfl, h⟩)
    refine call16 (Twin_ring h fun b2 w4 h => ⟨(some ⟨b2, 0, none⟩, ()), rfl, ?_⟩)
    refine cs.no rfl ?_
    refine lp.mk (fun t w' => ∃ (k : Nat) (M' : List (List UInt8)), t.1 = (k : Int) ∧ k ≤ 200 ∧ Ok e [ringP b z M', ringP b2 z M, rr6P u z M, old e] w') (fun t _ => 200 - t.1.toNat) ⟨0, M, rfl, Nat.zero_le _, (h.emb (by repeat' (first | with_reducible exact Emb.same _ | exact Emb.nil _ | refine Emb.cons (by with_reducible first | exact sl0 | exact .there sl0 | exact .there sl1 | exact .there sl2 | exact .there sl3 | exact .there sl4 | exact .there sl5 | exact .there sl6 | exact .there sl7 | exact .there sl8 | exact .there sl9 | exact .there sl10 | exact .there sl11 | exact .there sl12) ?_ | refine Emb.skip ?_)))⟩ ?_
    clear h
    rintro ⟨(k' : Int), _⟩ w5 ⟨k, M', hk, hk1, h⟩
    dsimp only at hk
    subst hk
    refine jn.bool (decide (k < 200 ∧ 0 < M'.length)) (fun J3 hJ3 => cs.mk (fun h1 => ?_) (fun h1 => ?_)) ?_
    · have h1 := of_decide_eq_true h1
      refine call10 (Len_ring h ⟨((M'.length : Int), ()), rfl, ?_⟩)
      dsimp only at h1
      rw [show decide (k < 200 ∧ 0 < M'.length) = decide ((M'.length : Int) > 0) from decide_eq_decide.2 (by omega)] at hJ3
      exact hJ3
    · have h1 := of_decide_eq_false h1
      dsimp only at h1
      rw [decide_eq_false (by omega)] at hJ3
      exact hJ3
    refine cs.mk (fun h1 => ?_) (fun h1 => hJ2 _ _ ⟨b2, M, rfl, (h.emb (by repeat' (first | with_reducible exact Emb.same _ | exact Emb.nil _ | refine Emb.cons (by with_reducible first | exact sl0 | exact .there sl0 | exact .there sl1 | exact .there sl2 | exact .there sl3 | exact .there sl4 | exact .there sl5 | exact .there sl6 | exact .there sl7 | exact .there sl8 | exact .there sl9 | exact .there sl10 | exact .there sl11 | exact .there sl12) ?_ | refine Emb.skip ?_)))⟩)
    have h1 : k < 200 ∧ 0 < M'.length := of_decide_eq_true h1
    refine call12 (Get_ring h (fun hM => by rw [hM] at h1; exact absurd h1.2 (by decide)) fun l2 M2 hM s w6 hs h => ⟨(s, true, ()), rfl, ?_⟩)
    have hw : w64 ((k : Int) + 1) = ((k + 1 : Nat) : Int) := by rw [w64_in (by omega) (by omega)]; rfl
    dsimp only
    rw [hw]
    refine ⟨⟨k + 1, M2, rfl, h1.1, h.drop⟩, ?_⟩
    show 200 - Int.toNat ((k + 1 : Nat) : Int) < 200 - Int.toNat (k : Int)
    omega
  · clear h f1 f2 f3 hML
    obtain ⟨b, M, ht, h⟩ := hw
    obtain ⟨t1, _⟩ := t
    dsimp only at ht
    subst ht
    obtain ⟨f1, f2, f3⟩ := rg_facts h
    refine dr.mk h fun w4 h => ?_
    refine jn.at (false, ()) (fun w' => Ok e [ringP b z M, rr6P u z M, old e] w') (fun J hJ => ?_) (fun w5 h => ?_)
    · obtain ⟨s, hsl, h⟩ := rr6E (Ok.emb (h) (.cons (A := rr6P u _ _) (by with_reducible first | exact sl0 | exact .there sl0 | exact .there sl1 | exact .there sl2 | exact .there sl3 | exact .there sl4 | exact .there sl5 | exact .there sl6 | exact .there sl7 | exact .there sl8 | exact .there sl9 | exact .there sl10 | exact .there sl11 | exact .there sl12) (.same _)))
      refine nn.mk (ldS.mk (by refine Ok.cellS h (by with_reducible first | exact sl0 | exact .there sl0 | exact .there sl1 | exact .there sl2 | exact .there sl3 | exact .there sl4 | exact .there sl5 | exact .there sl6 | exact .there sl7 | exact .there sl8 | exact .there sl9 | exact .there sl10 | exact .there sl11 | exact .there sl12) ?_; rfl) ?_)
      refine call10 (Len_ring (Ok.emb (h) (.cons (A := ringP b _ _) (by with_reducible first | exact sl0 | exact .there sl0 | exact .there sl1 | exact .there sl2 | exact .there sl3 | exact .there sl4 | exact .there sl5 | exact .there sl6 | exact .there sl7 | exact .there sl8 | exact .there sl9 | exact .there sl10 | exact .there sl11 | exact .there sl12) (.same _))) ⟨((M.length : Int), ()), rfl, (by refine Ok.cellS h (by with_reducible first | exact sl0 | exact .there sl0 | exact .there sl1 | exact .there sl2 | exact .there sl3 | exact .there sl4 | exact .there sl5 | exact .there sl6 | exact .there sl7 | exact .there sl8 | exact .there sl9 | exact .there sl10 | exact .there sl11 | exact .there sl12) ?_; rfl), ?_⟩)
      have h := rr6I (s := s) h
      refine cs.no (by rw [hsl]; exact bne_self_eq_false _) ?_
      refine call11 (Free_ring (Ok.emb (h) (.cons (A := ringP b _ _) (by with_reducible first | exact sl0 | exact .there sl0 | exact .there sl1 | exact .there sl2 | exact .there sl3 | exact .there sl4 | exact .there sl5 | exact .there sl6 | exact .there sl7 | exact .there sl8 | exact .there sl9 | exact .there sl10 | exact .there sl11 | exact .there sl12) (.same _))) fun w5 h => ⟨(((z : Int) - (szR M : Int) : Int), ()), rfl, ?_⟩)
      refine call17 (Free_ref6 (Ok.emb (h) (.cons (A := rr6P u _ _) (by with_reducible first | exact sl0 | exact .there sl0 | exact .there sl1 | exact .there sl2 | exact .there sl3 | exact .there sl4 | exact .there sl5 | exact .there sl6 | exact .there sl7 | exact .there sl8 | exact .there sl9 | exact .there sl10 | exact .there sl11 | exact .there sl12) (.same _))) f2 f1 f3 fun w6 h => ⟨(((z : Int) - (szR M : Int) : Int), ()), rfl, ?_⟩)
      refine cs.no (by simp) ?_
      refine call18 (Fits_ring (Ok.emb (h) (.cons (A := ringP b _ _) (by with_reducible first | exact sl0 | exact .there sl0 | exact .there sl1 | exact .there sl2 | exact .there sl3 | exact .there sl4 | exact .there sl5 | exact .there sl6 | exact .there sl7 | exact .there sl8 | exact .there sl9 | exact .there sl10 | exact .there sl11 | exact .there sl12) (.same _))) fun w7 h => ⟨(fitR z M a2, ()), rfl, ?_⟩)
      refine call19 (Fits_ref6 (Ok.emb (h) (.cons (A := rr6P u _ _) (by with_reducible first | exact sl0 | exact .there sl0 | exact .there sl1 | exact .there sl2 | exact .there sl3 | exact .there sl4 | exact .there sl5 | exact .there sl6 | exact .there sl7 | exact .there sl8 | exact .there sl9 | exact .there sl10 | exact .there sl11 | exact .there sl12) (.same _))) f2 f1 f3 fun w8 h => ⟨(fitR z M a2, ()), rfl, ?_⟩)
      refine cs.no (by simp) ?_
      refine Size_ring (Ok.emb (h) (.cons (A := ringP b _ _) (by with_reducible first | exact sl0 | exact .there sl0 | exact .there sl1 | exact .there sl2 | exact .there sl3 | exact .there sl4 | exact .there sl5 | exact .there sl6 | exact .there sl7 | exact .there sl8 | exact .there sl9 | exact .there sl10 | exact .there sl11 | exact .there sl12) (.same _))) fun w9 h => ?_
      dsimp only
      rw [bne_self_eq_false]
      exact hJ _ (h.emb (by repeat' (first | with_reducible exact Emb.same _ | exact Emb.nil _ | refine Emb.cons (by with_reducible first | exact sl0 | exact .there sl0 | exact .there sl1 | exact .there sl2 | exact .there sl3 | exact .there sl4 | exact .there sl5 | exact .there sl6 | exact .there sl7 | exact .there sl8 | exact .there sl9 | exact .there sl10 | exact .there sl11 | exact .there sl12) ?_ | refine Emb.skip ?_)))
    refine cs.no rfl ?_
    have hw : w64 ((n : Int) + 1) = ((n + 1 : Nat) : Int) := by rw [w64_in (by omega) (by omega)]; rfl
    dsimp only
    rw [hw]
    refine ⟨⟨b, M, n + 1, rfl, rfl, hlt, h⟩, ?_⟩
    show a1.len - Int.toNat ((n + 1 : Nat) : Int) < a1.len - Int.toNat (n : Int)
    omega

end Go.Proofs.Ytffjogadjimfpaa.B
