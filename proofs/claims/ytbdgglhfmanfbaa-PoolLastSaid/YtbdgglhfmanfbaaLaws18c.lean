/- Laws of layer 18: blocks that are had lie apart; the last one given back is had first. -/
import Derived.Test.YtbdgglhfmanfbaaLaws18b
namespace Go.Proofs.Ytbdgglhfmanfbaa.B
open Go
set_option linter.unusedVariables false

theorem poll_some {a n z : Int} {q : MP} (ho : MPo a n z q) (h : (q.held.length : Int) < n) : ∃ x, (q.poll a n z).1 = (x, true) ∧ x ∉ q.held ∧ (q.poll a n z).2.S = q.S ∧ (q.poll a n z).2.held = insU q.held x ∧ ∃ k : Nat, (k : Int) < n ∧ x = a + k * stp z := by
  have hlen := ho.len
  have hhad := ho.had
  unfold MP.poll
  cases hb : q.back.getLast? with
  | some x =>
    have hl := last_app hb
    have hx : x ∈ q.back := by rw [hl]; simp
    obtain ⟨-, -, k, hk, he⟩ := ho.bd (List.mem_append_left _ hx)
    exact ⟨x, rfl, fun hm => (List.nodup_append.1 ho.nodup).2.2 x hx x hm rfl, rfl, rfl, k, by omega, he⟩
  | none =>
    have hb0 : q.back = [] := List.getLast?_eq_none_iff.1 hb
    rw [hb0, List.length_nil] at hlen
    have hlt : q.had < n := by omega
    dsimp only
    rw [if_pos hlt]
    refine ⟨_, rfl, fun hm => ho.new (List.mem_append_right _ hm), rfl, rfl, q.had.toNat, by omega, ?_⟩
    rw [Int.toNat_of_nonneg hhad.1]

theorem poll_none {a n z : Int} {q : MP} (ho : MPo a n z q) (h : (q.held.length : Int) = n) : q.poll a n z = ((0, false), q) := by
  have hlen := ho.len
  have hhad := ho.had
  have hb0 : q.back = [] := List.eq_nil_of_length_eq_zero (by omega)
  unfold MP.poll
  rw [hb0]
  simp only [List.getLast?_nil]
  rw [if_neg (by omega)]

theorem put_mem {q : MP} {x : Int} (hS : q.S = []) (hm : x ∈ q.held) : q.put x = ((0, 0), ⟨[], q.had, q.back ++ [x], delU q.held x⟩) := by
  obtain ⟨S, had, back, held⟩ := q
  dsimp only at hS hm
  subst hS
  unfold MP.put
  simp only [if_pos hm]

theorem take_perm {l : List Int} {k : Nat} {x : Int} (h : l[k]? = some x) : l.Perm (x :: (l.take k ++ l.drop (k + 1))) := by
  obtain ⟨hk, he⟩ := List.getElem?_eq_some_iff.1 h
  have h1 : l = l.take k ++ x :: l.drop (k + 1) := by
    conv => lhs; rw [← List.take_append_drop k l, List.drop_eq_getElem_cons hk, he]
  exact (List.Perm.of_eq h1).trans List.perm_middle

set_option maxHeartbeats 2000000 in
theorem PoolApart_walk {e : World} {a n z : Int} (w0 : (Lit.int .i64 a).wf = true) (w1 : (Lit.int .i64 n).wf = true) (w2 : (Lit.int .i64 z).wf = true) : sh3 a n z (LawEnd e) e := by
  unfold sh3
  refine call8 (known_18 (Ok.start e) fun w1 h => ⟨(true, ()), enc_b rfl, ?_⟩)
  refine cs.no rfl ?_
  refine jn.bool (decide (¬ (0 ≤ a ∧ a ≤ 1000))) (fun J hJ => ?_) ?_
  · refine cs.mk (fun h1 => ?_) (fun h1 => ?_)
    · have h1 := of_decide_eq_true h1
      rw [decide_eq_true (by omega)] at hJ
      exact hJ
    · have h1 := of_decide_eq_false h1
      rw [show decide (¬ (0 ≤ a ∧ a ≤ 1000)) = decide (a > 1000) from decide_eq_decide.2 (by omega)] at hJ
      exact hJ
  refine jn.bool (decide (¬ (0 ≤ a ∧ a ≤ 1000 ∧ a % 4 = 0))) (fun J hJ => ?_) ?_
  · refine cs.mk (fun h1 => ?_) (fun h1 => ?_)
    · have h1 := of_decide_eq_true h1
      rw [decide_eq_true (by omega)] at hJ
      exact hJ
    · have h1 := of_decide_eq_false h1
      rw [show decide (¬ (0 ≤ a ∧ a ≤ 1000 ∧ a % 4 = 0)) = (Int.tmod a 4 != 0) by
        rw [Int.tmod_eq_emod_of_nonneg (by omega), Bool.eq_iff_iff, decide_eq_true_iff, bne_iff_ne]; omega] at hJ
      exact hJ
  refine jn.bool (decide (¬ (0 ≤ a ∧ a ≤ 1000 ∧ a % 4 = 0 ∧ 1 ≤ n))) (fun J hJ => ?_) ?_
  · refine cs.mk (fun h1 => ?_) (fun h1 => ?_)
    · have h1 := of_decide_eq_true h1
      rw [decide_eq_true (by omega)] at hJ
      exact hJ
    · have h1 := of_decide_eq_false h1
      rw [show decide (¬ (0 ≤ a ∧ a ≤ 1000 ∧ a % 4 = 0 ∧ 1 ≤ n)) = decide (n < 1) from decide_eq_decide.2 (by omega)] at hJ
      exact hJ
  refine jn.bool (decide (¬ (0 ≤ a ∧ a ≤ 1000 ∧ a % 4 = 0 ∧ 1 ≤ n ∧ n ≤ 100))) (fun J hJ => ?_) ?_
  · refine cs.mk (fun h1 => ?_) (fun h1 => ?_)
    · have h1 := of_decide_eq_true h1
      rw [decide_eq_true (by omega)] at hJ
      exact hJ
    · have h1 := of_decide_eq_false h1
      rw [show decide (¬ (0 ≤ a ∧ a ≤ 1000 ∧ a % 4 = 0 ∧ 1 ≤ n ∧ n ≤ 100)) = decide (n > 100) from decide_eq_decide.2 (by omega)] at hJ
      exact hJ
  refine jn.bool (decide (¬ (0 ≤ a ∧ a ≤ 1000 ∧ a % 4 = 0 ∧ 1 ≤ n ∧ n ≤ 100 ∧ 1 ≤ z))) (fun J hJ => ?_) ?_
  · refine cs.mk (fun h1 => ?_) (fun h1 => ?_)
    · have h1 := of_decide_eq_true h1
      rw [decide_eq_true (by omega)] at hJ
      exact hJ
    · have h1 := of_decide_eq_false h1
      rw [show decide (¬ (0 ≤ a ∧ a ≤ 1000 ∧ a % 4 = 0 ∧ 1 ≤ n ∧ n ≤ 100 ∧ 1 ≤ z)) = decide (z < 1) from decide_eq_decide.2 (by omega)] at hJ
      exact hJ
  refine jn.bool (decide (¬ (0 ≤ a ∧ a ≤ 1000 ∧ a % 4 = 0 ∧ 1 ≤ n ∧ n ≤ 100 ∧ 1 ≤ z ∧ z ≤ 100))) (fun J hJ => ?_) ?_
  · refine cs.mk (fun h1 => ?_) (fun h1 => ?_)
    · have h1 := of_decide_eq_true h1
      rw [decide_eq_true (by omega)] at hJ
      exact hJ
    · have h1 := of_decide_eq_false h1
      rw [show decide (¬ (0 ≤ a ∧ a ≤ 1000 ∧ a % 4 = 0 ∧ 1 ≤ n ∧ n ≤ 100 ∧ 1 ≤ z ∧ z ≤ 100)) = decide (z > 100) from decide_eq_decide.2 (by omega)] at hJ
      exact hJ
  refine cs.mk (fun h1 => ⟨rfl, h⟩) (fun h1 => ?_)
  have hr := Decidable.not_not.1 (of_decide_eq_false h1)
  clear h1
  have hz : 1 ≤ z ∧ z ≤ 4096 := by omega
  have hst := stp_bd hz
  have hst4 : stp z % 4 = 0 := by unfold stp; omega
  have hst100 : stp z ≤ 100 := by unfold stp; omega
  have hmul : n * stp z ≤ 100 * 100 := Int.le_trans (Int.mul_le_mul_of_nonneg_right hr.2.2.2.2.1 (by omega)) (by omega)
  have hmul0 : 0 ≤ n * stp z := Int.mul_nonneg (by omega) (by omega)
  have hg : mpGood a n z := by unfold mpGood; omega
  obtain ⟨N, rfl⟩ : ∃ N : Nat, n = (N : Int) := ⟨n.toNat, by omega⟩
  refine call9 (NewPool_mpf h (fun w2 h h0 => absurd hg h0) fun _ b w2 h => ⟨(some ⟨b, 0, none⟩, (0 : Int), ()), rfl, ?_⟩)
  refine cs.no rfl ?_
  refine lp.mk (fun t w' => ∃ (m : Nat) (q : MP), t.1 = (m : Int) ∧ m ≤ 2 ∧ q.S = [] ∧ q.held = [] ∧ MPo a N z q ∧ Ok e [mpfP b false a N z q, old e] w') (fun t _ => 2 - t.1.toNat) ⟨0, mp0, rfl, by decide, rfl, rfl, mp0_ok hg, h⟩ ?_
  clear h
  rintro ⟨m', _⟩ w3 ⟨m, q, hm, hm1, hS, hH, ho, h⟩
  dsimp only at hm
  subst hm
  refine cs.mk (fun hlt => ?_) (fun hge => ⟨rfl, h.drop⟩)
  have hlt2 : m < 2 := by have := of_decide_eq_true hlt; dsimp only at this; omega
  clear hlt
  refine lp.mk (fun t w' => ∃ (i : Nat) (q : MP) (l : List Int), t.2.1 = (i : Int) ∧ i ≤ N ∧ q.S = [] ∧ MPo a N z q ∧ q.held.Perm l ∧ l.length = i ∧ Ok e [slc 1 t.1 (ints l), mpfP b false a N z q, old e] w') (fun t _ => N - t.2.1.toNat)
    ⟨0, q, [], rfl, Nat.zero_le _, hS, ho, by rw [hH], rfl, h.slcNil 1⟩ ?_
  clear h ho hS hH q
  rintro ⟨s, i', _⟩ w4 ⟨i, q, l, hi, hi1, hS, ho, hp, hl, h⟩
  dsimp only at hi h
  subst hi
  have hsl := slc_ints_len h
  have hhl := hp.length_eq
  refine cs.mk (fun hlt => ?_) (fun hge => ?_)
  · have hlt : i < N := by have := of_decide_eq_true hlt; dsimp only at this; omega
    have hw : w64 ((i : Int) + 1) = ((i + 1 : Nat) : Int) := by rw [w64_in (by omega) (by omega)]; rfl
    obtain ⟨x, e1, hno, eS, eH, k, hk, hx⟩ := poll_some ho (by omega)
    have hkm := mul_lt_stp hz (i := k) (j := N) hk
    have hk0 := Int.mul_nonneg (show (0 : Int) ≤ (k : Int) by omega) (show 0 ≤ stp z by omega)
    refine call10 (Poll_mpf (Ok.emb (h) (.cons (A := mpfP b _ _ _ _ _) (by with_reducible first | exact sl0 | exact .there sl0 | exact .there sl1 | exact .there sl2 | exact .there sl3 | exact .there sl4 | exact .there sl5 | exact .there sl6 | exact .there sl7 | exact .there sl8 | exact .there sl9 | exact .there sl10 | exact .there sl11 | exact .there sl12) (.same _))) ho fun w5 h => ⟨(x, true, ()), by rw [e1]; rfl, ?_⟩)
    dsimp only
    rw [hw]
    refine jn.bool (false) (fun J hJ => ?_) ?_
    · refine cs.no rfl ?_
      rw [show (Int.tmod x 4 != 0) = false by
        rw [Int.tmod_eq_emod_of_nonneg (by omega), bne_eq_false_iff_eq, hx, Int.add_emod, Int.mul_emod, hst4, hr.2.2.1]; simp]
      exact hJ
    refine jn.bool (false) (fun J hJ => ?_) ?_
    · refine cs.no rfl ?_
      rw [decide_eq_false (show ¬ x < a by omega)]
      exact hJ
    refine jn.bool (false) (fun J hJ => ?_) ?_
    · refine cs.no rfl ?_
      rw [Int.tdiv_eq_ediv_of_nonneg (by rw [w64_in (by omega) (by omega)]; omega), w64_in (x := z + 3) (by omega) (by omega), w64_in (x := (z + 3) / 4) (by omega) (by omega), w64_in (x := (z + 3) / 4 * 4) (by omega) (by omega)]
      show J (decide (w64 (x + z) > w64 (a + w64 ((N : Int) * stp z))), ()) _
      rw [w64_in (x := (N : Int) * stp z) (by omega) (by omega), w64_in (x := a + (N : Int) * stp z) (by omega) (by omega), w64_in (x := x + z) (by omega) (by omega), decide_eq_false (by omega)]
      exact hJ
    refine cs.no rfl ?_
    refine lp.mk (fun t w' => ∃ j : Nat, t.1 = (j : Int) ∧ j ≤ i ∧ Ok e [slc 1 s (ints l), mpfP b false a N z (q.poll a N z).2, old e] w') (fun t _ => i - t.1.toNat) ⟨0, rfl, Nat.zero_le _, (h.emb (by repeat' (first | with_reducible exact Emb.same _ | exact Emb.nil _ | refine Emb.cons (by with_reducible first | exact sl0 | exact .there sl0 | exact .there sl1 | exact .there sl2 | exact .there sl3 | exact .there sl4 | exact .there sl5 | exact .there sl6 | exact .there sl7 | exact .there sl8 | exact .there sl9 | exact .there sl10 | exact .there sl11 | exact .there sl12) ?_ | refine Emb.skip ?_)))⟩ ?_
    clear h
    rintro ⟨j', _⟩ w6 ⟨j, hj, hj1, h⟩
    dsimp only at hj
    subst hj
    refine cs.mk (fun hlt2 => ?_) (fun hge2 => ?_)
    · have hlt2 : j < i := by have := of_decide_eq_true hlt2; dsimp only at this; omega
      have hw2 : w64 ((j : Int) + 1) = ((j + 1 : Nat) : Int) := by rw [w64_in (by omega) (by omega)]; rfl
      refine ix_int h (Int.natCast_nonneg _) (by show (j : Int) < (s.len : Int); omega) fun c o y hy hcell => ldI.mk (hcell _ ⟨_, h⟩) ?_
      rw [Int.toNat_natCast] at hy
      clear hcell
      have hym : y ∈ q.held := hp.mem_iff.2 (List.mem_of_getElem? hy)
      obtain ⟨-, -, k2, hk2, hy2⟩ := ho.bd (List.mem_append_right _ hym)
      have hne : y ≠ x := fun he => hno (he ▸ hym)
      have hyb := ho.bd (List.mem_append_right _ hym)
      have hap : ¬ (x < y + z ∧ y < x + z) := by
        rcases Nat.lt_trichotomy k k2 with h5 | h5 | h5
        · have := mul_lt_stp hz (i := k) (j := k2) (by omega); omega
        · subst h5; omega
        · have := mul_lt_stp hz (i := k2) (j := k) (by omega); omega
      dsimp only
      refine jn.bool (false) (fun J hJ => ?_) ?_
      · refine cs.mk (fun h1 => ?_) (fun h1 => hJ)
        rw [w64_in (x := y + z) (by omega) (by omega)] at h1
        have h1 := of_decide_eq_true h1
        refine ix_int h (Int.natCast_nonneg _) (by show (j : Int) < (s.len : Int); omega) fun c o y' hy' hcell => ldI.mk (hcell _ ⟨_, h⟩) ?_
        rw [Int.toNat_natCast, hy] at hy'
        cases hy'
        rw [w64_in (x := x + z) (by omega) (by omega), decide_eq_false (by omega)]
        exact hJ
      refine cs.no rfl ?_
      rw [hw2]
      refine ⟨⟨j + 1, rfl, hlt2, h⟩, ?_⟩
      show i - Int.toNat ((j + 1 : Nat) : Int) < i - Int.toNat (j : Int)
      omega
    refine al.mk h fun c w7 h => ?_
    refine ef.append1 (n := 1) slT_int (by decide) (Ok.emb (h) (.cons (A := pts c _) (by with_reducible first | exact sl0 | exact .there sl0 | exact .there sl1 | exact .there sl2 | exact .there sl3 | exact .there sl4 | exact .there sl5 | exact .there sl6 | exact .there sl7 | exact .there sl8 | exact .there sl9 | exact .there sl10 | exact .there sl11 | exact .there sl12) (.cons (A := slc 1 s _) (by with_reducible first | exact sl0 | exact .there sl0 | exact .there sl1 | exact .there sl2 | exact .there sl3 | exact .there sl4 | exact .there sl5 | exact .there sl6 | exact .there sl7 | exact .there sl8 | exact .there sl9 | exact .there sl10 | exact .there sl11 | exact .there sl12) (.same _)))) rfl (by intro v hv; simp at hv; subst hv; rfl) (by omega) fun s2 w8 hl2 h => ?_
    rw [ints_snoc] at h
    dsimp only
    refine ⟨⟨i + 1, (q.poll a N z).2, l ++ [x], rfl, hlt, eS.trans hS, poll_ok ho, ?_, by simp [hl], h⟩, ?_⟩
    · rw [eH]
      exact (insU_perm q.held x).trans ((hp.cons x).trans (List.perm_append_singleton ..).symm)
    · show N - Int.toNat ((i + 1 : Nat) : Int) < N - Int.toNat (i : Int)
      omega
  have hge : N ≤ i := by have := of_decide_eq_false hge; dsimp only at this; omega
  obtain rfl : i = N := by omega
  have e1 := poll_none ho (by omega)
  refine call10 (Poll_mpf (Ok.emb (h) (.cons (A := mpfP b _ _ _ _ _) (by with_reducible first | exact sl0 | exact .there sl0 | exact .there sl1 | exact .there sl2 | exact .there sl3 | exact .there sl4 | exact .there sl5 | exact .there sl6 | exact .there sl7 | exact .there sl8 | exact .there sl9 | exact .there sl10 | exact .there sl11 | exact .there sl12) (.same _))) ho fun w5 h => ⟨((0 : Int), false, ()), by rw [e1]; rfl, ?_⟩)
  rw [e1] at h
  dsimp only at h ⊢
  refine jn.at (false, ()) (fun w' => Ok e [slc 1 s (ints l), mpfP b false a i z q, old e] w') (fun J hJ => cs.no rfl ?_) (fun w6 h => ?_)
  · refine call11 (Free_mpf h ho fun w7 h => ⟨((i : Int) - (q.held.length : Int), ()), rfl, ?_⟩)
    dsimp only
    rw [show ((i : Int) - (q.held.length : Int) != 0) = false by rw [bne_eq_false_iff_eq]; omega]
    exact hJ _ (h.emb (by repeat' (first | with_reducible exact Emb.same _ | exact Emb.nil _ | refine Emb.cons (by with_reducible first | exact sl0 | exact .there sl0 | exact .there sl1 | exact .there sl2 | exact .there sl3 | exact .there sl4 | exact .there sl5 | exact .there sl6 | exact .there sl7 | exact .there sl8 | exact .there sl9 | exact .there sl10 | exact .there sl11 | exact .there sl12) ?_ | refine Emb.skip ?_)))
  refine cs.no rfl ?_
  refine lp.mk (fun t w' => ∃ (j : Nat) (q : MP), t.1 = (j : Int) ∧ j ≤ i ∧ q.S = [] ∧ MPo a i z q ∧ q.held.Perm (l.drop j) ∧ Ok e [slc 1 s (ints l), mpfP b false a i z q, old e] w') (fun t _ => i - t.1.toNat) ⟨0, q, rfl, Nat.zero_le _, hS, ho, hp, h⟩ ?_
  clear h hp ho hS hhl e1
  rintro ⟨j', _⟩ w6 ⟨j, q, hj, hj1, hS, ho, hp, h⟩
  dsimp only at hj
  subst hj
  refine cs.mk (fun hlt3 => ?_) (fun hge3 => ?_)
  · have hlt3 : j < i := by have := of_decide_eq_true hlt3; dsimp only at this; omega
    have hw2 : w64 ((j : Int) + 1) = ((j + 1 : Nat) : Int) := by rw [w64_in (by omega) (by omega)]; rfl
    refine ix_int h (Int.natCast_nonneg _) (by show (j : Int) < (s.len : Int); omega) fun c o y hy hcell => ldI.mk (hcell _ ⟨_, h⟩) ?_
    rw [Int.toNat_natCast] at hy
    clear hcell
    have hdr : l.drop j = y :: l.drop (j + 1) := by
      rw [List.drop_eq_getElem_cons (by omega), (List.getElem?_eq_some_iff.1 hy).2]
    rw [hdr] at hp
    have hym : y ∈ q.held := hp.mem_iff.2 (List.mem_cons_self ..)
    have e1 := put_mem hS hym
    refine call12 (Put_mpf (Ok.emb (h) (.cons (A := mpfP b _ _ _ _ _) (by with_reducible first | exact sl0 | exact .there sl0 | exact .there sl1 | exact .there sl2 | exact .there sl3 | exact .there sl4 | exact .there sl5 | exact .there sl6 | exact .there sl7 | exact .there sl8 | exact .there sl9 | exact .there sl10 | exact .there sl11 | exact .there sl12) (.same _))) ho fun w7 h => ⟨((0 : Int), (0 : Int), ()), by rw [e1]; rfl, ?_⟩)
    have o2 := put_ok (x := y) ho
    rw [e1] at h o2
    refine cs.no rfl ?_
    dsimp only at h o2 ⊢
    rw [hw2]
    refine ⟨⟨j + 1, _, rfl, hlt3, rfl, o2, ((delU_perm ho.up hym).symm.trans hp).cons_inv, (h.emb (by repeat' (first | with_reducible exact Emb.same _ | exact Emb.nil _ | refine Emb.cons (by with_reducible first | exact sl0 | exact .there sl0 | exact .there sl1 | exact .there sl2 | exact .there sl3 | exact .there sl4 | exact .there sl5 | exact .there sl6 | exact .there sl7 | exact .there sl8 | exact .there sl9 | exact .there sl10 | exact .there sl11 | exact .there sl12) ?_ | refine Emb.skip ?_)))⟩, ?_⟩
    show i - Int.toNat ((j + 1 : Nat) : Int) < i - Int.toNat (j : Int)
    omega
  have hge3 : i ≤ j := by have := of_decide_eq_false hge3; dsimp only at this; omega
  have hnil : q.held = [] := by
    have := hp.length_eq
    rw [List.length_drop] at this
    exact List.eq_nil_of_length_eq_zero (by omega)
  refine call11 (Free_mpf (Ok.emb (h) (.cons (A := mpfP b _ _ _ _ _) (by with_reducible first | exact sl0 | exact .there sl0 | exact .there sl1 | exact .there sl2 | exact .there sl3 | exact .there sl4 | exact .there sl5 | exact .there sl6 | exact .there sl7 | exact .there sl8 | exact .there sl9 | exact .there sl10 | exact .there sl11 | exact .there sl12) (.same _))) ho fun w7 h => ⟨((i : Int) - (q.held.length : Int), ()), rfl, ?_⟩)
  dsimp only
  refine jn.at (false, ()) (fun w' => Ok e [mpfP b false a i z q, old e] w') (fun J hJ => cs.no ?_ ?_) (fun w8 h => ?_)
  · rw [hnil, bne_eq_false_iff_eq]
    simp
  · refine call13 (Held_mpf h ho fun r w8 hr h => ⟨(r, ()), rfl, ?_⟩)
    rw [hnil] at hr
    have hr : r.len = 0 := hr
    dsimp only
    rw [hr]
    exact hJ _ (h.emb (by repeat' (first | with_reducible exact Emb.same _ | exact Emb.nil _ | refine Emb.cons (by with_reducible first | exact sl0 | exact .there sl0 | exact .there sl1 | exact .there sl2 | exact .there sl3 | exact .there sl4 | exact .there sl5 | exact .there sl6 | exact .there sl7 | exact .there sl8 | exact .there sl9 | exact .there sl10 | exact .there sl11 | exact .there sl12) ?_ | refine Emb.skip ?_)))
  refine cs.no rfl ?_
  have hw3 : w64 ((m : Int) + 1) = ((m + 1 : Nat) : Int) := by rw [w64_in (by omega) (by omega)]; rfl
  rw [hw3]
  refine ⟨⟨m + 1, q, rfl, hlt2, hS, hnil, ho, h⟩, ?_⟩
  show 2 - Int.toNat ((m + 1 : Nat) : Int) < 2 - Int.toNat (m : Int)
  omega

end Go.Proofs.Ytbdgglhfmanfbaa.B
