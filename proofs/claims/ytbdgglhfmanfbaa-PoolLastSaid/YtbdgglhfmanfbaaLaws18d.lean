/- A law of layer 18: the block that was given back last is had first. -/
import Derived.Test.YtbdgglhfmanfbaaLaws18c
namespace Go.Proofs.Ytbdgglhfmanfbaa.B
open Go
set_option linter.unusedVariables false

theorem poll_back {a n z : Int} {q : MP} {l : List Int} {x : Int} (h : q.back = l ++ [x]) : q.poll a n z = ((x, true), ⟨q.S, q.had, l, insU q.held x⟩) := by
  unfold MP.poll
  rw [h]
  simp only [List.getLast?_concat, List.dropLast_concat]

set_option maxHeartbeats 2000000 in
theorem PoolLast_walk {e : World} {a0 : Sl} {xs : List Int} (ha : ArgI .u8 e a0 xs) : sh5 a0 (LawEnd e) e := by
  unfold sh5
  have hr := rd_arg ha
  have hg : mpGood 0 10 4 := by decide
  have hz : (1 : Int) ≤ 4 ∧ (4 : Int) ≤ 4096 := by decide
  refine call8 (known_18 (Ok.start e) fun w1 h => ⟨(true, ()), enc_b rfl, ?_⟩)
  refine cs.no rfl ?_
  refine cs.mk (fun _ => ⟨rfl, h⟩) (fun hc => ?_)
  have hle : a0.len ≤ 8 := by have := of_decide_eq_false hc; omega
  refine call9 (NewPool_mpf h (fun w2 h h0 => absurd hg h0) fun _ b w2 h => ⟨(some ⟨b, 0, none⟩, (0 : Int), ()), rfl, ?_⟩)
  refine lp.mk (fun t w' => ∃ i : Nat, t.2.1 = (i : Int) ∧ i ≤ 8 ∧ Ok e [slc 1 t.1 (ints (blks 0 4 i)), mpfP b false 0 10 4 ⟨[], i, [], blks 0 4 i⟩, old e] w') (fun t _ => 8 - t.2.1.toNat) ⟨0, rfl, Nat.zero_le _, h.slcNil 1⟩ ?_
  clear h
  rintro ⟨s, i', _⟩ w3 ⟨i, hi, hi1, h⟩
  dsimp only at hi h
  subst hi
  have hsl := slc_ints_len h
  rw [blks_len, Int.toNat_natCast] at hsl
  refine cs.mk (fun hlt => ?_) (fun hge => ?_)
  · have hlt : i < 8 := by have := of_decide_eq_true hlt; dsimp only at this; omega
    have hw : w64 ((i : Int) + 1) = ((i + 1 : Nat) : Int) := by rw [w64_in (by omega) (by omega)]; rfl
    have e1 := poll_fresh (a := 0) (n := 10) (z := 4) (m := i) hz (by omega)
    refine call10 (Poll_mpf (Ok.emb (h) (.cons (A := mpfP b _ _ _ _ _) (by with_reducible first | exact sl0 | exact .there sl0 | exact .there sl1 | exact .there sl2 | exact .there sl3 | exact .there sl4 | exact .there sl5 | exact .there sl6 | exact .there sl7 | exact .there sl8 | exact .there sl9 | exact .there sl10 | exact .there sl11 | exact .there sl12) (.same _))) (fresh_ok hg okL_nil (by omega)) fun w4 h => ⟨((0 + (i : Int) * stp 4 : Int), true, ()), by rw [e1]; rfl, ?_⟩)
    rw [e1] at h
    dsimp only at h ⊢
    refine al.mk h fun c w5 h => ?_
    refine ef.append1 (n := 1) slT_int (by decide) (Ok.emb (h) (.cons (A := pts c _) (by with_reducible first | exact sl0 | exact .there sl0 | exact .there sl1 | exact .there sl2 | exact .there sl3 | exact .there sl4 | exact .there sl5 | exact .there sl6 | exact .there sl7 | exact .there sl8 | exact .there sl9 | exact .there sl10 | exact .there sl11 | exact .there sl12) (.cons (A := slc 1 s _) (by with_reducible first | exact sl0 | exact .there sl0 | exact .there sl1 | exact .there sl2 | exact .there sl3 | exact .there sl4 | exact .there sl5 | exact .there sl6 | exact .there sl7 | exact .there sl8 | exact .there sl9 | exact .there sl10 | exact .there sl11 | exact .there sl12) (.same _)))) rfl (by intro v hv; simp at hv; subst hv; rfl) (by omega) fun s2 w6 hl2 h => ?_
    rw [ints_snoc, ← blks_succ (Int.natCast_nonneg _)] at h
    rw [hw]
    refine ⟨⟨i + 1, rfl, hlt, h⟩, ?_⟩
    show 8 - Int.toNat ((i + 1 : Nat) : Int) < 8 - Int.toNat (i : Int)
    omega
  have hge : 8 ≤ i := by have := of_decide_eq_false hge; dsimp only at this; omega
  obtain rfl : i = 8 := by omega
  have o0 : MPo 0 10 4 ⟨[], ((8 : Nat) : Int), [], blks 0 4 ((8 : Nat) : Int)⟩ := fresh_ok hg okL_nil (by decide)
  refine lp.mk (fun t w' => ∃ (i : Nat) (q : MP) (l : List Int), t.2.2.1 = (i : Int) ∧ i ≤ a0.len ∧ q.S = [] ∧ q.had = 8 ∧ MPo 0 10 4 q ∧ q.held.Perm l ∧ l.length + i = 8 ∧ q.back.length = i ∧ Ok e [slc 1 t.1 (ints l), slc 1 t.2.1 (ints q.back), mpfP b false 0 10 4 q, old e] w') (fun t _ => a0.len - t.2.2.1.toNat)
    ⟨0, ⟨[], ((8 : Nat) : Int), [], blks 0 4 ((8 : Nat) : Int)⟩, blks 0 4 ((8 : Nat) : Int), rfl, Nat.zero_le _, rfl, rfl, o0, List.Perm.refl _, by rw [blks_len]; rfl, rfl, ?_⟩ ?_
  · have h := h.slcNil 1
    show Ok e [slc 1 s (ints (blks 0 4 ((8 : Nat) : Int))), slc 1 ⟨none, 0, 0⟩ [], mpfP b false 0 10 4 ⟨[], ((8 : Nat) : Int), [], blks 0 4 ((8 : Nat) : Int)⟩, old e] w3
    exact (h.emb (by repeat' (first | with_reducible exact Emb.same _ | exact Emb.nil _ | refine Emb.cons (by with_reducible first | exact sl0 | exact .there sl0 | exact .there sl1 | exact .there sl2 | exact .there sl3 | exact .there sl4 | exact .there sl5 | exact .there sl6 | exact .there sl7 | exact .there sl8 | exact .there sl9 | exact .there sl10 | exact .there sl11 | exact .there sl12) ?_ | refine Emb.skip ?_)))
  clear h o0
  rintro ⟨s, sb', i', _⟩ w4 ⟨i, q, l, hi, hi1, hS, hhad, ho, hp, hl, hbl, h⟩
  dsimp only at hi h
  subst hi
  have hsl := slc_ints_len h
  have hbs := slc_ints_len h.p1
  refine cs.mk (fun hlt => ?_) (fun hge => ?_)
  · have hlt : i < a0.len := by have := of_decide_eq_true hlt; dsimp only at this; omega
    have hw : w64 ((i : Int) + 1) = ((i + 1 : Nat) : Int) := by rw [w64_in (by omega) (by omega)]; rfl
    refine cs.no (by dsimp only; rw [beq_eq_false_iff_ne]; omega) ?_
    refine ix_rd hr (Int.natCast_nonneg _) (by show (i : Int) < (a0.len : Int); omega) fun c o x hx hcell => ldI.mk (hcell _ _ (Ok.emb (h) (.cons (A := old e) (by with_reducible first | exact sl0 | exact .there sl0 | exact .there sl1 | exact .there sl2 | exact .there sl3 | exact .there sl4 | exact .there sl5 | exact .there sl6 | exact .there sl7 | exact .there sl8 | exact .there sl9 | exact .there sl10 | exact .there sl11 | exact .there sl12) (.same _)))) ?_
    clear hcell
    have hxb := ha.u8 (List.mem_of_getElem? hx)
    dsimp only
    refine ob.mk (by omega) ?_
    obtain ⟨k, hk, hkl⟩ : ∃ k : Nat, Int.tmod (w64 x) (s.len : Int) = (k : Int) ∧ k < s.len := by
      rw [w64_in (by omega) (by omega), Int.tmod_eq_emod_of_nonneg hxb.1]
      have h1 := Int.emod_nonneg x (show (s.len : Int) ≠ 0 by omega)
      have h2 := Int.emod_lt_of_pos x (show (0 : Int) < (s.len : Int) by omega)
      exact ⟨(x % (s.len : Int)).toNat, by omega, by omega⟩
    rw [hk, hw]
    refine ix_int h (Int.natCast_nonneg _) (by omega) fun c o y hy hcell => ldI.mk (hcell _ ⟨_, h⟩) ?_
    rw [Int.toNat_natCast] at hy
    clear hcell
    have hym : y ∈ q.held := hp.mem_iff.2 (List.mem_of_getElem? hy)
    have e1 := put_mem hS hym
    refine call12 (Put_mpf (Ok.emb (h) (.cons (A := mpfP b _ _ _ _ _) (by with_reducible first | exact sl0 | exact .there sl0 | exact .there sl1 | exact .there sl2 | exact .there sl3 | exact .there sl4 | exact .there sl5 | exact .there sl6 | exact .there sl7 | exact .there sl8 | exact .there sl9 | exact .there sl10 | exact .there sl11 | exact .there sl12) (.same _))) ho fun w7 h => ⟨((0 : Int), (0 : Int), ()), by rw [e1]; rfl, ?_⟩)
    have o2 := put_ok (x := y) ho
    rw [e1] at h o2
    refine cs.no rfl ?_
    dsimp only at h o2 ⊢
    refine ix_int (Ok.emb (h) (.cons (A := slc 1 s _) (by with_reducible first | exact sl0 | exact .there sl0 | exact .there sl1 | exact .there sl2 | exact .there sl3 | exact .there sl4 | exact .there sl5 | exact .there sl6 | exact .there sl7 | exact .there sl8 | exact .there sl9 | exact .there sl10 | exact .there sl11 | exact .there sl12) (.same _))) (Int.natCast_nonneg _) (by omega) fun c o y' hy' hcell => ldI.mk (hcell _ ⟨_, (Ok.emb (h) (.cons (A := slc 1 s _) (by with_reducible first | exact sl0 | exact .there sl0 | exact .there sl1 | exact .there sl2 | exact .there sl3 | exact .there sl4 | exact .there sl5 | exact .there sl6 | exact .there sl7 | exact .there sl8 | exact .there sl9 | exact .there sl10 | exact .there sl11 | exact .there sl12) (.same _)))⟩) ?_
    rw [Int.toNat_natCast, hy] at hy'
    cases hy'
    clear hcell
    refine al.mk h fun c w8 h => ?_
    refine ef.append1 (n := 1) slT_int (by decide) (Ok.emb (h) (.cons (A := pts c _) (by with_reducible first | exact sl0 | exact .there sl0 | exact .there sl1 | exact .there sl2 | exact .there sl3 | exact .there sl4 | exact .there sl5 | exact .there sl6 | exact .there sl7 | exact .there sl8 | exact .there sl9 | exact .there sl10 | exact .there sl11 | exact .there sl12) (.cons (A := slc 1 sb' _) (by with_reducible first | exact sl0 | exact .there sl0 | exact .there sl1 | exact .there sl2 | exact .there sl3 | exact .there sl4 | exact .there sl5 | exact .there sl6 | exact .there sl7 | exact .there sl8 | exact .there sl9 | exact .there sl10 | exact .there sl11 | exact .there sl12) (.same _)))) rfl (by intro v hv; simp at hv; subst hv; rfl) (by omega) fun s2 w9 hl2 h => ?_
    rw [ints_snoc] at h
    refine dr.mk h fun w10 h => ?_
    rw [w64_in (x := (k : Int) + 1) (by omega) (by omega)]
    refine sb_sub (Ok.emb (h) (.cons (A := slc 1 s _) (by with_reducible first | exact sl0 | exact .there sl0 | exact .there sl1 | exact .there sl2 | exact .there sl3 | exact .there sl4 | exact .there sl5 | exact .there sl6 | exact .there sl7 | exact .there sl8 | exact .there sl9 | exact .there sl10 | exact .there sl11 | exact .there sl12) (.same _))) (Int.le_refl _) (Int.natCast_nonneg _) (by omega) fun x1 hx1 => ?_
    refine sb_sub (Ok.emb (h) (.cons (A := slc 1 s _) (by with_reducible first | exact sl0 | exact .there sl0 | exact .there sl1 | exact .there sl2 | exact .there sl3 | exact .there sl4 | exact .there sl5 | exact .there sl6 | exact .there sl7 | exact .there sl8 | exact .there sl9 | exact .there sl10 | exact .there sl11 | exact .there sl12) (.same _))) (by omega) (by omega) (Int.le_refl _) fun x2 hx2 => ?_
    refine al.mk h fun c1 w11 h => ?_
    have h := h.slcNew (n := 0) (sz := 1) rfl (by simp)
    refine ef.appendSub slT_int (by decide) (Ok.emb (h) (.cons (A := slc 1 ⟨some ⟨c1, 0, none⟩, 0, 0⟩ _) (by with_reducible first | exact sl0 | exact .there sl0 | exact .there sl1 | exact .there sl2 | exact .there sl3 | exact .there sl4 | exact .there sl5 | exact .there sl6 | exact .there sl7 | exact .there sl8 | exact .there sl9 | exact .there sl10 | exact .there sl11 | exact .there sl12) (.cons (A := slc 1 s _) (by with_reducible first | exact sl0 | exact .there sl0 | exact .there sl1 | exact .there sl2 | exact .there sl3 | exact .there sl4 | exact .there sl5 | exact .there sl6 | exact .there sl7 | exact .there sl8 | exact .there sl9 | exact .there sl10 | exact .there sl11 | exact .there sl12) (.same _)))) hx1 (by omega) (by simp only; omega) fun s3 w12 hl3 h => ?_
    refine ef.appendSub slT_int (by decide) (Ok.emb (h) (.cons (A := slc 1 s3 _) (by with_reducible first | exact sl0 | exact .there sl0 | exact .there sl1 | exact .there sl2 | exact .there sl3 | exact .there sl4 | exact .there sl5 | exact .there sl6 | exact .there sl7 | exact .there sl8 | exact .there sl9 | exact .there sl10 | exact .there sl11 | exact .there sl12) (.cons (A := slc 1 s _) (by with_reducible first | exact sl0 | exact .there sl0 | exact .there sl1 | exact .there sl2 | exact .there sl3 | exact .there sl4 | exact .there sl5 | exact .there sl6 | exact .there sl7 | exact .there sl8 | exact .there sl9 | exact .there sl10 | exact .there sl11 | exact .there sl12) (.same _)))) hx2 (by omega) (by dsimp only at hl3 ⊢; omega) fun s4 w13 hl4 h => ?_
    have e2 : List.drop (Int.toNat 0 * 1) (List.take (Int.toNat (k : Int) * 1) (ints l)) = ints (l.take k) := by simp [ints, List.map_take]
    have e3 : List.drop (Int.toNat ((k : Int) + 1) * 1) (List.take (Int.toNat (s.len : Int) * 1) (ints l)) = ints (l.drop (k + 1)) := by
      rw [Int.toNat_natCast, show ((k : Int) + 1).toNat = k + 1 by omega, Nat.mul_one, Nat.mul_one, List.take_of_length_le (by rw [ints_len]; omega)]
      simp [ints, List.map_drop]
    rw [e2, e3, List.nil_append, ← List.map_append] at h
    have htp := take_perm hy
    have hpl := htp.length_eq
    rw [List.length_cons] at hpl
    refine ⟨⟨i + 1, ⟨[], q.had, q.back ++ [y], delU q.held y⟩, l.take k ++ l.drop (k + 1), rfl, hlt, rfl, hhad, o2, ((delU_perm ho.up hym).symm.trans (hp.trans htp)).cons_inv, by omega, by simp [hbl], (h.emb (by repeat' (first | with_reducible exact Emb.same _ | exact Emb.nil _ | refine Emb.cons (by with_reducible first | exact sl0 | exact .there sl0 | exact .there sl1 | exact .there sl2 | exact .there sl3 | exact .there sl4 | exact .there sl5 | exact .there sl6 | exact .there sl7 | exact .there sl8 | exact .there sl9 | exact .there sl10 | exact .there sl11 | exact .there sl12) ?_ | refine Emb.skip ?_)))⟩, ?_⟩
    show a0.len - Int.toNat ((i + 1 : Nat) : Int) < a0.len - Int.toNat (i : Int)
    omega
  have hge : a0.len ≤ i := by have := of_decide_eq_false hge; dsimp only at this; omega
  obtain ⟨B, hB⟩ : ∃ B, B = q.back := ⟨_, rfl⟩
  rw [← hB] at h hbl hbs
  have h0 : w64 ((sb'.len : Int) - 1) = (i : Int) - 1 := by rw [w64_in (by omega) (by omega)]; omega
  dsimp only
  rw [h0]
  refine lp.mk (fun t w' => ∃ (j : Nat) (q : MP), @Eq Int t.1 ((j : Int) - 1) ∧ j ≤ B.length ∧ q.S = [] ∧ q.had = 8 ∧ q.back = B.take j ∧ MPo 0 10 4 q ∧ Ok e [slc 1 sb' (ints B), mpfP b false 0 10 4 q, old e] w') (fun t _ => (@HAdd.hAdd Int Int Int _ t.1 1).toNat) ⟨i, q, rfl, by omega, hS, hhad, by rw [← hB, List.take_of_length_le (by omega)], ho, (h.emb (by repeat' (first | with_reducible exact Emb.same _ | exact Emb.nil _ | refine Emb.cons (by with_reducible first | exact sl0 | exact .there sl0 | exact .there sl1 | exact .there sl2 | exact .there sl3 | exact .there sl4 | exact .there sl5 | exact .there sl6 | exact .there sl7 | exact .there sl8 | exact .there sl9 | exact .there sl10 | exact .there sl11 | exact .there sl12) ?_ | refine Emb.skip ?_)))⟩ ?_
  clear h ho hS hhad hp hB h0
  rintro ⟨(j' : Int), _⟩ w5 ⟨j, q, hj, hj1, hS, hhad, hqb, ho, h⟩
  dsimp only at hj
  subst hj
  refine cs.mk (fun hlt => ?_) (fun hge2 => ?_)
  · have hlt : 1 ≤ j := by have := of_decide_eq_true hlt; dsimp only at this; omega
    obtain ⟨m, rfl⟩ : ∃ m, j = m + 1 := ⟨j - 1, by omega⟩
    have hx : B[m]? = some B[m] := List.getElem?_eq_getElem (by omega)
    have htk : q.back = B.take m ++ [B[m]] := by rw [hqb, List.take_add_one, hx]; rfl
    have e1 := poll_back (a := 0) (n := 10) (z := 4) htk
    have hj2 : ((m + 1 : Nat) : Int) - 1 = (m : Int) := by omega
    dsimp only
    rw [hj2]
    refine call10 (Poll_mpf (Ok.emb (h) (.cons (A := mpfP b _ _ _ _ _) (by with_reducible first | exact sl0 | exact .there sl0 | exact .there sl1 | exact .there sl2 | exact .there sl3 | exact .there sl4 | exact .there sl5 | exact .there sl6 | exact .there sl7 | exact .there sl8 | exact .there sl9 | exact .there sl10 | exact .there sl11 | exact .there sl12) (.same _))) ho fun w6 h => ⟨(B[m], true, ()), by rw [e1]; rfl, ?_⟩)
    have o2 := poll_ok ho
    rw [e1] at h o2
    dsimp only at h o2 ⊢
    refine jn.bool (false) (fun J hJ => ?_) ?_
    · refine cs.no rfl ?_
      refine ix_int (Ok.emb (h) (.cons (A := slc 1 sb' _) (by with_reducible first | exact sl0 | exact .there sl0 | exact .there sl1 | exact .there sl2 | exact .there sl3 | exact .there sl4 | exact .there sl5 | exact .there sl6 | exact .there sl7 | exact .there sl8 | exact .there sl9 | exact .there sl10 | exact .there sl11 | exact .there sl12) (.same _))) (Int.natCast_nonneg _) (by omega) fun c o y hy hcell => ldI.mk (hcell _ ⟨_, (Ok.emb (h) (.cons (A := slc 1 sb' _) (by with_reducible first | exact sl0 | exact .there sl0 | exact .there sl1 | exact .there sl2 | exact .there sl3 | exact .there sl4 | exact .there sl5 | exact .there sl6 | exact .there sl7 | exact .there sl8 | exact .there sl9 | exact .there sl10 | exact .there sl11 | exact .there sl12) (.same _)))⟩) ?_
      rw [Int.toNat_natCast, hx] at hy
      cases hy
      rw [bne_self_eq_false]
      exact hJ
    refine cs.no rfl ?_
    rw [w64_in (x := (m : Int) - 1) (by omega) (by omega)]
    refine ⟨⟨m, ⟨q.S, q.had, B.take m, insU q.held B[m]⟩, rfl, by omega, hS, hhad, rfl, o2, (h.emb (by repeat' (first | with_reducible exact Emb.same _ | exact Emb.nil _ | refine Emb.cons (by with_reducible first | exact sl0 | exact .there sl0 | exact .there sl1 | exact .there sl2 | exact .there sl3 | exact .there sl4 | exact .there sl5 | exact .there sl6 | exact .there sl7 | exact .there sl8 | exact .there sl9 | exact .there sl10 | exact .there sl11 | exact .there sl12) ?_ | refine Emb.skip ?_)))⟩, ?_⟩
    show Int.toNat ((m : Int) - 1 + 1) < Int.toNat ((m : Int) + 1)
    omega
  have hge2 : j = 0 := by have := of_decide_eq_false hge2; dsimp only at this; omega
  subst hge2
  rw [List.take_zero] at hqb
  obtain ⟨S, had, back, held⟩ := q
  dsimp only at hS hhad hqb
  subst hS hhad hqb
  have e1 : MP.poll 0 10 4 ⟨[], 8, [], held⟩ = ((32, true), ⟨[], 9, [], insU held 32⟩) := by rfl
  have e2 : MP.poll 0 10 4 ⟨[], 9, [], insU held 32⟩ = ((36, true), ⟨[], 10, [], insU (insU held 32) 36⟩) := by rfl
  have e3 : MP.poll 0 10 4 ⟨[], 10, [], insU (insU held 32) 36⟩ = ((0, false), ⟨[], 10, [], insU (insU held 32) 36⟩) := by rfl
  refine call10 (Poll_mpf (Ok.emb (h) (.cons (A := mpfP b _ _ _ _ _) (by with_reducible first | exact sl0 | exact .there sl0 | exact .there sl1 | exact .there sl2 | exact .there sl3 | exact .there sl4 | exact .there sl5 | exact .there sl6 | exact .there sl7 | exact .there sl8 | exact .there sl9 | exact .there sl10 | exact .there sl11 | exact .there sl12) (.same _))) ho fun w6 h => ⟨((32 : Int), true, ()), by rw [e1]; rfl, ?_⟩)
  have o1 := poll_ok ho
  rw [e1] at h o1
  refine call10 (Poll_mpf h o1 fun w6 h => ⟨((36 : Int), true, ()), by dsimp only; rw [e2]; rfl, ?_⟩)
  have o2 := poll_ok o1
  dsimp only at h o2
  rw [e2] at h o2
  refine call10 (Poll_mpf h o2 fun w6 h => ⟨((0 : Int), false, ()), by dsimp only; rw [e3]; rfl, ?_⟩)
  dsimp only at h ⊢
  rw [e3] at h
  refine jn.bool true (fun J hJ => cs.yes (by first | rfl | simp) (by (repeat (first | with_reducible refine dr.mk h fun _ h => ?_ | with_reducible refine nn.mk ?_ | ((first | with_reducible apply ldI.mk | with_reducible apply ldB.mk | with_reducible apply ldP.mk | with_reducible apply ldS.mk | with_reducible apply ldM.mk | with_reducible apply ldF.mk | with_reducible apply ldG.mk); (· exact (by refine Ok.cellS h (by with_reducible first | exact sl0 | exact .there sl0 | exact .there sl1 | exact .there sl2 | exact .there sl3 | exact .there sl4 | exact .there sl5 | exact .there sl6 | exact .there sl7 | exact .there sl8 | exact .there sl9 | exact .there sl10 | exact .there sl11 | exact .there sl12) ?_; rfl))) | (refine st1.mk (Ok.bring h (by with_reducible first | exact sl0 | exact .there sl0 | exact .there sl1 | exact .there sl2 | exact .there sl3 | exact .there sl4 | exact .there sl5 | exact .there sl6 | exact .there sl7 | exact .there sl8 | exact .there sl9 | exact .there sl10 | exact .there sl11 | exact .there sl12)) (by simp) fun _ h => ?_; dsimp only [List.set] at h))); exact hJ)) ?_
  refine jn.bool true (fun J hJ => cs.yes (by first | rfl | simp) (by (repeat (first | with_reducible refine dr.mk h fun _ h => ?_ | with_reducible refine nn.mk ?_ | ((first | with_reducible apply ldI.mk | with_reducible apply ldB.mk | with_reducible apply ldP.mk | with_reducible apply ldS.mk | with_reducible apply ldM.mk | with_reducible apply ldF.mk | with_reducible apply ldG.mk); (· exact (by refine Ok.cellS h (by with_reducible first | exact sl0 | exact .there sl0 | exact .there sl1 | exact .there sl2 | exact .there sl3 | exact .there sl4 | exact .there sl5 | exact .there sl6 | exact .there sl7 | exact .there sl8 | exact .there sl9 | exact .there sl10 | exact .there sl11 | exact .there sl12) ?_; rfl))) | (refine st1.mk (Ok.bring h (by with_reducible first | exact sl0 | exact .there sl0 | exact .there sl1 | exact .there sl2 | exact .there sl3 | exact .there sl4 | exact .there sl5 | exact .there sl6 | exact .there sl7 | exact .there sl8 | exact .there sl9 | exact .there sl10 | exact .there sl11 | exact .there sl12)) (by simp) fun _ h => ?_; dsimp only [List.set] at h))); exact hJ)) ?_
  refine jn.bool true (fun J hJ => cs.yes (by first | rfl | simp) (by (repeat (first | with_reducible refine dr.mk h fun _ h => ?_ | with_reducible refine nn.mk ?_ | ((first | with_reducible apply ldI.mk | with_reducible apply ldB.mk | with_reducible apply ldP.mk | with_reducible apply ldS.mk | with_reducible apply ldM.mk | with_reducible apply ldF.mk | with_reducible apply ldG.mk); (· exact (by refine Ok.cellS h (by with_reducible first | exact sl0 | exact .there sl0 | exact .there sl1 | exact .there sl2 | exact .there sl3 | exact .there sl4 | exact .there sl5 | exact .there sl6 | exact .there sl7 | exact .there sl8 | exact .there sl9 | exact .there sl10 | exact .there sl11 | exact .there sl12) ?_; rfl))) | (refine st1.mk (Ok.bring h (by with_reducible first | exact sl0 | exact .there sl0 | exact .there sl1 | exact .there sl2 | exact .there sl3 | exact .there sl4 | exact .there sl5 | exact .there sl6 | exact .there sl7 | exact .there sl8 | exact .there sl9 | exact .there sl10 | exact .there sl11 | exact .there sl12)) (by simp) fun _ h => ?_; dsimp only [List.set] at h))); exact hJ)) ?_
  refine jn.bool true (fun J hJ => cs.yes (by first | rfl | simp) (by (repeat (first | with_reducible refine dr.mk h fun _ h => ?_ | with_reducible refine nn.mk ?_ | ((first | with_reducible apply ldI.mk | with_reducible apply ldB.mk | with_reducible apply ldP.mk | with_reducible apply ldS.mk | with_reducible apply ldM.mk | with_reducible apply ldF.mk | with_reducible apply ldG.mk); (· exact (by refine Ok.cellS h (by with_reducible first | exact sl0 | exact .there sl0 | exact .there sl1 | exact .there sl2 | exact .there sl3 | exact .there sl4 | exact .there sl5 | exact .there sl6 | exact .there sl7 | exact .there sl8 | exact .there sl9 | exact .there sl10 | exact .there sl11 | exact .there sl12) ?_; rfl))) | (refine st1.mk (Ok.bring h (by with_reducible first | exact sl0 | exact .there sl0 | exact .there sl1 | exact .there sl2 | exact .there sl3 | exact .there sl4 | exact .there sl5 | exact .there sl6 | exact .there sl7 | exact .there sl8 | exact .there sl9 | exact .there sl10 | exact .there sl11 | exact .there sl12)) (by simp) fun _ h => ?_; dsimp only [List.set] at h))); exact hJ)) ?_
  exact ⟨rfl, (h.emb (by repeat' (first | with_reducible exact Emb.same _ | exact Emb.nil _ | refine Emb.cons (by with_reducible first | exact sl0 | exact .there sl0 | exact .there sl1 | exact .there sl2 | exact .there sl3 | exact .there sl4 | exact .there sl5 | exact .there sl6 | exact .there sl7 | exact .there sl8 | exact .there sl9 | exact .there sl10 | exact .there sl11 | exact .there sl12) ?_ | refine Emb.skip ?_)))⟩

end Go.Proofs.Ytbdgglhfmanfbaa.B
