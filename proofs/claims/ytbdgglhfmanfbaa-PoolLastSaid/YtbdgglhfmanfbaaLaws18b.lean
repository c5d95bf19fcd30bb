/- Laws of layer 18: a block is given back once; it goes to who waits. -/
import Derived.Test.YtbdgglhfmanfbaaLaws18
namespace Go.Proofs.Ytbdgglhfmanfbaa.B
open Go
set_option linter.unusedVariables false

theorem insU_last : ∀ {l : List Int} {a : Int}, (∀ x ∈ l, x < a) → insU l a = l ++ [a] := by
  intro l a h
  have hp : pos l a = l.length := by
    induction l with
    | nil => rfl
    | cons b l ih => rw [pos, if_pos (h b (List.mem_cons_self ..)), ih fun x hx => h x (List.mem_cons_of_mem _ hx)]; rfl
  unfold insU
  rw [hp]
  simp

theorem blks_up {a z had : Int} (h : 1 ≤ z ∧ z ≤ 4096) : Up (blks a z had) := by
  refine List.pairwise_map.2 (List.pairwise_lt_range.imp fun {i j} hij => ?_)
  have := mul_lt_stp h (i := i) (j := j) (by omega)
  have := stp_bd h
  omega

theorem poll_fresh {a n z : Int} {m : Nat} (hz : 1 ≤ z ∧ z ≤ 4096) (h : (m : Int) < n) : MP.poll a n z ⟨[], m, [], blks a z m⟩ = ((a + m * stp z, true), ⟨[], ((m + 1 : Nat) : Int), [], blks a z ((m + 1 : Nat) : Int)⟩) := by
  unfold MP.poll
  simp only [List.getLast?_nil, if_pos h]
  rw [show ((m + 1 : Nat) : Int) = (m : Int) + 1 by omega, blks_succ (by omega), insU_last]
  intro x hx
  obtain ⟨k, hk, rfl⟩ := blks_mem.1 hx
  have := mul_lt_stp hz (i := k) (j := m) hk
  have := stp_bd hz
  omega

theorem fresh_ok {a n z : Int} {m : Nat} {S} (hg : mpGood a n z) (hS : okL S) (h : (m : Int) ≤ n) : MPo a n z ⟨S, m, [], blks a z m⟩ := by
  obtain ⟨h1, h2, h3, h4, h5, h6, h7, h8⟩ := hg
  exact ⟨⟨h1, h2, h4, h5, h6, h7, h8⟩, hS, ⟨Int.natCast_nonneg _, h⟩, blks_up ⟨h6, h7⟩, List.Perm.of_eq rfl⟩

theorem fill_18 {e w L b a z} {N : Nat} {K : World → Prop} (h : Ok e (mpfP b false a N z mp0 :: L) w) (hg : mpGood a N z) (k : ∀ w', Ok e (mpfP b false a N z ⟨[], N, [], blks a z N⟩ :: L) w' → K w') :
    lp [kI] w ((0 : Int), ()) fun (t : Int × Unit) J w' => cs (decide ((t.1 : Int) < (N : Int))) (
    cl Pg 10 [.pointer (some ⟨b, 0, none⟩)] [kI, kB] w' fun (r : Int × Bool × Unit) w'' => J (w64 (t.1 + 1), ()) w'') (K w') := by
  have hN : N ≤ 256 := by have := hg.2.2.2.2.1; omega
  have hz := And.intro hg.2.2.2.2.2.1 hg.2.2.2.2.2.2.1
  refine lp.mk (fun t w' => ∃ m : Nat, t.1 = (m : Int) ∧ m ≤ N ∧ Ok e (mpfP b false a N z ⟨[], m, [], blks a z m⟩ :: L) w') (fun t _ => N - t.1.toNat) ⟨0, rfl, Nat.zero_le _, h⟩ ?_
  clear h
  rintro ⟨i, _⟩ w1 ⟨m, hm, hm1, h⟩
  dsimp only at hm
  subst hm
  refine cs.mk (fun hlt => ?_) (fun hge => ?_)
  · have hlt : m < N := by have := of_decide_eq_true hlt; dsimp only at this; omega
    have hw : w64 ((m : Int) + 1) = ((m + 1 : Nat) : Int) := by rw [w64_in (by omega) (by omega)]; rfl
    have e1 := poll_fresh (a := a) (n := N) (m := m) hz (by omega)
    refine call10 (Poll_mpf h (fresh_ok hg okL_nil (by omega)) fun w2 h => ⟨((a + (m : Int) * stp z : Int), true, ()), by rw [e1]; rfl, ?_⟩)
    rw [e1] at h
    dsimp only
    rw [hw]
    refine ⟨⟨m + 1, rfl, hlt, h⟩, ?_⟩
    show N - Int.toNat ((m + 1 : Nat) : Int) < N - Int.toNat (m : Int)
    omega
  · have hge : N ≤ m := by have := of_decide_eq_false hge; dsimp only at this; omega
    obtain rfl : m = N := by omega
    exact k _ h

set_option maxHeartbeats 1000000 in
theorem PoolTwice_walk {e : World} {a0 a1 : Int} (w0 : (Lit.int .u8 a0).wf = true) (w1 : (Lit.int .i64 a1).wf = true) : sh4 a0 a1 (LawEnd e) e := by
  unfold sh4
  have h8 := wf_u8 w0
  obtain ⟨N, hN, hN1, hN8⟩ : ∃ N : Nat, w64 (1 + (w64 (Int.tmod a0 8))) = (N : Int) ∧ 1 ≤ N ∧ N ≤ 8 := by
    refine ⟨(1 + a0 % 8).toNat, ?_, by omega, by omega⟩
    rw [Int.tmod_eq_emod_of_nonneg h8.1, w64_in (x := a0 % 8) (by omega) (by omega), w64_in (by omega) (by omega)]
    omega
  rw [hN]
  have hs : stp 8 = 8 := by rfl
  have hg : mpGood 16 N 8 := by unfold mpGood; rw [hs]; omega
  refine call8 (known_18 (Ok.start e) fun w1 h => ⟨(true, ()), enc_b rfl, ?_⟩)
  refine cs.no rfl ?_
  refine call9 (NewPool_mpf h (fun w2 h h0 => absurd hg h0) fun _ b w2 h => ⟨(some ⟨b, 0, none⟩, (0 : Int), ()), rfl, ?_⟩)
  refine fill_18 h hg fun w3 h => ?_
  have o0 : MPo 16 N 8 ⟨[], N, [], blks 16 8 N⟩ := fresh_ok hg okL_nil (Int.le_refl _)
  rw [w64_in (x := 8 * (N : Int)) (by omega) (by omega), w64_in (x := 16 + 8 * (N : Int)) (by omega) (by omega)]
  have hmem : a1 ∈ blks 16 8 N ↔ (16 ≤ a1 ∧ a1 < 16 + 8 * (N : Int)) ∧ a1 % 8 = 0 := by
    rw [blks_mem, hs]
    exact ⟨fun ⟨k, hk, he⟩ => by omega, fun hh => ⟨((a1 - 16) / 8).toNat, by omega, by omega⟩⟩
  refine jn.bool (decide (16 ≤ a1 ∧ a1 < 16 + 8 * (N : Int))) (fun J hJ => ?_) ?_
  · refine cs.mk (fun h1 => ?_) (fun h1 => ?_)
    · have h1 := of_decide_eq_true h1
      rw [show decide (16 ≤ a1 ∧ a1 < 16 + 8 * (N : Int)) = decide (a1 < 16 + 8 * (N : Int)) from decide_eq_decide.2 (by omega)] at hJ
      exact hJ
    · have h1 := of_decide_eq_false h1
      rw [decide_eq_false (by omega)] at hJ
      exact hJ
  refine jn.bool (decide (a1 ∈ blks 16 8 N)) (fun J hJ => ?_) ?_
  · refine cs.mk (fun h1 => ?_) (fun h1 => ?_)
    · have h1 := of_decide_eq_true h1
      rw [show decide (a1 ∈ blks 16 8 N) = (Int.tmod a1 8 == 0) by
        rw [Int.tmod_eq_emod_of_nonneg (by omega), Bool.eq_iff_iff, decide_eq_true_iff, hmem, beq_iff_eq]; omega] at hJ
      exact hJ
    · have h1 := of_decide_eq_false h1
      rw [decide_eq_false (fun h => h1 (hmem.1 h).1)] at hJ
      exact hJ
  have hBl : (blks 16 8 N).length = N := by rw [blks_len]; rfl
  obtain ⟨q1, e1, e2, hl1⟩ : ∃ q1, MP.put ⟨[], N, [], blks 16 8 N⟩ a1 = ((0, if a1 ∈ blks 16 8 N then 0 else -17), q1) ∧ MP.put q1 a1 = ((0, -17), q1) ∧ q1.held.length = if a1 ∈ blks 16 8 N then N - 1 else N := by
    by_cases hm : a1 ∈ blks 16 8 N
    · have hp := delU_perm o0.up hm
      have hno : a1 ∉ delU (blks 16 8 N) a1 := (List.nodup_cons.1 (hp.nodup_iff.1 (blks_nodup ⟨by decide, by decide⟩))).1
      refine ⟨⟨[], N, [a1], delU (blks 16 8 N) a1⟩, ?_, ?_, ?_⟩
      · unfold MP.put
        simp only [if_pos hm, List.nil_append]
      · unfold MP.put
        simp only [if_neg hno]
      · rw [if_pos hm]
        have h5 := hBl.symm.trans hp.length_eq
        rw [List.length_cons] at h5
        exact (Nat.sub_eq_of_eq_add h5).symm
    · refine ⟨⟨[], N, [], blks 16 8 N⟩, ?_, ?_, ?_⟩
      · unfold MP.put
        simp only [if_neg hm]
      · unfold MP.put
        simp only [if_neg hm]
      · rw [if_neg hm]; exact hBl
  refine call12 (Put_mpf h o0 fun w4 h => ⟨((0 : Int), ((if a1 ∈ blks 16 8 N then 0 else -17 : Int)), ()), by rw [e1]; rfl, ?_⟩)
  have o1 := put_ok (x := a1) o0
  rw [e1] at h o1
  refine call12 (Put_mpf h o1 fun w4 h => ⟨((0 : Int), (-17 : Int), ()), by dsimp only; rw [e2]; rfl, ?_⟩)
  dsimp only at h o1
  rw [e2] at h
  refine cs.no rfl ?_
  dsimp only at h ⊢
  refine jn.bool true (fun J hJ => cs.yes ?_ ?_) ?_
  · by_cases hm : a1 ∈ blks 16 8 N
    · rw [if_pos hm, decide_eq_true hm]; rfl
    · rw [if_neg hm, decide_eq_false hm]; rfl
  · refine jn.bool true (fun J1 hJ1 => cs.mk (fun hm => hJ1) (fun hm => ?_)) hJ
    have hm : a1 ∉ blks 16 8 N := of_decide_eq_false hm
    rw [if_neg hm]
    exact hJ1
  refine jn.at (true, ()) (fun w' => Ok e [old e] w') (fun J hJ => cs.yes rfl ?_) (fun w7 h => ⟨rfl, h⟩)
  refine call11 (Free_mpf h o1 fun w5 h => ⟨((N : Int) - (q1.held.length : Int), ()), rfl, ?_⟩)
  dsimp only
  rw [hl1]
  rw [show (((N : Int) - ((if a1 ∈ blks 16 8 N then N - 1 else N : Nat) : Int) == 1) == decide (a1 ∈ blks 16 8 N)) = true by
    by_cases hm : a1 ∈ blks 16 8 N
    · rw [if_pos hm, decide_eq_true hm, show (N : Int) - ((N - 1 : Nat) : Int) = 1 by omega]; rfl
    · rw [if_neg hm, decide_eq_false hm, Int.sub_self]; rfl]
  exact hJ _ h.drop

def seqS (n : Nat) : List (Int × Int) := (List.range n).map fun (k : Nat) => ((k : Int) + 1, (1 : Int))

theorem seqS_len (n : Nat) : (seqS n).length = n := by simp [seqS]

theorem seqS_ids (n : Nat) : ids (seqS n) = (List.range n).map fun (k : Nat) => (k : Int) + 1 := by simp [seqS, ids]

theorem seqS_mem {n : Nat} {i : Int} : i ∈ ids (seqS n) ↔ 1 ≤ i ∧ i ≤ n := by
  rw [seqS_ids, List.mem_map]
  exact ⟨fun ⟨k, hk, he⟩ => by have := List.mem_range.1 hk; omega, fun h => ⟨(i - 1).toNat, List.mem_range.2 (by omega), by omega⟩⟩

theorem seqS_ok {n : Nat} (h : n ≤ 16) : okL (seqS n) := by
  refine ⟨?_, fun i hi => by have := seqS_mem.1 hi; omega⟩
  rw [seqS_ids]
  refine List.pairwise_map.2 (List.nodup_range.imp fun h h2 => h ?_)
  omega

theorem seqS_succ (n : Nat) : seqS (n + 1) = seqS n ++ [((n : Int) + 1, 1)] := by simp [seqS, List.range_succ]

theorem putL_false (l : List (Int × Int)) (x : Int × Int) : putL false l x = l ++ [x] := by simp [putL, putK]

theorem addL_seq {n : Nat} (h : n < 16) : addL false (seqS n) ((n : Int) + 1) 1 = (0, seqS (n + 1)) := by
  unfold addL
  rw [if_neg (by omega), if_neg (by rw [atI_pos, seqS_mem]; omega), putL_false, seqS_succ]

theorem seqS_drop {m i : Nat} (h : i < m) : (seqS m).drop i = ((i : Int) + 1, 1) :: (seqS m).drop (i + 1) := by
  rw [List.drop_eq_getElem_cons (by rw [seqS_len]; exact h)]
  congr 1
  simp [seqS]

theorem get_wait {N k : Nat} (h : k < 16) : MP.get 0 N 4 false ⟨seqS k, N, [], blks 0 4 N⟩ ((k : Int) + 1) 1 = ((0, false, 0), ⟨seqS (k + 1), N, [], blks 0 4 N⟩) := by
  have hp : MP.poll 0 N 4 ⟨seqS k, N, [], blks 0 4 N⟩ = ((0, false), ⟨seqS k, N, [], blks 0 4 N⟩) := by
    unfold MP.poll
    simp only [List.getLast?_nil, if_neg (Int.lt_irrefl _)]
  unfold MP.get
  rw [hp]
  simp only [Bool.false_eq_true, if_false, addL_seq h]

/-- when i blocks were given back, of a pool of N, where m waited -/
def hnd (N m i : Nat) : MP := ⟨(seqS m).drop i, N, (blks 0 4 N).take (i - m), (blks 0 4 N).drop (i - m)⟩

theorem hnd_ok {N m i : Nat} (hN : 1 ≤ N ∧ N ≤ 8) (hm : m ≤ 8) : MPo 0 N 4 (hnd N m i) := by
  have hs : stp 4 = 4 := by rfl
  refine ⟨?_, okL_sub (seqS_ok (by omega)) (List.drop_sublist ..), ⟨Int.natCast_nonneg _, Int.le_refl _⟩, (blks_up ⟨by decide, by decide⟩).sublist (List.drop_sublist ..), List.Perm.of_eq ?_⟩
  · rw [hs]; omega
  · show _ ++ _ = _
    exact List.take_append_drop ..

theorem hnd_put {N m i : Nat} {x : Int} (hi : i < N + m) (hx : (hnd N m i).held[0]? = some x) : (hnd N m i).put x = ((if i < m then (i : Int) + 1 else 0, 0), hnd N m (i + 1)) := by
  have hmem := List.mem_of_getElem? hx
  have hB : (blks 0 4 N).length = N := by rw [blks_len]; rfl
  unfold MP.put
  rw [if_pos hmem]
  by_cases hlt : i < m
  · have hd := seqS_drop hlt
    rw [if_pos hlt]
    unfold hnd
    rw [hd]
    dsimp only
    rw [show i + 1 - m = i - m by omega]
  · have hd : (seqS m).drop i = [] := List.drop_eq_nil_of_le (by rw [seqS_len]; omega)
    have hd2 : (seqS m).drop (i + 1) = [] := List.drop_eq_nil_of_le (by rw [seqS_len]; omega)
    have hup : Up (hnd N m i).held := (blks_up ⟨by decide, by decide⟩).sublist (List.drop_sublist ..)
    have hp := up_inj hup hx
    have hx2 : (blks 0 4 N)[i - m]? = some x := by
      have := hx
      unfold hnd at this
      rw [List.getElem?_drop] at this
      exact this
    rw [if_neg hlt]
    have hdl : delU (hnd N m i).held x = (blks 0 4 N).drop (i + 1 - m) := by
      unfold delU
      rw [← hp]
      show List.take 0 _ ++ List.drop 1 (List.drop (i - m) _) = _
      rw [List.take_zero, List.nil_append, List.drop_drop]
      congr 1
      omega
    rw [hdl]
    have htk : (hnd N m i).back ++ [x] = (blks 0 4 N).take (i + 1 - m) := by
      show (blks 0 4 N).take (i - m) ++ [x] = _
      rw [show i + 1 - m = (i - m) + 1 by omega, List.take_add_one, hx2]
      rfl
    rw [htk]
    have hS : (hnd N m i).S = [] := hd
    rw [hS]
    dsimp only
    unfold hnd
    rw [hd2]

set_option maxHeartbeats 1000000 in
theorem PoolHands_walk {e : World} {a0 a1 : Int} (w0 : (Lit.int .u8 a0).wf = true) (w1 : (Lit.int .u8 a1).wf = true) : sh6 a0 a1 (LawEnd e) e := by
  unfold sh6
  have h8 := wf_u8 w0
  have h9 := wf_u8 w1
  obtain ⟨N, hN, hN1, hN8⟩ : ∃ N : Nat, w64 (1 + (w64 (Int.tmod a0 8))) = (N : Int) ∧ 1 ≤ N ∧ N ≤ 8 := by
    refine ⟨(1 + a0 % 8).toNat, ?_, by omega, by omega⟩
    rw [Int.tmod_eq_emod_of_nonneg h8.1, w64_in (x := a0 % 8) (by omega) (by omega), w64_in (by omega) (by omega)]
    omega
  obtain ⟨M, hM, hM8⟩ : ∃ M : Nat, w64 (Int.tmod a1 9) = (M : Int) ∧ M ≤ 8 := by
    refine ⟨(a1 % 9).toNat, ?_, by omega⟩
    rw [Int.tmod_eq_emod_of_nonneg h9.1, w64_in (by omega) (by omega)]
    omega
  rw [hN, hM]
  have hs : stp 4 = 4 := by rfl
  have hg : mpGood 0 N 4 := by unfold mpGood; rw [hs]; omega
  have hB : (blks 0 4 N).length = N := by rw [blks_len]; rfl
  refine call8 (known_18 (Ok.start e) fun w1 h => ⟨(true, ()), enc_b rfl, ?_⟩)
  refine cs.no rfl ?_
  refine call9 (NewPool_mpf h (fun w2 h h0 => absurd hg h0) fun _ b w2 h => ⟨(some ⟨b, 0, none⟩, (0 : Int), ()), rfl, ?_⟩)
  refine fill_18 h hg fun w3 h => ?_
  refine lp.mk (fun t w' => ∃ k : Nat, @Eq Int t.1 ((k : Int) + 1) ∧ k ≤ M ∧ Ok e [mpfP b false 0 N 4 ⟨seqS k, N, [], blks 0 4 N⟩, old e] w') (fun t _ => M + 1 - t.1.toNat) ⟨0, rfl, Nat.zero_le _, h⟩ ?_
  clear h
  rintro ⟨(i' : Int), _⟩ w4 ⟨k, hk, hk1, h⟩
  dsimp only at hk
  subst hk
  refine cs.mk (fun hlt => ?_) (fun hge => ?_)
  · have hlt : k < M := by have := of_decide_eq_true hlt; dsimp only at this; omega
    have e1 := get_wait (N := N) (k := k) (by omega)
    refine call14 (Get_mpf h (fresh_ok hg (seqS_ok (by omega)) (Int.le_refl _)) fun w5 h => ⟨((0 : Int), false, (0 : Int), ()), by rw [e1]; rfl, ?_⟩)
    rw [e1] at h
    refine jn.bool false (fun J hJ => cs.no rfl hJ) ?_
    refine cs.no rfl ?_
    dsimp only
    rw [w64_in (x := (k : Int) + 1 + 1) (by omega) (by omega)]
    refine ⟨⟨k + 1, rfl, hlt, h⟩, ?_⟩
    show M + 1 - Int.toNat ((k : Int) + 1 + 1) < M + 1 - Int.toNat ((k : Int) + 1)
    omega
  have hge : M ≤ k := by have := of_decide_eq_false hge; dsimp only at this; omega
  obtain rfl : k = M := by omega
  rw [w64_in (x := (N : Int) + k) (by omega) (by omega)]
  have h0 : (⟨seqS k, N, [], blks 0 4 N⟩ : MP) = hnd N k 0 := by unfold hnd; simp
  rw [h0] at h
  refine lp.mk (fun t w' => ∃ i : Nat, t.1 = (i : Int) ∧ i ≤ N + k ∧ Ok e [mpfP b false 0 N 4 (hnd N k i), old e] w') (fun t _ => N + k - t.1.toNat) ⟨0, rfl, Nat.zero_le _, h⟩ ?_
  clear h
  rintro ⟨i', _⟩ w4 ⟨i, hi, hi1, h⟩
  dsimp only at hi
  subst hi
  have o1 := hnd_ok (N := N) (m := k) (i := i) ⟨hN1, hN8⟩ hM8
  have hhl : (hnd N k i).held.length = N - (i - k) := by show (List.drop _ _).length = _; rw [List.length_drop, hB]
  refine cs.mk (fun hlt => ?_) (fun hge => ?_)
  · have hlt : i < N + k := by have := of_decide_eq_true hlt; dsimp only at this; omega
    have hw : w64 ((i : Int) + 1) = ((i + 1 : Nat) : Int) := by rw [w64_in (by omega) (by omega)]; rfl
    refine call13 (Held_mpf h o1 fun s w5 hl h => ⟨(s, ()), rfl, ?_⟩)
    dsimp only
    refine cs.no (by rw [beq_eq_false_iff_ne]; omega) ?_
    refine ix_int h (Int.le_refl _) (by omega) fun c o x hx hcell => ldI.mk (hcell _ ⟨_, h⟩) ?_
    clear hcell
    rw [Int.toNat_zero] at hx
    have e1 := hnd_put hlt hx
    refine call12 (Put_mpf h.p1 o1 fun w6 h => ⟨((if i < k then (i : Int) + 1 else (0 : Int) : Int), (0 : Int), ()), by rw [e1]; rfl, ?_⟩)
    rw [e1] at h
    have o2 := hnd_ok (N := N) (m := k) (i := i + 1) ⟨hN1, hN8⟩ hM8
    have hhl2 : (hnd N k (i + 1)).held.length = N - (i + 1 - k) := by show (List.drop _ _).length = _; rw [List.length_drop, hB]
    dsimp only at h ⊢
    rw [hw]
    refine jn.at ((if i < k then (i : Int) + 1 else (0 : Int) : Int), ()) (fun w' => w6 = w') (fun J hJ => cs.mk (fun h1 => ?_) (fun h1 => ?_)) (fun w7 hw7 => ?_)
    · have h1 : i < k := by have := of_decide_eq_true h1; omega
      rw [if_pos h1] at hJ
      exact hJ _ rfl
    · have h1 : ¬ i < k := by have := of_decide_eq_false h1; omega
      rw [if_neg h1] at hJ
      exact hJ _ rfl
    subst hw7
    refine jn.bool false (fun J hJ => cs.no (by simp) hJ) ?_
    refine jn.at (false, ()) (fun w' => Ok e [slc 1 s (ints (hnd N k i).held), mpfP b false 0 N 4 (hnd N k (i + 1)), old e] w') (fun J hJ => cs.no rfl ?_) (fun w7 h => ?_)
    · refine call11 (Free_mpf (Ok.emb (h) (.cons (A := mpfP b _ _ _ _ _) (by with_reducible first | exact sl0 | exact .there sl0 | exact .there sl1 | exact .there sl2 | exact .there sl3 | exact .there sl4 | exact .there sl5 | exact .there sl6 | exact .there sl7 | exact .there sl8 | exact .there sl9 | exact .there sl10 | exact .there sl11 | exact .there sl12) (.same _))) o2 fun w7 h => ⟨((N : Int) - ((hnd N k (i + 1)).held.length : Int), ()), rfl, ?_⟩)
      refine jn.bool false (fun J1 hJ1 => cs.mk (fun h1 => ?_) (fun h1 => hJ1)) (hJ _ (h.emb (by repeat' (first | with_reducible exact Emb.same _ | exact Emb.nil _ | refine Emb.cons (by with_reducible first | exact sl0 | exact .there sl0 | exact .there sl1 | exact .there sl2 | exact .there sl3 | exact .there sl4 | exact .there sl5 | exact .there sl6 | exact .there sl7 | exact .there sl8 | exact .there sl9 | exact .there sl10 | exact .there sl11 | exact .there sl12) ?_ | refine Emb.skip ?_))))
      rw [w64_in (x := ((i + 1 : Nat) : Int) - (k : Int)) (by omega) (by omega), bne_iff_ne] at h1
      dsimp only at h1
      rw [hhl2] at h1
      rw [decide_eq_false (by omega)]
      exact hJ1
    refine jn.at (false, ()) (fun w' => Ok e [slc 1 s (ints (hnd N k i).held), mpfP b false 0 N 4 (hnd N k (i + 1)), old e] w') (fun J hJ => cs.no rfl ?_) (fun w8 h => ?_)
    · refine jn.at (false, ()) (fun w' => Ok e [slc 1 s (ints (hnd N k i).held), mpfP b false 0 N 4 (hnd N k (i + 1)), old e] w') (fun J1 hJ1 => cs.mk (fun h1 => ?_) (fun h1 => hJ1 _ h)) (fun w9 h => hJ _ h)
      have h1 : i < k := by have := of_decide_eq_true h1; omega
      refine call11 (Free_mpf (Ok.emb (h) (.cons (A := mpfP b _ _ _ _ _) (by with_reducible first | exact sl0 | exact .there sl0 | exact .there sl1 | exact .there sl2 | exact .there sl3 | exact .there sl4 | exact .there sl5 | exact .there sl6 | exact .there sl7 | exact .there sl8 | exact .there sl9 | exact .there sl10 | exact .there sl11 | exact .there sl12) (.same _))) o2 fun w7 h => ⟨((N : Int) - ((hnd N k (i + 1)).held.length : Int), ()), rfl, ?_⟩)
      dsimp only
      rw [hhl2, show ((N : Int) - ((N - (i + 1 - k) : Nat) : Int) != 0) = false by rw [bne_eq_false_iff_eq]; omega]
      exact hJ1 _ (h.emb (by repeat' (first | with_reducible exact Emb.same _ | exact Emb.nil _ | refine Emb.cons (by with_reducible first | exact sl0 | exact .there sl0 | exact .there sl1 | exact .there sl2 | exact .there sl3 | exact .there sl4 | exact .there sl5 | exact .there sl6 | exact .there sl7 | exact .there sl8 | exact .there sl9 | exact .there sl10 | exact .there sl11 | exact .there sl12) ?_ | refine Emb.skip ?_)))
    refine cs.no rfl ?_
    refine ⟨⟨i + 1, rfl, hlt, (h.emb (by repeat' (first | with_reducible exact Emb.same _ | exact Emb.nil _ | refine Emb.cons (by with_reducible first | exact sl0 | exact .there sl0 | exact .there sl1 | exact .there sl2 | exact .there sl3 | exact .there sl4 | exact .there sl5 | exact .there sl6 | exact .there sl7 | exact .there sl8 | exact .there sl9 | exact .there sl10 | exact .there sl11 | exact .there sl12) ?_ | refine Emb.skip ?_)))⟩, ?_⟩
    show N + k - Int.toNat ((i + 1 : Nat) : Int) < N + k - Int.toNat (i : Int)
    omega
  have hge : N + k ≤ i := by have := of_decide_eq_false hge; dsimp only at this; omega
  have hhd : (hnd N k i).S = [] := List.drop_eq_nil_of_le (by rw [seqS_len]; omega)
  refine call13 (Held_mpf h o1 fun s w5 hl h => ⟨(s, ()), rfl, ?_⟩)
  dsimp only
  refine jn.at (true, ()) (fun w' => Ok e [old e] w') (fun J hJ => cs.yes (by rw [beq_iff_eq]; omega) ?_) (fun w6 h => ⟨rfl, h⟩)
  obtain ⟨p, s1, t1, hs1, ht1, h⟩ := mpfE h.p1
  refine nn.mk (ldP.mk (by refine Ok.cellS h (by with_reducible first | exact sl0 | exact .there sl0 | exact .there sl1 | exact .there sl2 | exact .there sl3 | exact .there sl4 | exact .there sl5 | exact .there sl6 | exact .there sl7 | exact .there sl8 | exact .there sl9 | exact .there sl10 | exact .there sl11 | exact .there sl12) ?_; rfl) (nn.mk ?_))
  refine call15 (Len_order (Ok.emb (h) (.cons (A := lineP p _ _) (by with_reducible first | exact sl0 | exact .there sl0 | exact .there sl1 | exact .there sl2 | exact .there sl3 | exact .there sl4 | exact .there sl5 | exact .there sl6 | exact .there sl7 | exact .there sl8 | exact .there sl9 | exact .there sl10 | exact .there sl11 | exact .there sl12) (.same _))) ⟨(((hnd N k i).S.length : Int), ()), rfl, ?_⟩)
  dsimp only
  rw [hhd]
  exact hJ _ (h.emb (by repeat' (first | with_reducible exact Emb.same _ | exact Emb.nil _ | refine Emb.cons (by with_reducible first | exact sl0 | exact .there sl0 | exact .there sl1 | exact .there sl2 | exact .there sl3 | exact .there sl4 | exact .there sl5 | exact .there sl6 | exact .there sl7 | exact .there sl8 | exact .there sl9 | exact .there sl10 | exact .there sl11 | exact .there sl12) ?_ | refine Emb.skip ?_)))

end Go.Proofs.Ytbdgglhfmanfbaa.B
