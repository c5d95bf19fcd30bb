/- Laws of layer 13: from hand to hand; dropped tasks; the order of data. -/
import Derived.Test.YtadnjjnnkhofdaaLaws13b
namespace Go.Proofs.Ytadnjjnnkhofdaa.B
open Go
set_option linter.unusedVariables false

/-- those that came one by one -/
def seqS (n : Nat) : List (Int × Int) := (List.range n).map fun (k : Nat) => ((k : Int) + 1, (1 : Int))

theorem seqS_len (n : Nat) : (seqS n).length = n := by simp [seqS]

theorem seqS_ids (n : Nat) : ids (seqS n) = (List.range n).map fun (k : Nat) => (k : Int) + 1 := by simp [seqS, ids]

theorem seqS_mem {n : Nat} {i : Int} : i ∈ ids (seqS n) ↔ 1 ≤ i ∧ i ≤ n := by
  rw [seqS_ids, List.mem_map]
  constructor
  · rintro ⟨k, hk, rfl⟩
    have := List.mem_range.1 hk
    omega
  · intro h
    exact ⟨(i - 1).toNat, List.mem_range.2 (by omega), by omega⟩

theorem seqS_ok {n : Nat} (h : n ≤ 16) : okL (seqS n) := by
  refine ⟨?_, fun i hi => by have := seqS_mem.1 hi; omega⟩
  rw [seqS_ids]
  refine List.pairwise_map.2 (List.nodup_range.imp fun h h2 => h ?_)
  omega

theorem seqS_succ (n : Nat) : seqS (n + 1) = seqS n ++ [((n : Int) + 1, 1)] := by simp [seqS, List.range_succ]

theorem putL_false (l : List (Int × Int)) (x : Int × Int) : putL false l x = l ++ [x] := by simp [putL, putK]

theorem addL_seq {n : Nat} (h : n < 16) : addL false (seqS n) ((n : Int) + 1) 1 = (0, seqS (n + 1)) := by
  unfold addL
  rw [if_neg (by omega), if_neg (by rw [atI_pos, seqS_mem]; omega), putL_false, seqS_succ]

theorem seqS_drop {n i : Nat} (h : i < n) : (seqS n).drop i = ((i : Int) + 1, 1) :: (seqS n).drop (i + 1) := by
  rw [List.drop_eq_getElem_cons (by rw [seqS_len]; exact h)]
  simp [seqS]

theorem DataHands_walk {e : World} {a0 : Sl} {a1 : Bool} {xs : List Int} (ha : ArgI .i64 e a0 xs) : sh6 a0 a1 (LawEnd e) e := by
  unfold sh6
  have hr := rd_arg ha
  refine call9 (known_13 (Ok.start e) fun w1 h => ⟨(true, ()), enc_b rfl, ?_⟩)
  refine cs.no rfl ?_
  refine cs.mk (fun _ => ⟨rfl, h⟩) (fun hc => ?_)
  have hle : a0.len ≤ 8 := by have := of_decide_eq_false hc; omega
  refine call10 (New_dtq h (fun h0 => absurd (by omega) h0) fun h0 b w2 h => ⟨(some ⟨b, 0, none⟩, (0 : Int), ()), rfl, ?_⟩)
  have hw : ∀ n, n < a0.len → w64 ((n : Int) + 1) = ((n + 1 : Nat) : Int) := fun n _ => by rw [w64_in (by omega) (by omega)]; rfl
  cases a1 with
  | true =>
    refine lp.mk (fun t w' => ∃ (n : Nat) (g : Int → Int), t.1 = (n : Int) ∧ n ≤ a0.len ∧ (∀ (k : Nat) x, k < n → xs[k]? = some x → g ((k : Int) + 1) = x) ∧ Ok e [dtqP b false 0 ⟨seqS n, [], [], g⟩, old e] w')
      (fun t _ => a0.len - t.1.toNat) ⟨0, fun _ => 0, rfl, Nat.zero_le _, fun k x hk => absurd hk (Nat.not_lt_zero _), h⟩ ?_
    clear h
    rintro ⟨i, _⟩ w3 ⟨n, g, hn, hn1, hg, h⟩
    dsimp only at hn
    subst hn
    refine cs.mk (fun hlt => ?_) (fun hge => ?_)
    · have hlt : n < a0.len := by have := of_decide_eq_true hlt; dsimp only at this; omega
      have ho : DQ.ok 0 ⟨seqS n, [], [], g⟩ := ⟨seqS_ok (by omega), okL_nil, Int.le_refl _, by decide⟩
      refine cs.yes rfl ?_
      refine ix_rd hr (by simp) (by simpa using hlt) fun c o x hx hc => ldI.mk (hc _ _ h.p1) ?_
      rw [Int.toNat_natCast] at hx
      have hs : DQ.send false 0 ⟨seqS n, [], [], g⟩ ((n : Int) + 1) 1 x = ((false, 0, 0), ⟨seqS (n + 1), [], [], fun i => if i = (n : Int) + 1 then x else g i⟩) := by
        unfold DQ.send
        rw [if_neg (by simp [DQ.trySend])]
        simp only [addL_seq (show n < 16 by omega)]
        rfl
      have hw1 : w64 ((n : Int) + 1) = (n : Int) + 1 := hw n hlt
      dsimp only
      rw [hw1]
      refine call12 (Send_dtq h ho fun w4 h => ⟨(false, (0 : Int), (0 : Int), ()), by rw [hs]; rfl, ?_⟩)
      rw [hs] at h
      refine jn.bool false (fun J hJ => cs.no rfl hJ) ?_
      refine jn.bool false (fun J hJ => cs.no rfl hJ) ?_
      refine cs.no rfl ⟨⟨n + 1, _, rfl, hlt, fun k y hk hy => ?_, h⟩, ?_⟩
      · by_cases hkn : k = n
        · subst hkn
          rw [hx] at hy
          cases hy
          simp
        · rw [if_neg (by omega)]
          exact hg k y (by omega) hy
      · show a0.len - Int.toNat ((n : Int) + 1) < a0.len - Int.toNat (n : Int)
        omega
    have hge : n = a0.len := by have := of_decide_eq_false hge; dsimp only at this; omega
    subst hge
    refine lp.mk (fun t w' => ∃ m : Nat, t.1 = (m : Int) ∧ m ≤ a0.len ∧ Ok e [dtqP b false 0 ⟨(seqS a0.len).drop m, [], [], g⟩, old e] w')
      (fun t _ => a0.len - t.1.toNat) ⟨0, rfl, Nat.zero_le _, h⟩ ?_
    clear h
    rintro ⟨i, _⟩ w4 ⟨m, hm, hm1, h⟩
    dsimp only at hm
    subst hm
    have ho : DQ.ok 0 ⟨(seqS a0.len).drop m, [], [], g⟩ := ⟨okL_sub (seqS_ok (by omega)) (List.drop_sublist ..), okL_nil, Int.le_refl _, by decide⟩
    refine cs.mk (fun hlt => ?_) (fun hge => ?_)
    · have hlt : m < a0.len := by have := of_decide_eq_true hlt; dsimp only at this; omega
      refine cs.yes rfl ?_
      obtain ⟨x, hx⟩ : ∃ x, xs[m]? = some x := ⟨_, List.getElem?_eq_getElem (by rw [hr.1]; exact hlt)⟩
      have hd := seqS_drop hlt
      rw [hd] at h ho
      have hs : ∀ task pri, DQ.recv ⟨((m : Int) + 1, 1) :: (seqS a0.len).drop (m + 1), [], [], g⟩ task pri = (((x, true, (m : Int) + 1), 0), ⟨(seqS a0.len).drop (m + 1), [], [], g⟩) := fun task pri => by
        unfold DQ.recv DQ.tryRecv
        simp only [if_true]
        rw [hg m x hlt hx]
      refine call18 (Recv_dtq h ho fun w5 h => ⟨((x, true, (m : Int) + 1, ()), (0 : Int), ()), by rw [hs]; rfl, ?_⟩)
      rw [hs] at h
      refine al.mk h fun c w6 h => ?_
      dsimp only
      (repeat (first | with_reducible refine dr.mk h fun _ h => ?_ | with_reducible refine nn.mk ?_ | ((first | with_reducible apply ldI.mk | with_reducible apply ldB.mk | with_reducible apply ldP.mk | with_reducible apply ldS.mk | with_reducible apply ldM.mk | with_reducible apply ldF.mk | with_reducible apply ldG.mk); (· exact (by refine Ok.cellS h (by with_reducible first | exact sl0 | exact .there sl0 | exact .there sl1 | exact .there sl2 | exact .there sl3 | exact .there sl4 | exact .there sl5 | exact .there sl6 | exact .there sl7 | exact .there sl8 | exact .there sl9 | exact .there sl10 | exact .there sl11 | exact .there sl12) ?_; rfl))) | (refine st1.mk (Ok.bring h (by with_reducible first | exact sl0 | exact .there sl0 | exact .there sl1 | exact .there sl2 | exact .there sl3 | exact .there sl4 | exact .there sl5 | exact .there sl6 | exact .there sl7 | exact .there sl8 | exact .there sl9 | exact .there sl10 | exact .there sl11 | exact .there sl12)) (by simp) fun _ h => ?_; dsimp only [List.set] at h)))
      have hw1 : w64 ((m : Int) + 1) = (m : Int) + 1 := hw m hlt
      rw [hw1]
      refine jn.bool (false) (fun J hJ => ?_) ?_
      · (repeat (first | with_reducible refine dr.mk h fun _ h => ?_ | with_reducible refine nn.mk ?_ | ((first | with_reducible apply ldI.mk | with_reducible apply ldB.mk | with_reducible apply ldP.mk | with_reducible apply ldS.mk | with_reducible apply ldM.mk | with_reducible apply ldF.mk | with_reducible apply ldG.mk); (· exact (by refine Ok.cellS h (by with_reducible first | exact sl0 | exact .there sl0 | exact .there sl1 | exact .there sl2 | exact .there sl3 | exact .there sl4 | exact .there sl5 | exact .there sl6 | exact .there sl7 | exact .there sl8 | exact .there sl9 | exact .there sl10 | exact .there sl11 | exact .there sl12) ?_; rfl))) | (refine st1.mk (Ok.bring h (by with_reducible first | exact sl0 | exact .there sl0 | exact .there sl1 | exact .there sl2 | exact .there sl3 | exact .there sl4 | exact .there sl5 | exact .there sl6 | exact .there sl7 | exact .there sl8 | exact .there sl9 | exact .there sl10 | exact .there sl11 | exact .there sl12)) (by simp) fun _ h => ?_; dsimp only [List.set] at h)))
        refine cs.no rfl ?_
        (repeat (first | with_reducible refine dr.mk h fun _ h => ?_ | with_reducible refine nn.mk ?_ | ((first | with_reducible apply ldI.mk | with_reducible apply ldB.mk | with_reducible apply ldP.mk | with_reducible apply ldS.mk | with_reducible apply ldM.mk | with_reducible apply ldF.mk | with_reducible apply ldG.mk); (· exact (by refine Ok.cellS h (by with_reducible first | exact sl0 | exact .there sl0 | exact .there sl1 | exact .there sl2 | exact .there sl3 | exact .there sl4 | exact .there sl5 | exact .there sl6 | exact .there sl7 | exact .there sl8 | exact .there sl9 | exact .there sl10 | exact .there sl11 | exact .there sl12) ?_; rfl))) | (refine st1.mk (Ok.bring h (by with_reducible first | exact sl0 | exact .there sl0 | exact .there sl1 | exact .there sl2 | exact .there sl3 | exact .there sl4 | exact .there sl5 | exact .there sl6 | exact .there sl7 | exact .there sl8 | exact .there sl9 | exact .there sl10 | exact .there sl11 | exact .there sl12)) (by simp) fun _ h => ?_; dsimp only [List.set] at h)))
        refine ix_rd hr (by simp) (by simpa using hlt) fun c2 o y hy hc => ldI.mk (hc _ _ (Ok.emb (h) (.cons (A := old e) (by with_reducible first | exact sl0 | exact .there sl0 | exact .there sl1 | exact .there sl2 | exact .there sl3 | exact .there sl4 | exact .there sl5 | exact .there sl6 | exact .there sl7 | exact .there sl8 | exact .there sl9 | exact .there sl10 | exact .there sl11 | exact .there sl12) (.same _)))) ?_
        rw [Int.toNat_natCast, hx] at hy
        cases hy
        refine cs.no (by simp) ?_
        (repeat (first | with_reducible refine dr.mk h fun _ h => ?_ | with_reducible refine nn.mk ?_ | ((first | with_reducible apply ldI.mk | with_reducible apply ldB.mk | with_reducible apply ldP.mk | with_reducible apply ldS.mk | with_reducible apply ldM.mk | with_reducible apply ldF.mk | with_reducible apply ldG.mk); (· exact (by refine Ok.cellS h (by with_reducible first | exact sl0 | exact .there sl0 | exact .there sl1 | exact .there sl2 | exact .there sl3 | exact .there sl4 | exact .there sl5 | exact .there sl6 | exact .there sl7 | exact .there sl8 | exact .there sl9 | exact .there sl10 | exact .there sl11 | exact .there sl12) ?_; rfl))) | (refine st1.mk (Ok.bring h (by with_reducible first | exact sl0 | exact .there sl0 | exact .there sl1 | exact .there sl2 | exact .there sl3 | exact .there sl4 | exact .there sl5 | exact .there sl6 | exact .there sl7 | exact .there sl8 | exact .there sl9 | exact .there sl10 | exact .there sl11 | exact .there sl12)) (by simp) fun _ h => ?_; dsimp only [List.set] at h)))
        refine cs.no (bne_self_eq_false ((m : Int) + 1)) hJ
      refine cs.no rfl ⟨⟨m + 1, rfl, hlt, (h.emb (by repeat' (first | with_reducible exact Emb.same _ | exact Emb.nil _ | refine Emb.cons (by with_reducible first | exact sl0 | exact .there sl0 | exact .there sl1 | exact .there sl2 | exact .there sl3 | exact .there sl4 | exact .there sl5 | exact .there sl6 | exact .there sl7 | exact .there sl8 | exact .there sl9 | exact .there sl10 | exact .there sl11 | exact .there sl12) ?_ | refine Emb.skip ?_)))⟩, ?_⟩
      show a0.len - Int.toNat ((m : Int) + 1) < a0.len - Int.toNat (m : Int)
      omega
    have hge : m = a0.len := by have := of_decide_eq_false hge; dsimp only at this; omega
    subst hge
    rw [List.drop_eq_nil_of_le (by rw [seqS_len]; exact Nat.le_refl _)] at h ho
    refine call19 (Senders_dtq h ho fun s1 w7 hs1 h => ⟨(s1, ()), rfl, ?_⟩)
    refine call20 (Receivers_dtq (Ok.emb (h) (.cons (A := dtqP b _ _ _) (by with_reducible first | exact sl0 | exact .there sl0 | exact .there sl1 | exact .there sl2 | exact .there sl3 | exact .there sl4 | exact .there sl5 | exact .there sl6 | exact .there sl7 | exact .there sl8 | exact .there sl9 | exact .there sl10 | exact .there sl11 | exact .there sl12) (.same _))) ho fun s2 w8 hs2 h => ⟨(s2, ()), rfl, ?_⟩)
    refine call16 (Data_dtq (Ok.emb (h) (.cons (A := dtqP b _ _ _) (by with_reducible first | exact sl0 | exact .there sl0 | exact .there sl1 | exact .there sl2 | exact .there sl3 | exact .there sl4 | exact .there sl5 | exact .there sl6 | exact .there sl7 | exact .there sl8 | exact .there sl9 | exact .there sl10 | exact .there sl11 | exact .there sl12) (.same _))) ho fun s3 w8 hs3 h => ⟨(s3, ()), rfl, ?_⟩)
    dsimp only at hs1 hs2 hs3 ⊢
    rw [hs1, hs2, hs3]
    exact ⟨rfl, (h.emb (by repeat' (first | with_reducible exact Emb.same _ | exact Emb.nil _ | refine Emb.cons (by with_reducible first | exact sl0 | exact .there sl0 | exact .there sl1 | exact .there sl2 | exact .there sl3 | exact .there sl4 | exact .there sl5 | exact .there sl6 | exact .there sl7 | exact .there sl8 | exact .there sl9 | exact .there sl10 | exact .there sl11 | exact .there sl12) ?_ | refine Emb.skip ?_)))⟩
  | false =>
    refine lp.mk (fun t w' => ∃ n : Nat, t.1 = (n : Int) ∧ n ≤ a0.len ∧ Ok e [dtqP b false 0 ⟨[], seqS n, [], fun _ => 0⟩, old e] w')
      (fun t _ => a0.len - t.1.toNat) ⟨0, rfl, Nat.zero_le _, h⟩ ?_
    clear h
    rintro ⟨i, _⟩ w3 ⟨n, hn, hn1, h⟩
    dsimp only at hn
    subst hn
    refine cs.mk (fun hlt => ?_) (fun hge => ?_)
    · have hlt : n < a0.len := by have := of_decide_eq_true hlt; dsimp only at this; omega
      have ho : DQ.ok 0 ⟨[], seqS n, [], fun _ => 0⟩ := ⟨okL_nil, seqS_ok (by omega), Int.le_refl _, by decide⟩
      refine cs.no rfl ?_
      have hs : DQ.recv ⟨[], seqS n, [], fun _ => 0⟩ ((n : Int) + 1) 1 = (((0, false, 0), 0), ⟨[], seqS (n + 1), [], fun _ => 0⟩) := by
        unfold DQ.recv
        rw [if_neg (by simp [DQ.tryRecv])]
        simp only [addL_seq (show n < 16 by omega)]
      have hw1 : w64 ((n : Int) + 1) = (n : Int) + 1 := hw n hlt
      dsimp only
      rw [hw1]
      refine call18 (Recv_dtq h ho fun w4 h => ⟨(((0 : Int), false, (0 : Int), ()), (0 : Int), ()), by rw [hs]; rfl, ?_⟩)
      rw [hs] at h
      refine al.mk h fun c w6 h => ?_
      dsimp only
      (repeat (first | with_reducible refine dr.mk h fun _ h => ?_ | with_reducible refine nn.mk ?_ | ((first | with_reducible apply ldI.mk | with_reducible apply ldB.mk | with_reducible apply ldP.mk | with_reducible apply ldS.mk | with_reducible apply ldM.mk | with_reducible apply ldF.mk | with_reducible apply ldG.mk); (· exact (by refine Ok.cellS h (by with_reducible first | exact sl0 | exact .there sl0 | exact .there sl1 | exact .there sl2 | exact .there sl3 | exact .there sl4 | exact .there sl5 | exact .there sl6 | exact .there sl7 | exact .there sl8 | exact .there sl9 | exact .there sl10 | exact .there sl11 | exact .there sl12) ?_; rfl))) | (refine st1.mk (Ok.bring h (by with_reducible first | exact sl0 | exact .there sl0 | exact .there sl1 | exact .there sl2 | exact .there sl3 | exact .there sl4 | exact .there sl5 | exact .there sl6 | exact .there sl7 | exact .there sl8 | exact .there sl9 | exact .there sl10 | exact .there sl11 | exact .there sl12)) (by simp) fun _ h => ?_; dsimp only [List.set] at h)))
      refine jn.bool false (fun J hJ => cs.no rfl hJ) ?_
      refine cs.no rfl ⟨⟨n + 1, rfl, hlt, (h.emb (by repeat' (first | with_reducible exact Emb.same _ | exact Emb.nil _ | refine Emb.cons (by with_reducible first | exact sl0 | exact .there sl0 | exact .there sl1 | exact .there sl2 | exact .there sl3 | exact .there sl4 | exact .there sl5 | exact .there sl6 | exact .there sl7 | exact .there sl8 | exact .there sl9 | exact .there sl10 | exact .there sl11 | exact .there sl12) ?_ | refine Emb.skip ?_)))⟩, ?_⟩
      show a0.len - Int.toNat ((n : Int) + 1) < a0.len - Int.toNat (n : Int)
      omega
    have hge : n = a0.len := by have := of_decide_eq_false hge; dsimp only at this; omega
    subst hge
    refine lp.mk (fun t w' => ∃ m : Nat, t.1 = (m : Int) ∧ m ≤ a0.len ∧ Ok e [dtqP b false 0 ⟨[], (seqS a0.len).drop m, [], fun _ => 0⟩, old e] w')
      (fun t _ => a0.len - t.1.toNat) ⟨0, rfl, Nat.zero_le _, h⟩ ?_
    clear h
    rintro ⟨i, _⟩ w4 ⟨m, hm, hm1, h⟩
    dsimp only at hm
    subst hm
    have ho : DQ.ok 0 ⟨[], (seqS a0.len).drop m, [], fun _ => 0⟩ := ⟨okL_nil, okL_sub (seqS_ok (by omega)) (List.drop_sublist ..), Int.le_refl _, by decide⟩
    refine cs.mk (fun hlt => ?_) (fun hge => ?_)
    · have hlt : m < a0.len := by have := of_decide_eq_true hlt; dsimp only at this; omega
      refine cs.no rfl ?_
      have hd := seqS_drop hlt
      rw [hd] at h ho
      refine ix_rd hr (by simp) (by simpa using hlt) fun c2 o x hx hc => ldI.mk (hc _ _ (Ok.emb (h) (.cons (A := old e) (by with_reducible first | exact sl0 | exact .there sl0 | exact .there sl1 | exact .there sl2 | exact .there sl3 | exact .there sl4 | exact .there sl5 | exact .there sl6 | exact .there sl7 | exact .there sl8 | exact .there sl9 | exact .there sl10 | exact .there sl11 | exact .there sl12) (.same _)))) ?_
      have hs : ∀ task pri, DQ.send false 0 ⟨[], ((m : Int) + 1, 1) :: (seqS a0.len).drop (m + 1), [], fun _ => 0⟩ task pri x = ((true, (m : Int) + 1, 0), ⟨[], (seqS a0.len).drop (m + 1), [], fun _ => 0⟩) := fun task pri => by
        unfold DQ.send DQ.trySend
        simp only [if_true]
      refine call12 (Send_dtq h ho fun w5 h => ⟨(true, (m : Int) + 1, (0 : Int), ()), by rw [hs]; rfl, ?_⟩)
      rw [hs] at h
      have hw1 : w64 ((m : Int) + 1) = (m : Int) + 1 := hw m hlt
      dsimp only
      rw [hw1]
      refine jn.bool false (fun J hJ => cs.no rfl ((congrArg (fun (c : Bool) => J (c, ()) w5) (bne_self_eq_false ((m : Int) + 1))).mpr hJ)) ?_
      refine jn.bool false (fun J hJ => cs.no rfl hJ) ?_
      refine cs.no rfl ⟨⟨m + 1, rfl, hlt, (h.emb (by repeat' (first | with_reducible exact Emb.same _ | exact Emb.nil _ | refine Emb.cons (by with_reducible first | exact sl0 | exact .there sl0 | exact .there sl1 | exact .there sl2 | exact .there sl3 | exact .there sl4 | exact .there sl5 | exact .there sl6 | exact .there sl7 | exact .there sl8 | exact .there sl9 | exact .there sl10 | exact .there sl11 | exact .there sl12) ?_ | refine Emb.skip ?_)))⟩, ?_⟩
      show a0.len - Int.toNat ((m : Int) + 1) < a0.len - Int.toNat (m : Int)
      omega
    have hge : m = a0.len := by have := of_decide_eq_false hge; dsimp only at this; omega
    subst hge
    rw [List.drop_eq_nil_of_le (by rw [seqS_len]; exact Nat.le_refl _)] at h ho
    refine call19 (Senders_dtq h ho fun s1 w7 hs1 h => ⟨(s1, ()), rfl, ?_⟩)
    refine call20 (Receivers_dtq (Ok.emb (h) (.cons (A := dtqP b _ _ _) (by with_reducible first | exact sl0 | exact .there sl0 | exact .there sl1 | exact .there sl2 | exact .there sl3 | exact .there sl4 | exact .there sl5 | exact .there sl6 | exact .there sl7 | exact .there sl8 | exact .there sl9 | exact .there sl10 | exact .there sl11 | exact .there sl12) (.same _))) ho fun s2 w8 hs2 h => ⟨(s2, ()), rfl, ?_⟩)
    refine call16 (Data_dtq (Ok.emb (h) (.cons (A := dtqP b _ _ _) (by with_reducible first | exact sl0 | exact .there sl0 | exact .there sl1 | exact .there sl2 | exact .there sl3 | exact .there sl4 | exact .there sl5 | exact .there sl6 | exact .there sl7 | exact .there sl8 | exact .there sl9 | exact .there sl10 | exact .there sl11 | exact .there sl12) (.same _))) ho fun s3 w8 hs3 h => ⟨(s3, ()), rfl, ?_⟩)
    dsimp only at hs1 hs2 hs3 ⊢
    rw [hs1, hs2, hs3]
    exact ⟨rfl, (h.emb (by repeat' (first | with_reducible exact Emb.same _ | exact Emb.nil _ | refine Emb.cons (by with_reducible first | exact sl0 | exact .there sl0 | exact .there sl1 | exact .there sl2 | exact .there sl3 | exact .there sl4 | exact .there sl5 | exact .there sl6 | exact .there sl7 | exact .there sl8 | exact .there sl9 | exact .there sl10 | exact .there sl11 | exact .there sl12) ?_ | refine Emb.skip ?_)))⟩

end Go.Proofs.Ytadnjjnnkhofdaa.B
