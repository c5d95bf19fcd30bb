/- Laws of layer 13: dropped tasks; the order of data. -/
import Derived.Test.YtadnjjnnkhofdaaLaws13c
namespace Go.Proofs.Ytadnjjnnkhofdaa.B
open Go
set_option linter.unusedVariables false

/-- all that will come -/
def outs (q : DQ) : List Int := q.D ++ q.S.map fun x => q.g x.1

theorem outs_none {q : DQ} (h : outs q = []) : q.tryRecv = ((0, false, 0), q) := by
  obtain ⟨S, V, D, g⟩ := q
  unfold outs at h
  cases D with
  | cons d D => simp at h
  | nil =>
    cases S with
    | cons x S => simp at h
    | nil => rfl

theorem outs_some {q : DQ} {d : Int} {r : List Int} (h : outs q = d :: r) : q.tryRecv.1 = (d, true, (q.S.head?.getD (0, 0)).1) ∧ outs q.tryRecv.2 = r ∧ q.tryRecv.2.S = q.S.tail ∧ q.tryRecv.2.V = q.V ∧ (q.S ≠ [] → q.tryRecv.2.D.length = q.D.length) := by
  obtain ⟨S, V, D, g⟩ := q
  unfold outs at h
  cases D with
  | cons c D =>
    simp only [List.cons_append, List.cons.injEq] at h
    obtain ⟨rfl, h⟩ := h
    cases S with
    | cons x S => exact ⟨rfl, by simp only [DQ.tryRecv, outs]; rw [← h]; simp, rfl, rfl, fun _ => by simp [DQ.tryRecv]⟩
    | nil => exact ⟨rfl, by simp only [DQ.tryRecv, outs]; rw [← h], rfl, rfl, fun h => absurd rfl h⟩
  | nil =>
    cases S with
    | cons x S =>
      simp only [List.nil_append, List.map_cons, List.cons.injEq] at h
      obtain ⟨rfl, h⟩ := h
      exact ⟨rfl, by simp only [DQ.tryRecv, outs]; rw [← h]; simp, rfl, rfl, fun _ => rfl⟩
    | nil => simp at h

theorem atI_cons (x : Int × Int) (l : List (Int × Int)) (j : Int) : atI (x :: l) j = if x.1 = j then 0 else if atI l j < 0 then -1 else atI l j + 1 := by
  by_cases h : x.1 = j
  · rw [if_pos h]
    exact atI_some (n := 0) (p := x) rfl h (fun m hm => absurd hm (Nat.not_lt_zero _))
  · rw [if_neg h]
    by_cases h2 : atI l j < 0
    · rw [if_pos h2]
      refine atI_none fun p hp => ?_
      rcases List.mem_cons.1 hp with rfl | hp
      · exact h
      · exact fun he => (atI_neg.1 h2) (List.mem_map.2 ⟨p, hp, he⟩)
    · rw [if_neg h2]
      unfold atI at h2 ⊢
      rw [List.findIdx?_cons]
      simp only [h, beq_iff_eq]
      cases hf : l.findIdx? (fun p => p.1 == j) with
      | none => rw [hf] at h2; exact absurd (by decide) h2
      | some i => simp

theorem rmL_cons (x : Int × Int) (l : List (Int × Int)) (j : Int) : rmL (x :: l) j = if x.1 = j then l else x :: rmL l j := by
  unfold rmL
  rw [atI_cons]
  by_cases h : x.1 = j
  · rw [if_pos h, if_pos h, if_neg (by decide)]; rfl
  · rw [if_neg h, if_neg h]
    by_cases h2 : atI l j < 0
    · rw [if_pos h2, if_pos (by decide), if_pos h2]
    · rw [if_neg h2, if_neg (by omega), if_neg h2, show (atI l j + 1).toNat = (atI l j).toNat + 1 by omega]
      simp [rmAt]

theorem rmL_filter {l : List (Int × Int)} {j : Int} (h : (ids l).Nodup) : ids (rmL l j) = (ids l).filter (· ≠ j) := by
  induction l with
  | nil => rfl
  | cons x l ih =>
    rw [ids, List.map_cons] at h
    have hn := List.nodup_cons.1 h
    rw [rmL_cons]
    by_cases hx : x.1 = j
    · rw [if_pos hx]
      simp only [ids, List.map_cons]
      rw [List.filter_cons_of_neg (by simpa using hx)]
      refine (List.filter_eq_self.2 fun a ha => ?_).symm
      simp only [ne_eq, decide_not, Bool.not_eq_true', decide_eq_false_iff_not]
      rintro rfl
      exact hn.1 (hx ▸ ha)
    · rw [if_neg hx]
      simp only [ids, List.map_cons]
      rw [List.filter_cons_of_pos (by simpa using hx)]
      exact congrArg _ (ih hn.2)

theorem DataDrops_walk {e : World} {a0 a1 a2 : Int} (w0 : (Lit.int .u8 a0).wf = true) (_ : (Lit.int .i64 a1).wf = true) (_ : (Lit.int .i64 a2).wf = true) : sh3 a0 a1 a2 (LawEnd e) e := by
  unfold sh3
  have h8 := wf_u8 w0
  obtain ⟨K, hK, hK4⟩ : ∃ K : Nat, w64 (Int.tmod a0 5) = (K : Int) ∧ K ≤ 4 := by
    refine ⟨(a0 % 5).toNat, ?_, by omega⟩
    rw [Int.tmod_eq_emod_of_nonneg h8.1, w64_in (by omega) (by omega)]
    omega
  rw [hK]
  refine call9 (known_13 (Ok.start e) fun w1 h => ⟨(true, ()), enc_b rfl, ?_⟩)
  refine cs.no rfl ?_
  refine jn.bool (decide (a1 < 1 ∨ a1 > 10)) (fun J hJ => ?_) ?_
  · refine cs.mk (fun h1 => ?_) (fun h1 => ?_)
    · have h1 := of_decide_eq_true h1
      rw [decide_eq_true (.inl h1)] at hJ
      exact hJ
    · have h1 := of_decide_eq_false h1
      rw [show decide (a1 > 10) = decide (a1 < 1 ∨ a1 > 10) from decide_eq_decide.2 (by omega)]
      exact hJ
  refine jn.bool (decide (a1 < 1 ∨ a1 > 10 ∨ a2 < 1)) (fun J hJ => ?_) ?_
  · refine cs.mk (fun h1 => ?_) (fun h1 => ?_)
    · have h1 := of_decide_eq_true h1
      rw [decide_eq_true (by omega)] at hJ
      exact hJ
    · have h1 := of_decide_eq_false h1
      rw [show decide (a2 < 1) = decide (a1 < 1 ∨ a1 > 10 ∨ a2 < 1) from decide_eq_decide.2 (by omega)]
      exact hJ
  refine jn.bool (decide (a1 < 1 ∨ a1 > 10 ∨ a2 < 1 ∨ a2 > a1)) (fun J hJ => ?_) ?_
  · refine cs.mk (fun h1 => ?_) (fun h1 => ?_)
    · have h1 := of_decide_eq_true h1
      rw [decide_eq_true (by omega)] at hJ
      exact hJ
    · have h1 := of_decide_eq_false h1
      rw [show decide (a2 > a1) = decide (a1 < 1 ∨ a1 > 10 ∨ a2 < 1 ∨ a2 > a1) from decide_eq_decide.2 (by omega)]
      exact hJ
  refine cs.mk (fun _ => ⟨rfl, h⟩) (fun hc => ?_)
  have hc := of_decide_eq_false hc
  obtain ⟨N, rfl⟩ : ∃ N : Nat, a1 = (N : Int) := ⟨a1.toNat, by omega⟩
  refine call10 (New_dtq h (fun h0 => absurd (by omega) h0) fun h0 b w2 h => ⟨(some ⟨b, 0, none⟩, (0 : Int), ()), rfl, ?_⟩)
  have hw : ∀ n : Nat, n < 100 → w64 ((n : Int) + 1) = ((n + 1 : Nat) : Int) := fun n _ => by rw [w64_in (by omega) (by omega)]; rfl
  let dk : Nat → List Int := fun n => (List.range n).map fun (k : Nat) => 100 + (k : Int)
  have dkl : ∀ n, (dk n).length = n := fun n => by simp [dk]
  have dks : ∀ n, dk (n + 1) = dk n ++ [100 + (n : Int)] := fun n => by simp [dk, List.range_succ]
  refine lp.mk (fun t w' => ∃ n : Nat, t.1 = (n : Int) ∧ n ≤ K ∧ Ok e [dtqP b false K ⟨[], [], dk n, fun _ => 0⟩, old e] w')
    (fun t _ => K - t.1.toNat) ⟨0, rfl, Nat.zero_le _, h⟩ ?_
  clear h
  rintro ⟨i, _⟩ w3 ⟨n, hn, hn1, h⟩
  dsimp only at hn
  subst hn
  refine cs.mk (fun hlt => ?_) (fun hge => ?_)
  · have hlt : n < K := by have := of_decide_eq_true hlt; dsimp only at this; omega
    have ho : DQ.ok K ⟨[], [], dk n, fun _ => 0⟩ := ⟨okL_nil, okL_nil, by show ((dk n).length : Int) ≤ K; rw [dkl]; omega, by omega⟩
    have ht : DQ.trySend K ⟨[], [], dk n, fun _ => 0⟩ (100 + (n : Int)) = ((true, 0), ⟨[], [], dk (n + 1), fun _ => 0⟩) := by
      unfold DQ.trySend
      rw [dks]
      exact if_neg (by show ¬ ((dk n).length : Int) ≥ K; rw [dkl]; omega)
    dsimp only
    rw [w64_in (x := 100 + (n : Int)) (by omega) (by omega), hw n (by omega)]
    refine call11 (TrySend_dtq h ho fun w4 h => ⟨(true, (0 : Int), ()), by rw [ht]; rfl, ?_⟩)
    rw [ht] at h
    refine ⟨⟨n + 1, rfl, hlt, h⟩, ?_⟩
    show K - Int.toNat ((n + 1 : Nat) : Int) < K - Int.toNat (n : Int)
    omega
  have hge : n = K := by have := of_decide_eq_false hge; dsimp only at this; omega
  subst hge
  refine lp.mk (fun t w' => ∃ (m : Nat) (g : Int → Int), @Eq Int t.1 ((m : Int) + 1) ∧ m ≤ N ∧ (∀ i ∈ ids (seqS m), g i = i) ∧ Ok e [dtqP b false n ⟨seqS m, [], dk n, g⟩, old e] w')
    (fun t _ => N + 1 - t.1.toNat) ⟨0, fun _ => 0, rfl, Nat.zero_le _, fun i hi => by simp [seqS] at hi, h⟩ ?_
  clear h
  rintro ⟨(i : Int), _⟩ w4 ⟨m, g, hm, hm1, hg, h⟩
  dsimp only at hm
  subst hm
  have ho : DQ.ok n ⟨seqS m, [], dk n, g⟩ := ⟨seqS_ok (by omega), okL_nil, by show ((dk n).length : Int) ≤ n; rw [dkl]; exact Int.le_refl _, by omega⟩
  refine cs.mk (fun hlt => ?_) (fun hge => ?_)
  · have hlt : m < N := by have := of_decide_eq_true hlt; dsimp only at this; omega
    have hs : DQ.send false n ⟨seqS m, [], dk n, g⟩ ((m : Int) + 1) 1 ((m : Int) + 1) = ((false, 0, 0), ⟨seqS (m + 1), [], dk n, fun i => if i = (m : Int) + 1 then (m : Int) + 1 else g i⟩) := by
      unfold DQ.send
      rw [if_neg (by simp [DQ.trySend, dkl])]
      simp only [addL_seq (show m < 16 by omega)]
      rfl
    dsimp only
    rw [w64_in (x := (m : Int) + 1 + 1) (by omega) (by omega)]
    refine call12 (Send_dtq h ho fun w4 h => ⟨(false, (0 : Int), (0 : Int), ()), by rw [hs]; rfl, ?_⟩)
    rw [hs] at h
    refine ⟨⟨m + 1, _, rfl, hlt, fun i hi => ?_, h⟩, ?_⟩
    · by_cases he : i = (m : Int) + 1
      · rw [if_pos he, he]
      · rw [if_neg he]
        have := seqS_mem.1 hi
        exact hg i (seqS_mem.2 (by omega))
    · show N + 1 - Int.toNat ((m : Int) + 1 + 1) < N + 1 - Int.toNat ((m : Int) + 1)
      omega
  have hge : m = N := by have := of_decide_eq_false hge; dsimp only at this; omega
  subst hge
  have hin : 0 ≤ atI (seqS m) a2 := atI_pos.2 (seqS_mem.2 (by omega))
  have hd1 : DQ.drop ⟨seqS m, [], dk n, g⟩ a2 = (true, ⟨rmL (seqS m) a2, [], dk n, g⟩) := by unfold DQ.drop; rw [if_pos hin]
  refine call13 (Drop_dtq h ho fun w5 h => ⟨(true, ()), by rw [hd1]; rfl, ?_⟩)
  have o1 := drop_ok (task := a2) ho
  rw [hd1] at h o1
  dsimp only at h o1
  have hout : atI (rmL (seqS m) a2) a2 < 0 := atI_neg.2 (rmL_ids (seqS_ok (by omega)))
  have hd2 : DQ.drop ⟨rmL (seqS m) a2, [], dk n, g⟩ a2 = (false, ⟨rmL (seqS m) a2, [], dk n, g⟩) := by unfold DQ.drop; rw [if_neg (show ¬ 0 ≤ atI (rmL (seqS m) a2) a2 by omega)]; rfl
  refine jn.at (false, ()) (fun w' => Ok e [dtqP b false n ⟨rmL (seqS m) a2, [], dk n, g⟩, old e] w') (fun J hJ => cs.no rfl ?_) (fun w6 h => ?_)
  · refine call13 (Drop_dtq h o1 fun w5 h => ⟨(false, ()), by rw [hd2]; rfl, ?_⟩)
    rw [hd2] at h
    exact hJ _ h
  refine cs.no rfl ?_
  have hout0 : outs ⟨rmL (seqS m) a2, [], dk n, g⟩ = dk n ++ ((List.range m).map fun (k : Nat) => (k : Int) + 1).filter (· ≠ a2) := by
    unfold outs
    simp only
    rw [← seqS_ids, ← rmL_filter (seqS_ok (n := m) (by omega)).1]
    congr 1
    rw [ids, List.map_eq_map_iff]
    intro x hx
    have : x.1 ∈ ids (seqS m) := ((rmL_sub (seqS m) a2).map Prod.fst).subset (List.mem_map_of_mem hx)
    exact hg _ this
  generalize hq0 : (⟨rmL (seqS m) a2, [], dk n, g⟩ : DQ) = q0 at *
  have hnot : a2 ∉ ids q0.S := by rw [← hq0]; exact rmL_ids (seqS_ok (by omega))
  refine lp.mk (fun t w' => ∃ j : Nat, t.2.1 = (j : Int) ∧ j ≤ n ∧ Ok e [slc 1 t.1 (ints (dk j)), dtqP b false n q0, old e] w')
    (fun t _ => n - t.2.1.toNat) ⟨0, rfl, Nat.zero_le _, h.slcNil 1⟩ ?_
  clear h
  rintro ⟨s1, i, _⟩ w7 ⟨j, hj, hj1, h⟩
  dsimp only at hj h
  subst hj
  have hs1 := slc_ints_len h
  rw [dkl] at hs1
  refine cs.mk (fun hlt => ?_) (fun hge => ?_)
  · have hlt : j < n := by have := of_decide_eq_true hlt; dsimp only at this; omega
    dsimp only
    rw [w64_in (x := 100 + (j : Int)) (by omega) (by omega), hw j (by omega)]
    refine al.mk h fun c w8 h => ?_
    refine ef.append1 (n := 1) slT_int (by decide) h rfl (by intro v hv; simp at hv; subst hv; rfl) (by omega) fun s2 w9 hl2 h => ?_
    rw [ints_snoc, ← dks] at h
    refine ⟨⟨j + 1, rfl, hlt, h⟩, ?_⟩
    show n - Int.toNat ((j + 1 : Nat) : Int) < n - Int.toNat (j : Int)
    omega
  have hge : j = n := by have := of_decide_eq_false hge; dsimp only at this; omega
  subst hge
  let wk : Nat → List Int := fun i => dk j ++ ((List.range i).map fun (k : Nat) => (k : Int) + 1).filter (· ≠ a2)
  have wkl : ∀ i, (wk i).length ≤ j + i := fun i => by
    have := List.length_filter_le (fun x => decide (x ≠ a2)) ((List.range i).map fun (k : Nat) => (k : Int) + 1)
    simp only [List.length_map, List.length_range] at this
    simp only [wk, List.length_append, dkl]
    omega
  refine lp.mk (fun t w' => ∃ i : Nat, @Eq Int t.2.1 ((i : Int) + 1) ∧ i ≤ m ∧ Ok e [slc 1 t.1 (ints (wk i)), dtqP b false j q0, old e] w')
    (fun t _ => m + 1 - t.2.1.toNat) ⟨0, rfl, Nat.zero_le _, by simpa [wk] using h⟩ ?_
  clear h
  rintro ⟨s2, (i' : Int), _⟩ w8 ⟨i, hi, hi1, h⟩
  dsimp only at hi h
  subst hi
  have hs2 := slc_ints_len h
  have hwk := wkl i
  refine cs.mk (fun hlt => ?_) (fun hge => ?_)
  · have hlt : i < m := by have := of_decide_eq_true hlt; dsimp only at this; omega
    have hmu : m + 1 - Int.toNat ((i : Int) + 1 + 1) < m + 1 - Int.toNat ((i : Int) + 1) := by omega
    dsimp only
    rw [w64_in (x := (i : Int) + 1 + 1) (by omega) (by omega)]
    refine cs.mk (fun hne => ?_) (fun heq => ?_)
    · have hne : (i : Int) + 1 ≠ a2 := by simpa using hne
      refine al.mk h fun c w9 h => ?_
      refine ef.append1 (n := 1) slT_int (by decide) h rfl (by intro v hv; simp at hv; subst hv; rfl) (by omega) fun s3 w10 hl3 h => ?_
      have hwe : wk (i + 1) = wk i ++ [(i : Int) + 1] := by
        simp only [wk, List.range_succ, List.map_append, List.filter_append, List.map_cons, List.map_nil]
        rw [List.filter_cons_of_pos (by simpa using hne), List.append_assoc]
        rfl
      rw [ints_snoc, ← hwe] at h
      exact ⟨⟨i + 1, rfl, hlt, h⟩, hmu⟩
    · have heq : (i : Int) + 1 = a2 := by simpa using heq
      have hwe : wk (i + 1) = wk i := by
        simp only [wk, List.range_succ, List.map_append, List.filter_append, List.map_cons, List.map_nil]
        rw [List.filter_cons_of_neg (by simpa using heq)]
        simp
      rw [← hwe] at h
      exact ⟨⟨i + 1, rfl, hlt, h⟩, hmu⟩
  have hge : i = m := by have := of_decide_eq_false hge; dsimp only at this; omega
  rw [hge] at h hwk
  have hol : (outs q0).length ≤ 14 := by rw [hout0]; show (wk m).length ≤ 14; omega
  have h := h.slcNil 1
  refine lp.mk (fun t w' => ∃ (k : Nat) (q : DQ), t.2.1 = (k : Int) ∧ k ≤ 30 ∧ q.ok j ∧ a2 ∉ ids q.S ∧ outs q = (outs q0).drop k ∧ Ok e [slc 1 t.1 (ints ((outs q0).take k)), slc 1 s2 (ints (outs q0)), dtqP b false j q, old e] w')
    (fun t _ => 30 - t.2.1.toNat) ⟨0, q0, rfl, by decide, o1, hnot, by simp, by rw [hout0]; exact h⟩ ?_
  clear h
  rintro ⟨s3, k', _⟩ w9 ⟨k, q, hk, hk1, oq, hq1, hq2, h⟩
  dsimp only at hk h
  subst hk
  have hs3 := slc_ints_len h
  rw [List.length_take] at hs3
  refine cs.mk (fun hlt => ?_) (fun hge => ?_)
  · have hlt : k < 30 := by have := of_decide_eq_true hlt; dsimp only at this; omega
    have hmu : 30 - Int.toNat ((k + 1 : Nat) : Int) < 30 - Int.toNat (k : Int) := by omega
    refine call14 (TryRecv_dtq (Ok.emb (h) (.cons (A := dtqP b _ _ _) (by with_reducible first | exact sl0 | exact .there sl0 | exact .there sl1 | exact .there sl2 | exact .there sl3 | exact .there sl4 | exact .there sl5 | exact .there sl6 | exact .there sl7 | exact .there sl8 | exact .there sl9 | exact .there sl10 | exact .there sl11 | exact .there sl12) (.same _))) oq fun w10 h => ⟨((q.tryRecv.1.1, q.tryRecv.1.2.1, q.tryRecv.1.2.2, ()), ()), rfl, ?_⟩)
    refine al.mk h fun c w11 h => ?_
    dsimp only
    rw [hw k (by omega)]
    have o2 := tryRecv_ok oq
    cases hoq : outs q with
    | nil =>
      have ht := outs_none hoq
      rw [ht] at h o2 ⊢
      dsimp only at h o2 ⊢
      (repeat (first | with_reducible refine dr.mk h fun _ h => ?_ | with_reducible refine nn.mk ?_ | ((first | with_reducible apply ldI.mk | with_reducible apply ldB.mk | with_reducible apply ldP.mk | with_reducible apply ldS.mk | with_reducible apply ldM.mk | with_reducible apply ldF.mk | with_reducible apply ldG.mk); (· exact (by refine Ok.cellS h (by with_reducible first | exact sl0 | exact .there sl0 | exact .there sl1 | exact .there sl2 | exact .there sl3 | exact .there sl4 | exact .there sl5 | exact .there sl6 | exact .there sl7 | exact .there sl8 | exact .there sl9 | exact .there sl10 | exact .there sl11 | exact .there sl12) ?_; rfl))) | (refine st1.mk (Ok.bring h (by with_reducible first | exact sl0 | exact .there sl0 | exact .there sl1 | exact .there sl2 | exact .there sl3 | exact .there sl4 | exact .there sl5 | exact .there sl6 | exact .there sl7 | exact .there sl8 | exact .there sl9 | exact .there sl10 | exact .there sl11 | exact .there sl12)) (by simp) fun _ h => ?_; dsimp only [List.set] at h)))
      refine cs.no (by simp; omega) ?_
      (repeat (first | with_reducible refine dr.mk h fun _ h => ?_ | with_reducible refine nn.mk ?_ | ((first | with_reducible apply ldI.mk | with_reducible apply ldB.mk | with_reducible apply ldP.mk | with_reducible apply ldS.mk | with_reducible apply ldM.mk | with_reducible apply ldF.mk | with_reducible apply ldG.mk); (· exact (by refine Ok.cellS h (by with_reducible first | exact sl0 | exact .there sl0 | exact .there sl1 | exact .there sl2 | exact .there sl3 | exact .there sl4 | exact .there sl5 | exact .there sl6 | exact .there sl7 | exact .there sl8 | exact .there sl9 | exact .there sl10 | exact .there sl11 | exact .there sl12) ?_; rfl))) | (refine st1.mk (Ok.bring h (by with_reducible first | exact sl0 | exact .there sl0 | exact .there sl1 | exact .there sl2 | exact .there sl3 | exact .there sl4 | exact .there sl5 | exact .there sl6 | exact .there sl7 | exact .there sl8 | exact .there sl9 | exact .there sl10 | exact .there sl11 | exact .there sl12)) (by simp) fun _ h => ?_; dsimp only [List.set] at h)))
      refine cs.no rfl ?_
      have hlen : (outs q0).length ≤ k := by rw [hq2] at hoq; simpa using hoq
      refine ⟨⟨k + 1, q, rfl, by omega, oq, hq1, by rw [hoq, List.drop_eq_nil_of_le (by omega)], ?_⟩, hmu⟩
      rw [List.take_of_length_le (by omega)]
      rw [List.take_of_length_le hlen] at h
      exact (h.emb (by repeat' (first | with_reducible exact Emb.same _ | exact Emb.nil _ | refine Emb.cons (by with_reducible first | exact sl0 | exact .there sl0 | exact .there sl1 | exact .there sl2 | exact .there sl3 | exact .there sl4 | exact .there sl5 | exact .there sl6 | exact .there sl7 | exact .there sl8 | exact .there sl9 | exact .there sl10 | exact .there sl11 | exact .there sl12) ?_ | refine Emb.skip ?_)))
    | cons d r =>
      obtain ⟨ht1, ht2, ht3, ht4, ht5⟩ := outs_some hoq
      rw [ht1]
      dsimp only
      (repeat (first | with_reducible refine dr.mk h fun _ h => ?_ | with_reducible refine nn.mk ?_ | ((first | with_reducible apply ldI.mk | with_reducible apply ldB.mk | with_reducible apply ldP.mk | with_reducible apply ldS.mk | with_reducible apply ldM.mk | with_reducible apply ldF.mk | with_reducible apply ldG.mk); (· exact (by refine Ok.cellS h (by with_reducible first | exact sl0 | exact .there sl0 | exact .there sl1 | exact .there sl2 | exact .there sl3 | exact .there sl4 | exact .there sl5 | exact .there sl6 | exact .there sl7 | exact .there sl8 | exact .there sl9 | exact .there sl10 | exact .there sl11 | exact .there sl12) ?_; rfl))) | (refine st1.mk (Ok.bring h (by with_reducible first | exact sl0 | exact .there sl0 | exact .there sl1 | exact .there sl2 | exact .there sl3 | exact .there sl4 | exact .there sl5 | exact .there sl6 | exact .there sl7 | exact .there sl8 | exact .there sl9 | exact .there sl10 | exact .there sl11 | exact .there sl12)) (by simp) fun _ h => ?_; dsimp only [List.set] at h)))
      refine cs.no ?_ ?_
      · simp only [beq_eq_false_iff_ne, ne_eq]
        cases hS : q.S with
        | nil => simp; omega
        | cons x S =>
          simp only [List.head?_cons, Option.getD_some]
          rintro rfl
          exact hq1 (by rw [hS]; exact List.mem_cons_self ..)
      (repeat (first | with_reducible refine dr.mk h fun _ h => ?_ | with_reducible refine nn.mk ?_ | ((first | with_reducible apply ldI.mk | with_reducible apply ldB.mk | with_reducible apply ldP.mk | with_reducible apply ldS.mk | with_reducible apply ldM.mk | with_reducible apply ldF.mk | with_reducible apply ldG.mk); (· exact (by refine Ok.cellS h (by with_reducible first | exact sl0 | exact .there sl0 | exact .there sl1 | exact .there sl2 | exact .there sl3 | exact .there sl4 | exact .there sl5 | exact .there sl6 | exact .there sl7 | exact .there sl8 | exact .there sl9 | exact .there sl10 | exact .there sl11 | exact .there sl12) ?_; rfl))) | (refine st1.mk (Ok.bring h (by with_reducible first | exact sl0 | exact .there sl0 | exact .there sl1 | exact .there sl2 | exact .there sl3 | exact .there sl4 | exact .there sl5 | exact .there sl6 | exact .there sl7 | exact .there sl8 | exact .there sl9 | exact .there sl10 | exact .there sl11 | exact .there sl12)) (by simp) fun _ h => ?_; dsimp only [List.set] at h)))
      refine cs.yes rfl ?_
      (repeat (first | with_reducible refine dr.mk h fun _ h => ?_ | with_reducible refine nn.mk ?_ | ((first | with_reducible apply ldI.mk | with_reducible apply ldB.mk | with_reducible apply ldP.mk | with_reducible apply ldS.mk | with_reducible apply ldM.mk | with_reducible apply ldF.mk | with_reducible apply ldG.mk); (· exact (by refine Ok.cellS h (by with_reducible first | exact sl0 | exact .there sl0 | exact .there sl1 | exact .there sl2 | exact .there sl3 | exact .there sl4 | exact .there sl5 | exact .there sl6 | exact .there sl7 | exact .there sl8 | exact .there sl9 | exact .there sl10 | exact .there sl11 | exact .there sl12) ?_; rfl))) | (refine st1.mk (Ok.bring h (by with_reducible first | exact sl0 | exact .there sl0 | exact .there sl1 | exact .there sl2 | exact .there sl3 | exact .there sl4 | exact .there sl5 | exact .there sl6 | exact .there sl7 | exact .there sl8 | exact .there sl9 | exact .there sl10 | exact .there sl11 | exact .there sl12)) (by simp) fun _ h => ?_; dsimp only [List.set] at h)))
      refine al.mk h fun c2 w12 h => ?_
      refine ef.append1 (n := 1) slT_int (by decide) (Ok.emb (h) (.cons (A := pts c2 _) (by with_reducible first | exact sl0 | exact .there sl0 | exact .there sl1 | exact .there sl2 | exact .there sl3 | exact .there sl4 | exact .there sl5 | exact .there sl6 | exact .there sl7 | exact .there sl8 | exact .there sl9 | exact .there sl10 | exact .there sl11 | exact .there sl12) (.cons (A := slc 1 s3 _) (by with_reducible first | exact sl0 | exact .there sl0 | exact .there sl1 | exact .there sl2 | exact .there sl3 | exact .there sl4 | exact .there sl5 | exact .there sl6 | exact .there sl7 | exact .there sl8 | exact .there sl9 | exact .there sl10 | exact .there sl11 | exact .there sl12) (.same _)))) rfl (by intro v hv; simp at hv; subst hv; rfl) (by omega) fun s4 w13 hl4 h => ?_
      have hdk : (outs q0)[k]? = some d := by
        have : ((outs q0).drop k)[0]? = some d := by rw [← hq2, hoq]; rfl
        simpa using this
      rw [ints_snoc, show (outs q0).take k ++ [d] = (outs q0).take (k + 1) by rw [List.take_add_one, hdk]; rfl] at h
      refine ⟨⟨k + 1, q.tryRecv.2, rfl, by omega, o2, fun hm => hq1 ?_, ?_, ?_⟩, hmu⟩
      · rw [ht3] at hm
        exact ((List.tail_sublist q.S).map Prod.fst).subset hm
      · rw [ht2]
        have : (outs q0).drop k = d :: r := by rw [← hq2, hoq]
        rw [← List.drop_drop, this]; rfl
      · show Ok e (slc 1 s4 (ints ((outs q0).take (k + 1))) :: _) _
        exact (h.emb (by repeat' (first | with_reducible exact Emb.same _ | exact Emb.nil _ | refine Emb.cons (by with_reducible first | exact sl0 | exact .there sl0 | exact .there sl1 | exact .there sl2 | exact .there sl3 | exact .there sl4 | exact .there sl5 | exact .there sl6 | exact .there sl7 | exact .there sl8 | exact .there sl9 | exact .there sl10 | exact .there sl11 | exact .there sl12) ?_ | refine Emb.skip ?_)))
  have hge : k = 30 := by have := of_decide_eq_false hge; dsimp only at this; omega
  subst hge
  rw [List.take_of_length_le (by omega)] at h
  refine call15 (Same_int h (by dsimp only; omega) fun w10 h => ⟨(true, ()), by simp [encK, Kd.enc, Lk.enc], ?_⟩)
  exact ⟨rfl, (h.emb (by repeat' (first | with_reducible exact Emb.same _ | exact Emb.nil _ | refine Emb.cons (by with_reducible first | exact sl0 | exact .there sl0 | exact .there sl1 | exact .there sl2 | exact .there sl3 | exact .there sl4 | exact .there sl5 | exact .there sl6 | exact .there sl7 | exact .there sl8 | exact .there sl9 | exact .there sl10 | exact .there sl11 | exact .there sl12) ?_ | refine Emb.skip ?_)))⟩

end Go.Proofs.Ytadnjjnnkhofdaa.B
