/- A law of layer 4: who is given another number is put behind those that have it, and nothing else is moved. -/
import Derived.Test.YtnbjikhhkdkjaaaLaws4a
import Derived.Test.YtnbjikhhkdkjaaaSorted
namespace Go.Proofs.Ytnbjikhhkdkjaaa.B
open Go
set_option linter.unusedVariables false

theorem rmAt_get {l : List (Int × Int)} {p : Nat} (i : Nat) (hp : p < l.length) : (rmAt l p)[i]? = if i < p then l[i]? else l[i + 1]? := by
  unfold rmAt
  have ht : (l.take p).length = p := by rw [List.length_take]; omega
  split
  · next h =>
    rw [List.getElem?_append_left (by omega), List.getElem?_take_of_lt h]
  · next h =>
    rw [List.getElem?_append_right (by omega), ht, List.getElem?_drop]
    congr 1
    omega

theorem putL_get {l : List (Int × Int)} {x : Int × Int} (i : Nat) : (putL true l x)[i]? = if i < putK true l x.2 then l[i]? else if i = putK true l x.2 then some x else l[i - 1]? := by
  have hk := putK_le true l x.2
  unfold putL
  generalize putK true l x.2 = k at *
  have ht : (l.take k).length = k := by rw [List.length_take]; omega
  rw [List.append_assoc]
  split
  · next h => rw [List.getElem?_append_left (by omega), List.getElem?_take_of_lt h]
  · next h =>
    rw [List.getElem?_append_right (by omega), ht]
    split
    · next h2 => subst h2; simp
    · next h2 =>
      rw [List.getElem?_append_right (by simp; omega), List.getElem?_drop]
      simp only [List.length_singleton]
      congr 1
      omega

theorem putL_perm (byPri : Bool) (l : List (Int × Int)) (x : Int × Int) : (putL byPri l x).Perm (x :: l) := by
  unfold putL
  generalize putK byPri l x.2 = k
  rw [List.append_assoc]
  refine (List.perm_middle (a := x) (l₁ := l.take k) (l₂ := l.drop k)).trans ?_
  rw [List.take_append_drop]

set_option maxHeartbeats 1000000 in
theorem OrderChanges_walk {e : World} {a0 : Sl} {a1 a2 : Int} {xs : List Int} (ha : ArgI .u8 e a0 xs) (_ : (Lit.int .i64 a1).wf = true) (_ : (Lit.int .i64 a2).wf = true) : sh6 a0 a1 a2 (LawEnd e) e := by
  unfold sh6
  refine call10 (known_4 (Ok.start e) fun w1 h => ⟨(true, ()), enc_b rfl, ?_⟩)
  refine cs.no rfl ?_
  refine jn.bool (decide (a0.len = 0 ∨ a0.len > 16)) (fun J hJ => cs.mk (fun h1 => ?_) (fun h1 => ?_)) ?_
  · have h1 := eq_of_beq h1
    rw [decide_eq_true (by omega)] at hJ
    exact hJ
  · have h1 : ¬ (a0.len : Int) = 0 := by simpa using h1
    rw [show decide ((a0.len : Int) > 16) = decide (a0.len = 0 ∨ a0.len > 16) from decide_eq_decide.2 (by omega)]
    exact hJ
  refine jn.bool (decide (a0.len = 0 ∨ a0.len > 16 ∨ a1 < 1)) (fun J hJ => cs.mk (fun h1 => ?_) (fun h1 => ?_)) ?_
  · have h1 := of_decide_eq_true h1
    rw [decide_eq_true (by omega)] at hJ
    exact hJ
  · have h1 := of_decide_eq_false h1
    rw [show decide (a1 < 1) = decide (a0.len = 0 ∨ a0.len > 16 ∨ a1 < 1) from decide_eq_decide.2 (by omega)]
    exact hJ
  refine jn.bool (decide (a0.len = 0 ∨ a0.len > 16 ∨ a1 < 1 ∨ a1 > a0.len)) (fun J hJ => cs.mk (fun h1 => ?_) (fun h1 => ?_)) ?_
  · have h1 := of_decide_eq_true h1
    rw [decide_eq_true (by omega)] at hJ
    exact hJ
  · have h1 := of_decide_eq_false h1
    rw [show decide (a1 > (a0.len : Int)) = decide (a0.len = 0 ∨ a0.len > 16 ∨ a1 < 1 ∨ a1 > a0.len) from decide_eq_decide.2 (by omega)]
    exact hJ
  refine jn.bool (decide (a0.len = 0 ∨ a0.len > 16 ∨ a1 < 1 ∨ a1 > a0.len ∨ a2 < 1)) (fun J hJ => cs.mk (fun h1 => ?_) (fun h1 => ?_)) ?_
  · have h1 := of_decide_eq_true h1
    rw [decide_eq_true (by omega)] at hJ
    exact hJ
  · have h1 := of_decide_eq_false h1
    rw [show decide (a2 < 1) = decide (a0.len = 0 ∨ a0.len > 16 ∨ a1 < 1 ∨ a1 > a0.len ∨ a2 < 1) from decide_eq_decide.2 (by omega)]
    exact hJ
  refine jn.bool (decide (a0.len = 0 ∨ a0.len > 16 ∨ a1 < 1 ∨ a1 > a0.len ∨ a2 < 1 ∨ a2 > 16)) (fun J hJ => cs.mk (fun h1 => ?_) (fun h1 => ?_)) ?_
  · have h1 := of_decide_eq_true h1
    rw [decide_eq_true (by omega)] at hJ
    exact hJ
  · have h1 := of_decide_eq_false h1
    rw [show decide (a2 > 16) = decide (a0.len = 0 ∨ a0.len > 16 ∨ a1 < 1 ∨ a1 > a0.len ∨ a2 < 1 ∨ a2 > 16) from decide_eq_decide.2 (by omega)]
    exact hJ
  refine cs.mk (fun _ => ⟨rfl, h⟩) (fun hcond => ?_)
  have hcond := of_decide_eq_false hcond
  refine call11 (New_order h fun p w2 h => ⟨(some ⟨p, 0, none⟩, ()), rfl, ?_⟩)
  dsimp only
  refine lp.mk (fun t w' => ∃ l : List (Int × Int), ∃ n : Nat, t.1 = (n : Int) ∧ n ≤ a0.len ∧ l.length = n ∧ l.Pairwise bef ∧ l.Pairwise (fun a b => a.1 ≠ b.1) ∧ (∀ q ∈ l, q.1 < (n : Int) + 1) ∧ (∀ j : Nat, j < n → ∃ q ∈ l, q.1 = (j : Int) + 1) ∧ Ok e [lineP p [.bool true] l, old e] w')
    (fun t _ => a0.len - t.1.toNat) ⟨[], 0, rfl, Nat.zero_le _, rfl, List.Pairwise.nil, List.Pairwise.nil, fun q hq => by simp at hq, fun j hj => absurd hj (Nat.not_lt_zero _), h⟩ ?_
  clear h
  rintro ⟨i, _⟩ w3 ⟨l, n, hn, hn1, hlen, hs, hd, hlow, hall, h⟩
  dsimp only at hn
  subst hn
  refine cs.mk (fun hlt => ?_) (fun hge => ?_)
  · have hlt : n < a0.len := by have := of_decide_eq_true hlt; dsimp only at this; omega
    refine ix_arg ha (by simp) (by simpa using hlt) fun b o x hx hc => ?_
    refine ldI.mk (hc _ ⟨_, h.p1⟩) ?_
    have hxr := ha.u8 (List.mem_of_getElem? hx)
    have hmod : Int.tmod x 16 = x % 16 := Int.tmod_eq_emod_of_nonneg hxr.1
    rw [hmod, w64_in (x := x % 16) (by omega) (by omega), w64_in (by omega) (by omega), w64_in (by omega) (by omega)]
    have hno : atI l ((n : Int) + 1) = -1 := atI_none fun q hq => by have := hlow q hq; omega
    have he : addL true l ((n : Int) + 1) (1 + x % 16) = (0, putL true l ((n : Int) + 1, 1 + x % 16)) := by
      unfold addL; rw [if_neg (by omega), if_neg (by omega)]
    refine call12 (Add_order h (by omega) fun w4 h => ⟨((0 : Int), ()), by rw [he]; rfl, ?_⟩)
    rw [he] at h
    refine ⟨⟨_, n + 1, rfl, hlt, by rw [putL_len, hlen], putL_sorted hs hlow, ?_, fun q hq => ?_, fun j hj => ?_, h⟩, ?_⟩
    · refine ((putL_perm true l _).pairwise_iff (fun hab => Ne.symm hab)).2 (List.pairwise_cons.2 ⟨fun q hq => ?_, hd⟩)
      have := hlow q hq
      simp only [ne_eq]; omega
    · rcases putL_mem.1 hq with rfl | hq
      · simp only; omega
      · have := hlow q hq; omega
    · rcases Nat.lt_or_ge j n with h2 | h2
      · obtain ⟨q, hq, hq1⟩ := hall j h2
        exact ⟨q, putL_mem.2 (.inr hq), hq1⟩
      · exact ⟨_, putL_mem.2 (.inl rfl), by simp only; omega⟩
    · show _ - Int.toNat ((n : Int) + 1) < _ - Int.toNat _
      omega
  have hge : a0.len ≤ n := by have := of_decide_eq_false hge; dsimp only at this; omega
  have hna : n = a0.len := by omega
  refine nn.mk ?_
  refine call19 (Row_order h (by omega) fun r w4 hr h => ⟨(r, ()), rfl, ?_⟩)
  obtain ⟨q0, hq0, hq01⟩ := hall (a1.toNat - 1) (by omega)
  have hat : 0 ≤ atI l a1 := by
    unfold atI
    split
    · omega
    · next hnone =>
      rw [List.findIdx?_eq_none_iff] at hnone
      have := hnone q0 hq0
      simp at this
      omega
  obtain ⟨hplt, qa, hqa, hqa1⟩ := atI_lt hat
  obtain ⟨P, hP⟩ : ∃ P : Nat, P = (atI l a1).toNat := ⟨_, rfl⟩
  rw [← hP] at hplt hqa
  have hrm : rmL l a1 = rmAt l P := by unfold rmL; rw [if_neg (by omega), hP]
  have hmlen : (rmAt l P).length + 1 = l.length := by rw [rmAt, List.length_append, List.length_take, List.length_drop]; omega
  have hchg : chgL true l a1 a2 = (true, putL true (rmAt l P) (a1, a2)) := by
    unfold chgL; rw [if_neg (by omega), if_pos rfl, hrm]
  refine call14 (Change_order h.p1 (by omega) fun w5 h => ⟨(true, ()), by rw [hchg]; rfl, ?_⟩)
  rw [hchg] at h
  refine cs.no rfl (nn.mk ?_)
  have hnlen := putL_len true (rmAt l P) (a1, a2)
  refine call19 (Row_order h (by simp only; omega) fun r2 w6 hr2 h => ⟨(r2, ()), rfl, ?_⟩)
  dsimp only at h hr2 ⊢
  refine cs.no (by simp; omega) ?_
  have hget := fun i => putL_get (l := rmAt l P) (x := (a1, a2)) i
  have hmget := fun i => rmAt_get (l := l) (p := P) i hplt
  obtain ⟨s1, s2⟩ := pp_spec (rmAt l P) a2 (rmAt l P).length
  have hKle := putK_le true (rmAt l P) a2
  have hKpp : putK true (rmAt l P) a2 = pp (rmAt l P) a2 (rmAt l P).length := rfl
  rw [← hKpp] at s1 s2
  dsimp only at hget
  generalize hK : putK true (rmAt l P) a2 = K at *
  generalize hnow : putL true (rmAt l P) (a1, a2) = now at *
  generalize hm : rmAt l P = m at *
  have hls : ∀ (i j : Nat) (a b : Int × Int), i < j → l[i]? = some a → l[j]? = some b → a.2 ≤ b.2 ∧ a.1 ≠ b.1 := by
    intro i j a b hij hi hj
    obtain ⟨hil, rfl⟩ := List.getElem?_eq_some_iff.1 hi
    obtain ⟨hjl, rfl⟩ := List.getElem?_eq_some_iff.1 hj
    have h1 := List.pairwise_iff_getElem.1 hs i j hil hjl hij
    exact ⟨by rcases h1 with h2 | h2 <;> omega, List.pairwise_iff_getElem.1 hd i j hil hjl hij⟩
  have hms : ∀ (i j : Nat) (a b : Int × Int), i < j → m[i]? = some a → m[j]? = some b → a.2 ≤ b.2 := by
    intro i j a b hij hi hj
    rw [hmget] at hi hj
    split at hi <;> split at hj
    · exact (hls _ _ _ _ hij hi hj).1
    · exact (hls _ _ _ _ (by omega) hi hj).1
    · omega
    · exact (hls _ _ _ _ (by omega) hi hj).1
  have hmid : ∀ (i : Nat) (a : Int × Int), m[i]? = some a → a.1 ≠ a1 := by
    intro i a hi
    rw [hmget] at hi
    split at hi
    · have := (hls _ _ _ _ (by omega) hi hqa).2
      rw [hqa1] at this; exact this
    · have := (hls _ _ _ _ (by omega) hqa hi).2
      rw [hqa1] at this; exact this.symm
  refine lp.mk (fun t w' => ∃ n k : Nat, t.1 = (k : Int) ∧ t.2.1 = (n : Int) ∧ n ≤ now.length ∧ k = (if (if n ≤ K then n else n - 1) ≤ P then (if n ≤ K then n else n - 1) else (if n ≤ K then n else n - 1) + 1) ∧ Ok e [slc 2 r2 (prs now), lineP p [.bool true] now, slc 2 r (prs l), old e] w')
    (fun t _ => now.length - t.2.1.toNat) ⟨0, 0, rfl, rfl, Nat.zero_le _, by simp, h⟩ ?_
  clear h
  rintro ⟨k', i, _⟩ w7 ⟨n2, k, hk', hi', hn2, hk, h⟩
  dsimp only at hk' hi'
  subst hk' hi'
  refine cs.mk (fun hlt => ?_) (fun _ => ⟨rfl, h.drop.drop.drop⟩)
  have hlt : n2 < now.length := by have := of_decide_eq_true hlt; dsimp only at this; omega
  have hmu : now.length - Int.toNat ((n2 + 1 : Nat) : Int) < now.length - Int.toNat (n2 : Int) := by omega
  have hw1 : w64 ((n2 : Int) + 1) = ((n2 + 1 : Nat) : Int) := by rw [w64_in (by omega) (by omega)]; rfl
  refine dr.mk h fun w8 h => ?_
  dsimp only
  refine jn.bool false (fun J hJ => cs.mk (fun hpos => ?_) (fun _ => hJ)) ?_
  · have hpos : 0 < n2 := by have := of_decide_eq_true hpos; omega
    refine ix_pr h (by simp) (by simpa using hlt) fun b o qa' hqa' _ _ c1 c2 => ldI.mk (c2 _ ⟨_, h⟩) ?_
    rw [w64_in (by omega) (by omega)]
    refine ix_pr h (by omega) (by omega) fun b' o' qb hqb _ _ c1 c2 => ldI.mk (c2 _ ⟨_, h⟩) ?_
    rw [Int.toNat_natCast, hget] at hqa'
    rw [show ((n2 : Int) - 1).toNat = n2 - 1 by omega, hget] at hqb
    have hle : qb.2 ≤ qa'.2 := by
      rcases Nat.lt_trichotomy n2 K with h1 | h1 | h1
      · rw [if_pos h1] at hqa'
        rw [if_pos (by omega)] at hqb
        exact hms _ _ _ _ (by omega) hqb hqa'
      · rw [if_neg (by omega), if_pos h1] at hqa'
        rw [if_pos (by omega)] at hqb
        cases hqa'
        have := s2 (by omega)
        rw [show K - 1 = n2 - 1 by omega, hqb] at this
        simp only [Option.getD_some] at this
        simp only; omega
      · rw [if_neg (by omega), if_neg (by omega)] at hqa'
        rcases Nat.lt_or_ge (K + 1) n2 with h2 | h2
        · rw [if_neg (by omega), if_neg (by omega)] at hqb
          exact hms _ _ _ _ (by omega) hqb hqa'
        · rw [if_neg (by omega), if_pos (by omega)] at hqb
          cases hqb
          have := s1 (n2 - 1) (by omega) (List.getElem?_eq_some_iff.1 hqa').1
          rw [hqa'] at this
          simp only [Option.getD_some] at this
          simp only; omega
    rw [show decide (qa'.2 < qb.2) = false by simp; omega]
    exact hJ
  refine cs.no rfl ?_
  refine ix_pr h (by simp) (by simpa using hlt) fun b o qn hqn _ _ c1 c2 => ldI.mk (c1 _ ⟨_, h⟩) ?_
  rw [Int.toNat_natCast] at hqn
  have hqn' := hqn
  rw [hget] at hqn
  refine cs.mk (fun hwho => ?_) (fun hwho => ?_)
  · have hwho : qn.1 = a1 := eq_of_beq hwho
    have hnK : n2 = K := by
      rcases Nat.lt_trichotomy n2 K with h1 | h1 | h1
      · rw [if_pos h1] at hqn
        exact absurd hwho (hmid _ _ hqn)
      · exact h1
      · rw [if_neg (by omega), if_neg (by omega)] at hqn
        exact absurd hwho (hmid _ _ hqn)
    rw [if_neg (by omega), if_pos hnK] at hqn
    cases hqn
    refine ix_pr h (by simp) (by simpa using hlt) fun b o qn2 hqn2 _ _ c1 c2 => ldI.mk (c2 _ ⟨_, h⟩) ?_
    rw [Int.toNat_natCast, hqn'] at hqn2
    cases hqn2
    rw [hw1]
    refine jn.bool false (fun J hJ => cs.no (by simp) ?_) ?_
    · refine jn.bool false (fun J2 hJ2 => cs.mk (fun hnx => ?_) (fun _ => hJ2)) hJ
      have hnx : n2 + 1 < now.length := by have := of_decide_eq_true hnx; omega
      refine ix_pr h (by omega) (by omega) fun b o qx hqx _ _ c1 c2 => ldI.mk (c2 _ ⟨_, h⟩) ?_
      rw [Int.toNat_natCast, hget, if_neg (by omega), if_neg (by omega)] at hqx
      have := s1 (n2 + 1 - 1) (by omega) (List.getElem?_eq_some_iff.1 hqx).1
      rw [hqx] at this
      simp only [Option.getD_some] at this
      rw [show (qx.2 == a2) = false by simp; omega]
      exact hJ2
    refine cs.no rfl ⟨⟨n2 + 1, k, rfl, rfl, hlt, ?_, h⟩, hmu⟩
    rw [hk, if_pos (show n2 ≤ K by omega), if_neg (show ¬ n2 + 1 ≤ K by omega)]
    rfl
  · have hwho : qn.1 ≠ a1 := by simpa using hwho
    obtain ⟨i', hi', hmi⟩ : ∃ i', (i' = if n2 ≤ K then n2 else n2 - 1) ∧ m[i']? = some qn := by
      rcases Nat.lt_trichotomy n2 K with h1 | h1 | h1
      · rw [if_pos h1] at hqn
        exact ⟨n2, by rw [if_pos (by omega)], hqn⟩
      · rw [if_neg (by omega), if_pos h1] at hqn
        cases hqn
        exact absurd rfl hwho
      · rw [if_neg (by omega), if_neg (by omega)] at hqn
        exact ⟨n2 - 1, by rw [if_neg (by omega)], hqn⟩
    rw [← hi'] at hk
    have hil := (List.getElem?_eq_some_iff.1 hmi).1
    have hnK : n2 ≠ K := by
      intro h0
      rw [if_neg (by omega), if_pos h0] at hqn
      cases hqn
      exact hwho rfl
    have hi2 : (if n2 + 1 ≤ K then n2 + 1 else n2 + 1 - 1) = i' + 1 := by
      rw [hi']
      split <;> split <;> omega
    have hli := hmi
    rw [hmget] at hli
    have hkl : k < l.length := by rw [hk]; split <;> omega
    refine ix_pr h.p2 (Int.natCast_nonneg k) (Int.ofNat_lt.2 hkl) fun b o qk hqk _ _ c1 c2 => ldI.mk (c1 _ ⟨_, h.p2⟩) ?_
    rw [Int.toNat_natCast] at hqk
    obtain ⟨k2, hk2, hk2b, hlk⟩ : ∃ k2 : Nat, k2 = (if i' < P then i' else i' + 1) ∧ k2 < l.length ∧ l[k2]? = some qn := by
      refine ⟨_, rfl, ?_, ?_⟩
      · split <;> omega
      · split at hli
        · rw [if_pos (by assumption)]; exact hli
        · rw [if_neg (by assumption)]; exact hli
    refine jn.at ((k2 : Int), ()) (fun w' => w8 = w') (fun J hJ => cs.mk (fun hkw => ?_) (fun hkw => ?_)) (fun w' hw => ?_)
    · have hkw : qk.1 = a1 := eq_of_beq hkw
      have hkP : k = P := by
        rcases Nat.lt_trichotomy k P with h1 | h1 | h1
        · have := (hls _ _ _ _ h1 hqk hqa).2
          rw [hqa1] at this; exact absurd hkw this
        · exact h1
        · have := (hls _ _ _ _ h1 hqa hqk).2
          rw [hqa1] at this; exact absurd hkw.symm this
      have hiP : i' = P := by
        split at hk <;> omega
      rw [show w64 ((k : Int) + 1) = (k2 : Int) by rw [w64_in (by omega) (by omega), hk2, if_neg (by omega)]; omega]
      exact hJ _ rfl
    · have hkw : qk.1 ≠ a1 := by simpa using hkw
      have hkP : k ≠ P := by
        intro h0
        rw [h0, hqa] at hqk
        cases hqk
        exact hkw hqa1
      have hkk : k = k2 := by
        have hiP : i' ≠ P := by
          intro h0
          apply hkP
          rw [hk, if_pos (by omega), h0]
        by_cases hlt' : i' < P
        · rw [hk, hk2, if_pos (by omega), if_pos hlt']
        · rw [hk, hk2, if_neg (by omega), if_neg hlt']
      rw [hkk]
      exact hJ _ rfl
    subst hw
    refine dr.mk h fun w9 h => ?_
    refine ix_pr h (by simp) (by simpa using hlt) fun b o q1 hq1 _ _ c1 c2 => ldI.mk (c1 _ ⟨_, h⟩) (ldI.mk (c2 _ ⟨_, h⟩) ?_)
    refine ix_pr h.p2 (by simp) (by simpa using hk2b) fun b o q2 hq2 _ _ c1 c2 => ldI.mk (c1 _ ⟨_, h.p2⟩) (ldI.mk (c2 _ ⟨_, h.p2⟩) ?_)
    rw [Int.toNat_natCast, hqn'] at hq1
    cases hq1
    simp only [Int.toNat_natCast] at hq2
    rw [hlk] at hq2
    cases hq2
    refine cs.no (by simp) ?_
    rw [hw1]
    refine ⟨⟨n2 + 1, k2 + 1, ?_, rfl, hlt, ?_, h⟩, hmu⟩
    · show w64 ((k2 : Int) + 1) = _
      rw [w64_in (by omega) (by omega)]; rfl
    · rw [hi2, hk2]
      split <;> split <;> omega

end Go.Proofs.Ytnbjikhhkdkjaaa.B
