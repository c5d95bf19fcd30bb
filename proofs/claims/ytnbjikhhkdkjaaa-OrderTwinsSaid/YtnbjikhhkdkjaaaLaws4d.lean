/- Laws of layer 4: what is refused changes nothing; a twin stands alone. -/
import Derived.Test.YtnbjikhhkdkjaaaLaws4a
import Derived.Test.YtnbjikhhkdkjaaaSorted
import Derived.Test.YtnbjikhhkdkjaaaRef4
namespace Go.Proofs.Ytnbjikhhkdkjaaa.B
open Go
set_option linter.unusedVariables false

theorem atI_of_mem {l : List (Int × Int)} {id : Int} {p : Int × Int} (hp : p ∈ l) (h : p.1 = id) : 0 ≤ atI l id := by
  unfold atI
  split
  · omega
  · next hn =>
    rw [List.findIdx?_eq_none_iff] at hn
    have := hn p hp
    simp [h] at this

theorem OrderRefuses_walk {e : World} {a0 : Bool} {a1 a2 : Int} (_ : (Lit.int .i64 a1).wf = true) (_ : (Lit.int .i64 a2).wf = true) : sh7 a0 a1 a2 (LawEnd e) e := by
  unfold sh7
  refine call10 (known_4 (Ok.start e) fun w1 h => ⟨(true, ()), enc_b rfl, ?_⟩)
  refine cs.no rfl ?_
  refine call11 (New_order h fun p w2 h => ⟨(some ⟨p, 0, none⟩, ()), rfl, ?_⟩)
  refine call12 (Add_order h (by decide) fun w3 h => ⟨((0 : Int), ()), by cases a0 <;> rfl, ?_⟩)
  have h : Ok e [lineP p [.bool a0] [(3, 5)], old e] w3 := by cases a0 <;> exact h
  refine call12 (Add_order h (by decide) fun w4 h => ⟨((0 : Int), ()), by cases a0 <;> rfl, ?_⟩)
  obtain ⟨l, hl, hlm, h⟩ : ∃ l : List (Int × Int), l.length = 2 ∧ (∀ q, q ∈ l ↔ q = (3, 5) ∨ q = (7, 2)) ∧ Ok e [lineP p [.bool a0] l, old e] w4 := by
    refine ⟨(addL a0 [(3, 5)] 7 2).2, by cases a0 <;> rfl, fun q => ?_, h⟩
    rw [show (addL a0 [(3, 5)] 7 2).2 = putL a0 [(3, 5)] (7, 2) by cases a0 <;> rfl, putL_mem]
    simp only [List.mem_singleton]
    exact Or.comm
  have h3 : ∀ q ∈ l, q.1 = 3 ∨ q.1 = 7 := fun q hq => by
    rcases (hlm q).1 hq with rfl | rfl
    · exact .inl rfl
    · exact .inr rfl
  refine nn.mk ?_
  refine call19 (Row_order h (by omega) fun r w5 hr h => ⟨(r, ()), rfl, ?_⟩)
  refine call12 (Add_order h.p1 (by omega) fun w6 h => ⟨((addL a0 l a1 a2).1, ()), rfl, ?_⟩)
  refine call21 (Good_ref4 h ⟨(decide (1 ≤ a1 ∧ a1 ≤ 16 ∧ 1 ≤ a2 ∧ a2 ≤ 16), ()), rfl, ?_⟩)
  dsimp only
  refine jn.at () (fun w' => Ok e [lineP p [.bool a0] l, slc 2 r (prs l), old e] w') (fun J hJ => ?_) (fun w7 h => ?_)
  · refine cs.mk (fun hg => ?_) (fun hg => ?_)
    · have hg : ¬ (1 ≤ a1 ∧ a1 ≤ 16 ∧ 1 ≤ a2 ∧ a2 ≤ 16) := by rw [Bool.not_eq_true'] at hg; exact of_decide_eq_false hg
      have he : addL a0 l a1 a2 = (-17, l) := by unfold addL; exact if_pos (by omega)
      rw [he] at h ⊢
      exact cs.no rfl (hJ _ h)
    · have hg : 1 ≤ a1 ∧ a1 ≤ 16 ∧ 1 ≤ a2 ∧ a2 ≤ 16 := by simpa using hg
      refine jn.bool (a1 == 3 || a1 == 7) (fun J2 hJ2 => cs.mk (fun hc => ?_) (fun hc => ?_)) ?_
      · simpa [hc] using hJ2
      · simpa [hc] using hJ2
      dsimp only
      refine cs.mk (fun hc => ?_) (fun hc => ?_)
      · have hat : 0 ≤ atI l a1 := by
          simp only [Bool.or_eq_true, beq_iff_eq] at hc
          rcases hc with rfl | rfl
          · exact atI_of_mem (p := (3, 5)) ((hlm _).2 (.inl rfl)) rfl
          · exact atI_of_mem (p := (7, 2)) ((hlm _).2 (.inr rfl)) rfl
        have he : addL a0 l a1 a2 = (-41, l) := by unfold addL; rw [if_neg (by omega)]; exact if_pos hat
        rw [he] at h ⊢
        exact cs.no rfl (hJ _ h)
      · have hat : atI l a1 = -1 := atI_none fun q hq heq => by
          simp only [Bool.or_eq_false_iff, beq_eq_false_iff_ne] at hc
          rcases h3 q hq with h7 | h7
          · exact hc.1 (by omega)
          · exact hc.2 (by omega)
        have he : addL a0 l a1 a2 = (0, putL a0 l (a1, a2)) := by unfold addL; rw [if_neg (by omega)]; exact if_neg (by omega)
        rw [he] at h ⊢
        have hln := putL_len a0 l (a1, a2)
        refine jn.bool true (fun J3 hJ3 => cs.yes rfl (nn.mk ?_)) ?_
        · refine call15 (Len_order h ⟨(((putL a0 l (a1, a2)).length : Int), ()), rfl, ?_⟩)
          dsimp only
          rw [hln, hl]
          exact hJ3
        refine jn.at (true, ()) (fun w' => Ok e [old e] w') (fun J3 hJ3 => cs.yes rfl (nn.mk ?_)) (fun w8 h => ⟨rfl, h⟩)
        refine call18 (Has_order h (by simp only; omega) fun w8 h => ⟨(true, ()), enc_b (decide_eq_true (atI_of_mem (p := (a1, a2)) (putL_mem.2 (.inl rfl)) rfl)).symm, hJ3 _ h.drop.drop⟩)
  · refine nn.mk ?_
    refine call19 (Row_order h (by omega) fun r2 w8 hr2 h => ⟨(r2, ()), rfl, ?_⟩)
    refine dr.mk h fun w9 h => ?_
    refine jn.bool true (fun J hJ => cs.yes (by simp; omega) ?_) ⟨rfl, h.drop.drop.drop⟩
    refine ix_pr h (by decide) (by omega) fun b o q hq _ _ c1 c2 => ldI.mk (c1 _ ⟨_, h⟩) (ldI.mk (c2 _ ⟨_, h⟩) ?_)
    refine ix_pr h.p2 (by decide) (by omega) fun b' o' q' hq' _ _ c1 c2 => ldI.mk (c1 _ ⟨_, h.p2⟩) (ldI.mk (c2 _ ⟨_, h.p2⟩) ?_)
    rw [hq] at hq'
    cases hq'
    refine cs.yes (by simp) ?_
    refine ix_pr h (by decide) (by omega) fun b o q2 hq2 _ _ c1 c2 => ldI.mk (c1 _ ⟨_, h⟩) (ldI.mk (c2 _ ⟨_, h⟩) ?_)
    refine ix_pr h.p2 (by decide) (by omega) fun b' o' q' hq' _ _ c1 c2 => ldI.mk (c1 _ ⟨_, h.p2⟩) (ldI.mk (c2 _ ⟨_, h.p2⟩) ?_)
    rw [hq2] at hq'
    cases hq'
    simpa using hJ

theorem chgL_leq (byPri : Bool) (l : List (Int × Int)) (id pri : Int) : (chgL byPri l id pri).2.length = l.length := by
  unfold chgL
  split
  · rfl
  · next h =>
    split
    · have h0 : ¬ atI l id < 0 := by omega
      have := (atI_lt (by omega : 0 ≤ atI l id)).1
      rw [putL_len, rmL, if_neg h0, rmAt, List.length_append, List.length_take, List.length_drop]
      omega
    · simp

theorem OrderTwins_walk {e : World} {a0 : Bool} {a1 a2 : Sl} {xs : List Int} {vs : List Value} (ha : ArgI .u8 e a1 xs) (hb : ArgF [.b] e a2 vs) : sh9 a0 a1 a2 (LawEnd e) e := by
  unfold sh9
  refine call10 (known_4 (Ok.start e) fun w1 h => ⟨(true, ()), enc_b rfl, ?_⟩)
  refine cs.no rfl ?_
  refine jn.bool (decide (a1.len > 16 ∨ a2.len > 40)) (fun J hJ => cs.mk (fun h1 => ?_) (fun h1 => ?_)) ?_
  · have h1 := of_decide_eq_true h1
    rw [decide_eq_true (by omega)] at hJ
    exact hJ
  · have h1 := of_decide_eq_false h1
    rw [show decide ((a2.len : Int) > 40) = decide (a1.len > 16 ∨ a2.len > 40) from decide_eq_decide.2 (by omega)]
    exact hJ
  refine cs.mk (fun _ => ⟨rfl, h⟩) (fun h1 => ?_)
  have h1 := of_decide_eq_false h1
  refine call11 (New_order h fun p w2 h => ⟨(some ⟨p, 0, none⟩, ()), rfl, ?_⟩)
  dsimp only
  refine lp.mk (fun t w' => ∃ l : List (Int × Int), ∃ n : Nat, t.1 = (n : Int) ∧ n ≤ a1.len ∧ l.length ≤ n ∧ Ok e [lineP p [.bool a0] l, old e] w') (fun t _ => a1.len - t.1.toNat) ⟨[], 0, rfl, Nat.zero_le _, Nat.le_refl _, h⟩ ?_
  clear h
  rintro ⟨i, _⟩ w3 ⟨l, n, hn, hn1, hl, h⟩
  dsimp only at hn
  subst hn
  refine cs.mk (fun hlt => ?_) (fun _ => ?_)
  · have hlt : n < a1.len := by have := of_decide_eq_true hlt; dsimp only at this; omega
    refine ix_arg ha (by simp) (by simpa using hlt) fun b o x hx hc => ?_
    refine ldI.mk (hc _ ⟨_, h.p1⟩) ?_
    refine call12 (Add_order h (by omega) fun w4 h => ⟨((addL a0 l _ _).1, ()), rfl, ?_⟩)
    refine ⟨⟨_, n + 1, ?_, hlt, ?_, h⟩, ?_⟩
    · show w64 ((n : Int) + 1) = _
      rw [w64_in (by omega) (by omega)]; rfl
    · unfold addL
      split
      · exact Nat.le_succ_of_le hl
      · split
        · exact Nat.le_succ_of_le hl
        · rw [putL_len]; exact Nat.succ_le_succ hl
    · show _ - (w64 ((n : Int) + 1)).toNat < _ - Int.toNat (n : Int)
      rw [w64_in (by omega) (by omega)]
      omega
  · refine nn.mk ?_
    refine call19 (Row_order h (by omega) fun r w4 hr h => ⟨(r, ()), rfl, ?_⟩)
    refine call26 (Twin_order h.p1 (by omega) fun q w5 h => ⟨(some ⟨q, 0, none⟩, ()), rfl, ?_⟩)
    refine cs.no rfl ?_
    refine lp.mk (fun t w' => ∃ l2 : List (Int × Int), ∃ c n : Nat, t.1 = (c : Int) ∧ t.2.1 = (n : Int) ∧ n ≤ a2.len ∧ l2.length + c = l.length ∧ Ok e [lineP q [.bool a0] l2, lineP p [.bool a0] l, slc 2 r (prs l), old e] w') (fun t _ => a2.len - t.2.1.toNat) ⟨l, 0, 0, rfl, rfl, Nat.zero_le _, rfl, h⟩ ?_
    clear h
    rintro ⟨c', i, _⟩ w6 ⟨l2, c, n2, hcc, hn2, hn21, hl2, h⟩
    dsimp only at hcc hn2
    subst hcc hn2
    have hw1 : w64 ((n2 : Int) + 1) = ((n2 + 1 : Nat) : Int) := by rw [w64_in (by omega) (by omega)]; rfl
    have hw2 : w64 ((c : Int) + 1) = ((c + 1 : Nat) : Int) := by rw [w64_in (by omega) (by omega)]; rfl
    refine cs.mk (fun hlt => ?_) (fun _ => ?_)
    · have hlt : n2 < a2.len := by have := of_decide_eq_true hlt; dsimp only at this; omega
      have hmu : a2.len - Int.toNat ((n2 + 1 : Nat) : Int) < a2.len - Int.toNat (n2 : Int) := by omega
      obtain ⟨_, hv, b, rfl⟩ := hb.2 n2 hlt 0 _ rfl
      refine ix_args (sz := 1) hb.1 (by decide) (by simp) (by simpa using hlt) fun b1 o hh => ?_
      refine ldB.mk (hh 0 _ (by decide) (by simpa using hv) _ ⟨_, h.p3⟩) ?_
      dsimp only
      rw [hw1, hw2]
      refine cs.mk (fun _ => ?_) (fun _ => ?_)
      · refine call13 (Take_order h (by omega) fun w7 h => ⟨(((l2.head?.getD (0, 0)).1, (l2.head?.getD (0, 0)).2, ()), !l2.isEmpty, ()), rfl, ?_⟩)
        refine al.mk h fun b2 w8 h => st1.mk h (by simp) fun w9 h => st1.mk h (by simp) fun w10 h => ?_
        dsimp only
        cases l2 with
        | nil => exact cs.no rfl ⟨⟨[], c, n2 + 1, rfl, rfl, hlt, hl2, h.drop⟩, hmu⟩
        | cons x rr => exact cs.yes rfl ⟨⟨rr, c + 1, n2 + 1, rfl, rfl, hlt, by simp at hl2; omega, h.drop⟩, hmu⟩
      · refine call14 (Change_order h (by omega) fun w7 h => ⟨((chgL a0 l2 _ 3).1, ()), rfl, ?_⟩)
        exact ⟨⟨_, c, n2 + 1, rfl, rfl, hlt, by rw [chgL_leq]; exact hl2, h⟩, hmu⟩
    · refine nn.mk ?_
      refine call19 (Row_order h.p1 (by omega) fun r2 w7 hr2 h => ⟨(r2, ()), rfl, ?_⟩)
      dsimp only
      refine jn.bool false (fun J hJ => cs.no (by simp; omega) (nn.mk ?_)) ?_
      · refine call15 (Len_order h.p2 ⟨((l2.length : Int), ()), rfl, ?_⟩)
        dsimp only
        rw [w64_in (by omega) (by omega), show ((l2.length : Int) != (r.len : Int) - (c : Int)) = false by simp; omega]
        exact hJ
      refine cs.no rfl ?_
      refine lp.mk (fun t w' => ∃ n : Nat, t.1 = (n : Int) ∧ n ≤ l.length ∧ Ok e [slc 2 r2 (prs l), lineP p [.bool a0] l, lineP q [.bool a0] l2, slc 2 r (prs l), old e] w') (fun t _ => l.length - t.1.toNat) ⟨0, rfl, Nat.zero_le _, h⟩ ?_
      clear h
      rintro ⟨i, _⟩ w8 ⟨n3, hn3, hn31, h⟩
      dsimp only at hn3
      subst hn3
      refine cs.mk (fun hlt => ?_) (fun _ => ⟨rfl, h.drop.drop.drop.drop⟩)
      have hlt : n3 < l.length := by have := of_decide_eq_true hlt; dsimp only at this; omega
      refine dr.mk h fun w9 h => ?_
      refine ix_pr h (by simp) (by simpa using hlt) fun b o q hq _ _ c1 c2 => ldI.mk (c1 _ ⟨_, h⟩) (ldI.mk (c2 _ ⟨_, h⟩) ?_)
      refine ix_pr h.p3 (by simp) (by simpa using hlt) fun b' o' q' hq' _ _ c1 c2 => ldI.mk (c1 _ ⟨_, h.p3⟩) (ldI.mk (c2 _ ⟨_, h.p3⟩) ?_)
      rw [hq] at hq'
      cases hq'
      refine cs.no (by simp) ?_
      refine ⟨⟨n3 + 1, ?_, hlt, h⟩, ?_⟩
      · show w64 ((n3 : Int) + 1) = _
        rw [w64_in (by omega) (by omega)]; rfl
      · show _ - (w64 ((n3 : Int) + 1)).toNat < _ - Int.toNat (n3 : Int)
        rw [w64_in (by omega) (by omega)]
        omega

end Go.Proofs.Ytnbjikhhkdkjaaa.B
