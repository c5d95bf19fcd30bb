/- Who stands in a queue: each once, each a task. -/
import Derived.Test.YtjamgdepbjipdaaSorted
namespace Go.Proofs.Ytjamgdepbjipdaa.B
open Go
set_option linter.unusedVariables false

abbrev ids (l : List (Int × Int)) : List Int := l.map Prod.fst

theorem atI_neg {l : List (Int × Int)} {id : Int} : atI l id < 0 ↔ id ∉ ids l := by
  constructor
  · intro h hm
    obtain ⟨p, hp, he⟩ := List.mem_map.1 hm
    unfold atI at h
    split at h
    · omega
    · next h1 =>
      rw [List.findIdx?_eq_none_iff] at h1
      have := h1 p hp
      simp [he] at this
  · intro h
    rw [atI_none fun p hp he => h (List.mem_map.2 ⟨p, hp, he⟩)]
    decide

theorem atI_pos {l : List (Int × Int)} {id : Int} : 0 ≤ atI l id ↔ id ∈ ids l := by
  rw [← Decidable.not_iff_not, Int.not_le]
  exact atI_neg

theorem putL_perm (byPri : Bool) (l : List (Int × Int)) (x : Int × Int) : (putL byPri l x).Perm (x :: l) := by
  unfold putL
  rw [List.append_assoc]
  refine List.perm_middle.trans (List.Perm.cons _ ?_)
  show (l.take (putK byPri l x.2) ++ l.drop (putK byPri l x.2)).Perm l
  rw [List.take_append_drop]

theorem putL_ids {byPri : Bool} {l : List (Int × Int)} {x : Int × Int} : (ids (putL byPri l x)).Perm (x.1 :: ids l) := (putL_perm byPri l x).map Prod.fst

theorem rmL_sub (l : List (Int × Int)) (id : Int) : (rmL l id).Sublist l := by
  unfold rmL
  split
  · exact List.Sublist.refl _
  · rw [rmAt, ← List.eraseIdx_eq_take_drop_succ]
    exact List.eraseIdx_sublist ..

theorem rmL_none {l : List (Int × Int)} {id : Int} (h : atI l id < 0) : rmL l id = l := by rw [rmL, if_pos h]

theorem rmL_perm {l : List (Int × Int)} {id : Int} (h : 0 ≤ atI l id) : ∃ p, p.1 = id ∧ l.Perm (p :: rmL l id) := by
  obtain ⟨hlt, p, hp, hp1⟩ := atI_lt h
  refine ⟨p, hp1, ?_⟩
  rw [rmL, if_neg (by omega), rmAt]
  have hd : l.drop (atI l id).toNat = p :: l.drop ((atI l id).toNat + 1) := by
    rw [List.drop_eq_getElem_cons hlt]
    rw [List.getElem?_eq_getElem hlt] at hp
    cases hp
    rfl
  have h2 : l = l.take (atI l id).toNat ++ p :: l.drop ((atI l id).toNat + 1) := by rw [← hd, List.take_append_drop]
  exact (List.Perm.of_eq h2).trans List.perm_middle

/-- each once, each a task -/
def okL (l : List (Int × Int)) : Prop := (ids l).Nodup ∧ ∀ i ∈ ids l, 1 ≤ i ∧ i ≤ 16

theorem okL_nil : okL [] := ⟨List.nodup_nil, by simp⟩

theorem nodup_bound : ∀ (n : Nat) (l : List Int), l.Nodup → (∀ i ∈ l, 1 ≤ i ∧ i ≤ (n : Int)) → l.length ≤ n
  | 0, [], _, _ => Nat.le_refl _
  | 0, a :: l, _, h => by have := h a (List.mem_cons_self ..); omega
  | n + 1, l, hn, h => by
    by_cases ha : ((n : Int) + 1) ∈ l
    · have := nodup_bound n (l.erase ((n : Int) + 1)) (hn.erase _) (fun i hi => by
        have h1 := (List.Nodup.mem_erase_iff hn).1 hi
        have := h i h1.2
        omega)
      rw [List.length_erase_of_mem ha] at this
      omega
    · have := nodup_bound n l hn (fun i hi => by
        have h1 := h i hi
        have : i ≠ (n : Int) + 1 := fun e => ha (e ▸ hi)
        omega)
      omega

theorem okL_len {l : List (Int × Int)} (h : okL l) : l.length ≤ 16 := by
  have := nodup_bound 16 (ids l) h.1 h.2
  simpa using this

theorem okL_sub {l m : List (Int × Int)} (h : okL l) (hs : m.Sublist l) : okL m := by
  have := hs.map Prod.fst
  exact ⟨this.nodup h.1, fun i hi => h.2 i (this.subset hi)⟩

theorem okL_perm {l m : List (Int × Int)} (h : okL l) (hs : (ids m).Perm (ids l)) : okL m := ⟨hs.nodup_iff.2 h.1, fun i hi => h.2 i (hs.mem_iff.1 hi)⟩

theorem okL_put {byPri : Bool} {l : List (Int × Int)} {x : Int × Int} (h : okL l) (h1 : 1 ≤ x.1 ∧ x.1 ≤ 16) (h2 : x.1 ∉ ids l) : okL (putL byPri l x) := by
  have hp := putL_ids (byPri := byPri) (l := l) (x := x)
  refine ⟨hp.nodup_iff.2 (List.nodup_cons.2 ⟨h2, h.1⟩), fun i hi => ?_⟩
  rcases List.mem_cons.1 (hp.mem_iff.1 hi) with rfl | hi
  · exact h1
  · exact h.2 i hi

theorem okL_tail {x : Int × Int} {l : List (Int × Int)} (h : okL (x :: l)) : okL l ∧ x.1 ∉ ids l ∧ 1 ≤ x.1 ∧ x.1 ≤ 16 := by
  have hn := List.nodup_cons.1 h.1
  exact ⟨⟨hn.2, fun i hi => h.2 i (List.mem_cons_of_mem _ hi)⟩, hn.1, h.2 x.1 (List.mem_cons_self ..)⟩

theorem okL_add {byPri : Bool} {l : List (Int × Int)} {id pri : Int} (h : okL l) : okL (addL byPri l id pri).2 := by
  unfold addL
  split
  · exact h
  · split
    · exact h
    · next h1 h2 => exact okL_put h (by simp only; omega) (atI_neg.1 (show atI l id < 0 by omega))

theorem addL_zero {byPri : Bool} {l : List (Int × Int)} {id pri : Int} (h : (addL byPri l id pri).1 = 0) : (1 ≤ id ∧ id ≤ 16) ∧ id ∉ ids l ∧ (addL byPri l id pri).2 = putL byPri l (id, pri) := by
  unfold addL at h ⊢
  split at h
  · cases h
  · next h1 =>
    split at h
    · cases h
    · next h2 => rw [if_neg h1, if_neg h2]; exact ⟨by omega, atI_neg.1 (by omega), rfl⟩

theorem addL_other {byPri : Bool} {l : List (Int × Int)} {id pri : Int} (h : (addL byPri l id pri).1 ≠ 0) : (addL byPri l id pri).2 = l := by
  unfold addL at h ⊢
  split at h
  · next h1 => rw [if_pos h1]
  · next h1 =>
    split at h
    · next h2 => rw [if_neg h1, if_pos h2]
    · exact absurd rfl h

theorem addL_mem {byPri : Bool} {l : List (Int × Int)} {id pri i : Int} (h : i ∈ ids (addL byPri l id pri).2) : ((addL byPri l id pri).1 = 0 ∧ i = id) ∨ i ∈ ids l := by
  by_cases h0 : (addL byPri l id pri).1 = 0
  · rw [(addL_zero h0).2.2] at h
    rcases List.mem_cons.1 (putL_ids.mem_iff.1 h) with h1 | h1
    · exact .inl ⟨h0, h1⟩
    · exact .inr h1
  · rw [addL_other h0] at h
    exact .inr h

theorem okL_rm {l : List (Int × Int)} {id : Int} (h : okL l) : okL (rmL l id) := okL_sub h (rmL_sub l id)

theorem rmL_ids {l : List (Int × Int)} {id : Int} (h : okL l) : id ∉ ids (rmL l id) := by
  by_cases h0 : 0 ≤ atI l id
  · obtain ⟨p, hp, hpm⟩ := rmL_perm h0
    have := (hpm.map Prod.fst).nodup_iff.1 h.1
    rw [List.map_cons, hp] at this
    exact (List.nodup_cons.1 this).1
  · have h1 : atI l id < 0 := by omega
    rw [rmL_none h1]
    exact atI_neg.1 h1

theorem chgL_ids {byPri : Bool} {l : List (Int × Int)} {id pri : Int} : (ids (chgL byPri l id pri).2).Perm (ids l) := by
  unfold chgL
  split
  · exact List.Perm.refl _
  · next h1 =>
    have h0 : 0 ≤ atI l id := by omega
    split
    · obtain ⟨p, hp, hpm⟩ := rmL_perm h0
      refine putL_ids.trans ?_
      have := (hpm.map Prod.fst).symm
      rw [List.map_cons, hp] at this
      exact this
    · obtain ⟨hlt, p, hp, hp1⟩ := atI_lt h0
      refine List.Perm.of_eq ?_
      show (l.set (atI l id).toNat (id, pri)).map Prod.fst = l.map Prod.fst
      apply List.ext_getElem?
      intro j
      rw [List.getElem?_map, List.getElem?_map, List.getElem?_set]
      split
      · next hj =>
        subst hj
        rw [hp]
        simp [hp1]
      · rfl

theorem okL_chg {byPri : Bool} {l : List (Int × Int)} {id pri : Int} (h : okL l) : okL (chgL byPri l id pri).2 := okL_perm h chgL_ids

theorem chgL_no {byPri : Bool} {l : List (Int × Int)} {id pri : Int} (h : (chgL byPri l id pri).1 = false) : (chgL byPri l id pri).2 = l := by
  unfold chgL at h ⊢
  split at h
  · next h1 => rw [if_pos h1]
  · split at h <;> cases h

end Go.Proofs.Ytjamgdepbjipdaa.B
