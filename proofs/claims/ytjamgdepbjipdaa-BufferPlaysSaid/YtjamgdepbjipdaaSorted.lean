/- The order in which a queue keeps those that wait. -/
import Derived.Test.YtjamgdepbjipdaaOrder3
import Derived.Test.YtjamgdepbjipdaaSep4
namespace Go.Proofs.Ytjamgdepbjipdaa.B
open Go
set_option linter.unusedVariables false

theorem pp_spec (l : List (Int × Int)) (y : Int) (n : Nat) : (∀ j, pp l y n ≤ j → j < n → y < (l[j]?.getD (0, 0)).2) ∧ (0 < pp l y n → ¬ y < (l[pp l y n - 1]?.getD (0, 0)).2) := by
  induction n with
  | zero => exact ⟨fun j _ h => absurd h (Nat.not_lt_zero _), fun h => absurd h (Nat.lt_irrefl _)⟩
  | succ n ih =>
    rw [show pp l y (n + 1) = if y < (l[n]?.getD (0, 0)).2 then pp l y n else n + 1 from rfl]
    split
    · next h =>
      refine ⟨fun j h1 h2 => ?_, ih.2⟩
      rcases Nat.lt_or_ge j n with h3 | h3
      · exact ih.1 j h1 h3
      · have : j = n := by omega
        rw [this]; exact h
    · next h => exact ⟨fun j h1 h2 => by omega, fun _ => h⟩

/-- before another: a lower number, or the same and came first -/
abbrev bef (a b : Int × Int) : Prop := a.2 < b.2 ∨ (a.2 = b.2 ∧ a.1 < b.1)

theorem putL_sorted {l : List (Int × Int)} {x : Int × Int} (h : l.Pairwise bef) (hx : ∀ p ∈ l, p.1 < x.1) : (putL true l x).Pairwise bef := by
  obtain ⟨s1, s2⟩ := pp_spec l x.2 l.length
  have hk := pp_le l x.2 l.length
  have hp : putK true l x.2 = pp l x.2 l.length := rfl
  unfold putL
  rw [hp]
  generalize pp l x.2 l.length = k at *
  have hg := List.pairwise_iff_getElem.1 h
  have hdrop : ∀ b ∈ l.drop k, x.2 < b.2 := by
    intro b hb
    obtain ⟨i, hi, rfl⟩ := List.getElem_of_mem hb
    rw [List.getElem_drop]
    have hlt : k + i < l.length := by simp at hi; omega
    have := s1 (k + i) (by omega) hlt
    rwa [List.getElem?_eq_getElem hlt] at this
  have htake : ∀ a ∈ l.take k, a.2 ≤ x.2 := by
    intro a ha
    obtain ⟨i, hi, rfl⟩ := List.getElem_of_mem ha
    rw [List.getElem_take]
    have hlt : i < k := by simp at hi; omega
    have h2 := s2 (by omega)
    rw [List.getElem?_eq_getElem (by omega)] at h2
    simp only [Option.getD_some] at h2
    rcases Nat.lt_or_ge i (k - 1) with h3 | h3
    · have := hg i (k - 1) (by omega) (by omega) h3
      rcases this with h4 | h4 <;> omega
    · have : i = k - 1 := by omega
      subst this
      omega
  rw [List.append_assoc]
  refine List.pairwise_append.2 ⟨h.sublist (List.take_sublist ..), ?_, ?_⟩
  · refine List.pairwise_append.2 ⟨List.pairwise_singleton .., h.sublist (List.drop_sublist ..), ?_⟩
    intro a ha b hb
    simp only [List.mem_singleton] at ha
    subst ha
    exact .inl (hdrop b hb)
  · intro a ha b hb
    rcases List.mem_append.1 hb with hb | hb
    · simp only [List.mem_singleton] at hb
      subst hb
      have h1 := htake a ha
      have h2 := hx a (List.mem_of_mem_take ha)
      rcases Int.lt_or_eq_of_le h1 with h3 | h3
      · exact .inl h3
      · exact .inr ⟨h3, h2⟩
    · have h1 := htake a ha
      have h2 := hdrop b hb
      exact .inl (by omega)

theorem putL_mem {byPri : Bool} {l : List (Int × Int)} {x p : Int × Int} : p ∈ putL byPri l x ↔ p = x ∨ p ∈ l := by
  unfold putL
  generalize putK byPri l x.2 = k
  have : p ∈ l ↔ p ∈ l.take k ∨ p ∈ l.drop k := by
    rw [← List.mem_append, List.take_append_drop]
  rw [List.mem_append, List.mem_append, List.mem_singleton, this]
  constructor
  · rintro ((h | h) | h)
    · exact .inr (.inl h)
    · exact .inl h
    · exact .inr (.inr h)
  · rintro (h | h | h)
    · exact .inl (.inr h)
    · exact .inl (.inl h)
    · exact .inr h

/-- the order of a queue: by number, then by who came first; or by who came first alone -/
abbrev ordR (byPri : Bool) (a b : Int × Int) : Prop := if byPri then bef a b else a.1 < b.1

theorem putL_ord {byPri : Bool} {l : List (Int × Int)} {x : Int × Int} (h : l.Pairwise (ordR byPri)) (hx : ∀ p ∈ l, p.1 < x.1) : (putL byPri l x).Pairwise (ordR byPri) := by
  cases byPri with
  | true =>
    have h1 : l.Pairwise bef := h.imp fun hab => by simpa [ordR] using hab
    exact (putL_sorted h1 hx).imp fun hab => by simpa [ordR] using hab
  | false =>
    have e1 : putL false l x = l ++ [x] := by simp [putL, putK]
    rw [e1]
    refine List.pairwise_append.2 ⟨h, List.pairwise_singleton .., fun a ha b hb => ?_⟩
    simp only [List.mem_singleton] at hb
    subst hb
    simpa [ordR] using hx a ha

end Go.Proofs.Ytjamgdepbjipdaa.B
