/- Rows of elements of any form. -/
import Derived.Test.YtbhmejmkoefahaaSep5
namespace Go.Proofs.Ytbhmejmkoefahaa.B
open Go
set_option linter.unusedVariables false
section
variable {α : Type} {f : α → List Value} {n : Nat} {l m : List α}
def flat (f : α → List Value) (l : List α) : List Value := l.flatMap f
theorem flat_nil : flat f [] = [] := rfl
theorem flat_cons (a : α) : flat f (a :: l) = f a ++ flat f l := by simp [flat]
theorem flat_append : flat f (l ++ m) = flat f l ++ flat f m := by simp [flat]
theorem flat_one (h : ∀ a, ∀ v ∈ f a, v.oneCell' = true) : ∀ v ∈ flat f l, v.oneCell' = true := by
  intro v hv
  obtain ⟨a, _, ha⟩ := List.mem_flatMap.1 hv
  exact h a v ha
theorem flat_len (hf : ∀ a, (f a).length = n) : (flat f l).length = l.length * n := by
  induction l with
  | nil => simp [flat]
  | cons a l ih => rw [flat_cons, List.length_append, ih, hf, List.length_cons, Nat.add_mul, Nat.one_mul, Nat.add_comm]
theorem flat_take (hf : ∀ a, (f a).length = n) (i : Nat) : (flat f l).take (i * n) = flat f (l.take i) := by
  induction l generalizing i with
  | nil => simp [flat]
  | cons a l ih =>
    cases i with
    | zero => simp [flat]
    | succ i =>
      rw [flat_cons, List.take_succ_cons, flat_cons, ← ih, List.take_append, hf, List.take_of_length_le (by rw [hf, Nat.add_mul, Nat.one_mul]; exact Nat.le_add_left ..)]
      congr 2
      rw [Nat.add_mul, Nat.one_mul, Nat.add_sub_cancel]
theorem flat_drop (hf : ∀ a, (f a).length = n) (i : Nat) : (flat f l).drop (i * n) = flat f (l.drop i) := by
  induction l generalizing i with
  | nil => simp [flat]
  | cons a l ih =>
    cases i with
    | zero => simp
    | succ i =>
      rw [flat_cons, List.drop_succ_cons, ← ih, List.drop_append, hf, List.drop_eq_nil_of_le (by rw [hf, Nat.add_mul, Nat.one_mul]; exact Nat.le_add_left ..)]
      rw [Nat.add_mul, Nat.one_mul, Nat.add_sub_cancel, List.nil_append]
theorem flat_get (hf : ∀ a, (f a).length = n) {i j : Nat} {a : α} (h : l[i]? = some a) (hj : j < n) : (flat f l)[i * n + j]? = (f a)[j]? := by
  induction l generalizing i with
  | nil => simp at h
  | cons b l ih =>
    cases i with
    | zero =>
      simp at h
      subst h
      rw [flat_cons, Nat.zero_mul, Nat.zero_add, List.getElem?_append_left (by rw [hf]; exact hj)]
    | succ i =>
      have := ih (i := i) (by simpa using h)
      rw [flat_cons, List.getElem?_append_right (by rw [hf, Nat.add_mul, Nat.one_mul]; omega), hf]
      rw [← this]
      congr 1
      rw [Nat.add_mul, Nat.one_mul]; omega
theorem flat_set (hf : ∀ a, (f a).length = n) {i j : Nat} {a b : α} {v : Value} (h : l[i]? = some a) (hj : j < n) (hb : (f a).set j v = f b) : (flat f l).set (i * n + j) v = flat f (l.set i b) := by
  induction l generalizing i with
  | nil => simp at h
  | cons c l ih =>
    cases i with
    | zero =>
      simp at h
      subst h
      rw [flat_cons, Nat.zero_mul, Nat.zero_add, List.set_append_left _ _ (by rw [hf]; exact hj), hb, List.set_cons_zero, flat_cons]
    | succ i =>
      have := ih (i := i) (by simpa using h)
      rw [flat_cons, List.set_append_right _ _ (by rw [hf, Nat.add_mul, Nat.one_mul]; omega), hf, List.set_cons_succ, flat_cons, ← this]
      congr 2
      rw [Nat.add_mul, Nat.one_mul]; omega
theorem slc_flat_len {e : World} {L : List SP} {w : World} {s : Sl} (hf : ∀ a, (f a).length = n) (hn : 0 < n) (h : Ok e (slc n s (flat f l) :: L) w) : l.length = s.len := by
  have := h.slc_len
  rw [flat_len hf] at this
  exact Nat.eq_of_mul_eq_mul_right hn this
theorem ix_flat {e : World} {L : List SP} {w : World} {s : Sl} {i : Int} {g : Nat → Nat → Prop} (hf : ∀ a, (f a).length = n) (hn : 0 < n) (h : Ok e (slc n s (flat f l) :: L) w) (h0 : 0 ≤ i) (h1 : i < l.length)
    (k : ∀ b o a, l[i.toNat]? = some a → s.a = some ⟨b, 0, none⟩ → o = i.toNat * n → (∀ j v, (f a)[j]? = some v → ∀ w', (∃ L', Ok e (slc n s (flat f l) :: L') w') → w'.cell? ⟨b, o + j, none⟩ = some v) → g b o) : ix s i n g := by
  have hl := slc_flat_len hf hn h
  obtain ⟨-, -, hc, hcase⟩ := h.slcE
  rcases hcase with ⟨ha, hcap, hL⟩ | ⟨b, post, ha, hp, hk⟩
  · omega
  · have hlt : i.toNat < l.length := by omega
    refine ⟨b, 0, ha, h0, by omega, k b _ _ (List.getElem?_eq_getElem hlt) ha (by omega) ?_⟩
    rintro j v hv w' ⟨L', h'⟩
    have hj : j < n := by
      have := (List.getElem?_eq_some_iff.1 hv).1
      rw [hf] at this
      exact this
    have := h'.slc_cells ha (i.toNat * n + j) v (by rw [flat_get hf (List.getElem?_eq_getElem hlt) hj]; exact hv)
    rw [Addr.add_lit] at this
    rw [Nat.zero_add] at this
    rw [Nat.zero_add]
    exact this
end
end Go.Proofs.Ytbhmejmkoefahaa.B
