/- Rising rows: where a number lies, with it, without it; slices' search in them. -/
import Derived.Test.YtbdgglhfmanfbaaIds
namespace Go.Proofs.Ytbdgglhfmanfbaa.B
open Go
set_option linter.unusedVariables false

/-- how many are less, of a rising row -/
def pos : List Int → Int → Nat
  | [], _ => 0
  | b :: l, a => if b < a then pos l a + 1 else 0

abbrev Up (l : List Int) : Prop := l.Pairwise (· < ·)

def insU (l : List Int) (a : Int) : List Int := l.take (pos l a) ++ [a] ++ l.drop (pos l a)

def delU (l : List Int) (a : Int) : List Int := l.take (pos l a) ++ l.drop (pos l a + 1)

theorem pos_le : ∀ (l : List Int) (a : Int), pos l a ≤ l.length
  | [], _ => Nat.le_refl _
  | b :: l, a => by
    unfold pos
    have := pos_le l a
    split <;> simp <;> omega

theorem pos_spec : ∀ {l : List Int} {a : Int} {i : Nat} {x : Int}, Up l → l[i]? = some x → (i < pos l a ↔ x < a)
  | [], _, _, _, _, h => by simp at h
  | b :: l, a, i, x, hu, h => by
    have hu := List.pairwise_cons.1 hu
    unfold pos
    cases i with
    | zero =>
      simp only [List.getElem?_cons_zero, Option.some.injEq] at h
      subst h
      split <;> simp <;> omega
    | succ i =>
      simp only [List.getElem?_cons_succ] at h
      have hx := hu.1 x (List.mem_of_getElem? h)
      split
      · rw [Nat.succ_lt_succ_iff]
        exact pos_spec hu.2 h
      · simp only [Nat.not_lt_zero, false_iff]
        omega

theorem pos_mem {l : List Int} {a : Int} (hu : Up l) : a ∈ l ↔ l[pos l a]? = some a := by
  refine ⟨fun h => ?_, List.mem_of_getElem?⟩
  obtain ⟨i, hi⟩ := List.getElem?_of_mem h
  have h1 : ¬ i < pos l a := by rw [pos_spec hu hi]; omega
  rcases Nat.lt_or_ge (pos l a) i with h2 | h2
  · exfalso
    have hlt := (List.getElem?_eq_some_iff.1 hi).1
    have h3 := List.pairwise_iff_getElem.1 hu (pos l a) i (by omega) hlt h2
    rw [List.getElem?_eq_getElem hlt] at hi
    cases hi
    exact Nat.lt_irrefl _ ((pos_spec hu (List.getElem?_eq_getElem (show pos l l[i] < l.length by omega))).2 h3)
  · rw [show pos l a = i by omega]; exact hi

theorem pos_lt {l : List Int} {a : Int} (hu : Up l) (h : a ∈ l) : pos l a < l.length := (List.getElem?_eq_some_iff.1 ((pos_mem hu).1 h)).1

/-- no two alike -/
theorem up_inj {l : List Int} {a : Int} {i : Nat} (hu : Up l) (h : l[i]? = some a) : i = pos l a := by
  have hm := (pos_mem hu).1 (List.mem_of_getElem? h)
  have h1 : ¬ i < pos l a := by rw [pos_spec hu h]; omega
  rcases Nat.lt_or_ge (pos l a) i with h2 | h2
  · exfalso
    have hlt := (List.getElem?_eq_some_iff.1 h).1
    have hlt2 := (List.getElem?_eq_some_iff.1 hm).1
    have h3 := List.pairwise_iff_getElem.1 hu (pos l a) i hlt2 hlt h2
    rw [(List.getElem?_eq_some_iff.1 h).2, (List.getElem?_eq_some_iff.1 hm).2] at h3
    omega
  · omega

theorem insU_perm (l : List Int) (a : Int) : (insU l a).Perm (a :: l) := by
  unfold insU
  rw [List.append_assoc, List.singleton_append]
  refine List.perm_middle.trans ?_
  rw [List.take_append_drop]

theorem delU_perm {l : List Int} {a : Int} (hu : Up l) (h : a ∈ l) : l.Perm (a :: delU l a) := by
  have hl := pos_lt hu h
  have hm := (pos_mem hu).1 h
  rw [List.getElem?_eq_getElem hl] at hm
  have hm : l[pos l a] = a := by injection hm
  have h1 : l = l.take (pos l a) ++ a :: l.drop (pos l a + 1) := by
    conv => lhs; rw [← List.take_append_drop (pos l a) l, List.drop_eq_getElem_cons hl, hm]
  exact (List.Perm.of_eq h1).trans List.perm_middle

theorem delU_up {l : List Int} {a : Int} (hu : Up l) : Up (delU l a) := by
  have h : (delU l a).Sublist l := by
    unfold delU
    conv => rhs; rw [← List.take_append_drop (pos l a) l]
    refine List.Sublist.append (List.Sublist.refl _) ?_
    rw [← List.drop_drop]
    exact List.drop_sublist ..
  exact hu.sublist h

theorem insU_up {l : List Int} {a : Int} (hu : Up l) (h : a ∉ l) : Up (insU l a) := by
  have h0 : Up (l.take (pos l a) ++ l.drop (pos l a)) := by rw [List.take_append_drop]; exact hu
  obtain ⟨h1, h2, h3⟩ := List.pairwise_append.1 h0
  have hlt : ∀ x ∈ l.take (pos l a), x < a := by
    intro x hx
    obtain ⟨i, hi⟩ := List.getElem?_of_mem hx
    have hi2 := (List.getElem?_eq_some_iff.1 hi).1
    rw [List.length_take] at hi2
    rw [List.getElem?_take_of_lt (by omega)] at hi
    exact (pos_spec hu hi).1 (by omega)
  have hgt : ∀ x ∈ l.drop (pos l a), a < x := by
    intro x hx
    obtain ⟨i, hi⟩ := List.getElem?_of_mem hx
    rw [List.getElem?_drop] at hi
    have h5 : ¬ x < a := by rw [← pos_spec hu hi]; omega
    have h6 : x ≠ a := fun he => h (he ▸ List.mem_of_getElem? hi)
    omega
  refine List.pairwise_append.2 ⟨List.pairwise_append.2 ⟨h1, List.pairwise_singleton .., fun x hx y hy => ?_⟩, h2, fun x hx y hy => ?_⟩
  · rw [List.mem_singleton.1 hy]; exact hlt x hx
  · rcases List.mem_append.1 hx with hx | hx
    · exact h3 x hx y hy
    · rw [List.mem_singleton.1 hx]; exact hgt y hy

theorem isNaN_int {a : Int} {R : List Value → World → Prop} {w : World} (k : R [.bool false] w) : sh59 a R w := by
  unfold sh59
  rw [bne_self_eq_false]
  exact k

theorem cmpNaN_int {a : Int} {R : List Value → World → Prop} {w : World} (k : R [.bool false] w) : sh69 a R w := by
  unfold sh69
  rw [bne_self_eq_false]
  exact k

theorem Less_int {e w L R} {a b : Int} (h : Ok e L w) (k : R [.bool (decide (a < b))] w) : sh58 a b R w := by
  unfold sh58
  refine call69 (cmpNaN_int ⟨(false, ()), rfl, ?_⟩)
  refine jn.at (false, ()) (fun w' => w = w') (fun J hJ => cs.no rfl (hJ _ rfl)) (fun w7 hw7 => ?_)
  subst hw7
  refine jn.at (decide (a < b), ()) (fun w' => w = w') (fun J hJ => cs.no rfl (hJ _ rfl)) (fun w7 hw7 => ?_)
  subst hw7
  exact k

set_option maxHeartbeats 1000000 in
theorem Search_int {e w L s l R} {a : Int} (h : Ok e (slc 1 s (ints l) :: L) w) (hu : Up l) (hb : s.len ≤ 2 ^ 31) (k : R [.int .i64 (pos l a), .bool (decide (a ∈ l))] w) : sh32 s a R w := by
  unfold sh32
  have hl := h.slc_len
  rw [ints_len, Nat.mul_one] at hl
  have hp := pos_le l a
  refine lp.mk (fun t w' => ∃ i j : Nat, t.1 = (i : Int) ∧ t.2.1 = (j : Int) ∧ i ≤ pos l a ∧ pos l a ≤ j ∧ j ≤ s.len ∧ w = w') (fun t _ => t.2.1.toNat - t.1.toNat) ⟨0, s.len, rfl, rfl, Nat.zero_le _, by omega, Nat.le_refl _, rfl⟩ ?_
  rintro ⟨i', j', _⟩ w1 ⟨i, j, hi, hj, h1, h2, h3, hw⟩
  dsimp only at hi hj
  subst hi hj hw
  refine cs.mk (fun hlt => ?_) (fun hge => ?_)
  · have hlt : i < j := by have := of_decide_eq_true hlt; dsimp only at this; omega
    have hm : w64 (Int.fdiv (IntKind.u64.wrap (w64 ((i : Int) + (j : Int)))) (2 ^ 1)) = (((i + j) / 2 : Nat) : Int) := by
      rw [w64_in (x := (i : Int) + j) (by omega) (by omega), IntWalk.u64_in _ (by omega), show ((2 : Int) ^ 1) = 2 from rfl, Int.fdiv_eq_ediv_of_nonneg _ (by decide), w64_in (by omega) (by omega)]
      omega
    dsimp only
    rw [hm]
    refine ix_int h (Int.natCast_nonneg _) (by show (((i + j) / 2 : Nat) : Int) < (s.len : Int); omega) fun b o x hx hc => ldI.mk (hc _ ⟨_, h⟩) ?_
    rw [Int.toNat_natCast] at hx
    have hs := pos_spec (a := a) hu hx
    refine call58 (Less_int h ⟨(decide (x < a), ()), rfl, ?_⟩)
    refine cs.mk (fun hc1 => ?_) (fun hc1 => ?_)
    · have hc1 := hs.2 (of_decide_eq_true hc1)
      rw [w64_in (x := (((i + j) / 2 : Nat) : Int) + 1) (by omega) (by omega)]
      refine ⟨⟨(i + j) / 2 + 1, j, rfl, rfl, by omega, h2, h3, rfl⟩, ?_⟩
      show Int.toNat (j : Int) - Int.toNat ((((i + j) / 2 : Nat) : Int) + 1) < Int.toNat (j : Int) - Int.toNat (i : Int)
      omega
    · have hc1 : ¬ (i + j) / 2 < pos l a := fun h5 => of_decide_eq_false hc1 (hs.1 h5)
      refine ⟨⟨i, (i + j) / 2, rfl, rfl, h1, by omega, by omega, rfl⟩, ?_⟩
      show Int.toNat (((i + j) / 2 : Nat) : Int) - Int.toNat (i : Int) < Int.toNat (j : Int) - Int.toNat (i : Int)
      omega
  have hge : j ≤ i := by have := of_decide_eq_false hge; dsimp only at this; omega
  obtain rfl : i = pos l a := by omega
  refine jn.at (decide (a ∈ l), ()) (fun w' => w = w') (fun J hJ => cs.mk (fun h1 => ?_) (fun h1 => ?_)) (fun w7 hw7 => by subst hw7; exact k)
  · have h1 : pos l a < s.len := by have := of_decide_eq_true h1; dsimp only at this; omega
    refine ix_int h (by simp) (by show (pos l a : Int) < (s.len : Int); omega) fun b o x hx hc => ldI.mk (hc _ ⟨_, h⟩) ?_
    rw [Int.toNat_natCast] at hx
    refine jn.at (decide (a ∈ l), ()) (fun w' => w = w') (fun J1 hJ1 => cs.mk (fun h2 => ?_) (fun h2 => ?_)) (fun w7 hw7 => hJ _ hw7)
    · have h2 : x = a := by simpa using h2
      subst h2
      rw [decide_eq_true (List.mem_of_getElem? hx)] at hJ1
      exact hJ1 _ rfl
    · have h2 : x ≠ a := by simpa using h2
      have hno : a ∉ l := fun hm => by rw [(pos_mem hu).1 hm] at hx; cases hx; exact h2 rfl
      rw [decide_eq_false hno] at hJ1
      refine ix_int h (by simp) (by show (pos l a : Int) < (s.len : Int); omega) fun b o x hx hc => ldI.mk (hc _ ⟨_, h⟩) ?_
      refine call59 (isNaN_int ⟨(false, ()), rfl, ?_⟩)
      refine jn.at (false, ()) (fun w' => w = w') (fun J hJ => cs.no rfl (hJ _ rfl)) (fun w7 hw7 => ?_)
      subst hw7
      exact hJ1 _ rfl
  · have h1 : ¬ pos l a < s.len := by have := of_decide_eq_false h1; dsimp only at this; omega
    have hno : a ∉ l := fun hm => by have := pos_lt hu hm; omega
    rw [decide_eq_false hno] at hJ
    exact hJ _ rfl

theorem ov_int : OvT Pg 60 27 := ⟨Try.f60, 4, Try.func60, by kernel_rfl, by kernel_rfl, by kernel_rfl, by kernel_rfl⟩

theorem Delete_int {e w L s l R} {i : Nat} (h : Ok e (slc 1 s (ints l) :: L) w) (hil : i < l.length) (hb : l.length ≤ 2 ^ 31)
    (k : ∀ s' w', Ok e (slc 1 s' (ints (l.take i ++ l.drop (i + 1))) :: L) w' → R [vS s'] w') : sh35 s i (i + 1) R w := by
  unfold sh35
  have hl := h.slc_len
  rw [ints_len, Nat.mul_one] at hl
  refine del_body slT_int (by decide) h (by omega) (by omega) (by omega) (by omega) fun s' w' _ h' => k s' w' ?_
  rw [show ((i : Int) + 1).toNat = i + 1 by omega, Int.toNat_natCast, Nat.mul_one, Nat.mul_one] at h'
  simpa [ints, List.map_take, List.map_drop] using h'

theorem Insert_int {e w L s x l R} {i : Nat} {y : Int} (h : Ok e (slc 1 x (ints [y]) :: slc 1 s (ints l) :: L) w) (hil : i ≤ l.length) (hb : l.length ≤ 2 ^ 30)
    (k : ∀ s' w', Ok e (slc 1 s' (ints (l.take i ++ [y] ++ l.drop i)) :: L) w' → R [vS s'] w') : sh33 s i x R w := by
  unfold sh33
  have hl := h.p1.slc_len
  rw [ints_len, Nat.mul_one] at hl
  have hx := h.slc_len
  rw [ints_len, Nat.mul_one] at hx
  simp only [List.length_singleton] at hx
  refine ins_body (ki := .i64) slT_int (by kernel_rfl) ov_int (by decide) h (by omega) (by omega) (by omega) (by omega) fun s' w' _ h' => k s' w' ?_
  rw [Int.toNat_natCast, Nat.mul_one] at h'
  simpa [ints, List.map_take, List.map_drop] using h'

end Go.Proofs.Ytbdgglhfmanfbaa.B
