/- Contracts of the library's functions on []int, and of the laws' own comparison. -/
import Derived.Test.YtjamgdepbjipdaaSep
import Derived.Test.YtjamgdepbjipdaaSh0
import Derived.IntWalk
namespace Go.Proofs.Ytjamgdepbjipdaa.B
open Go
set_option linter.unusedVariables false

abbrev ints (xs : List Int) : List Value := xs.map (Value.int .i64)

theorem ints_one (xs : List Int) : ∀ v ∈ ints xs, v.oneCell' = true := by
  intro v hv; obtain ⟨x, _, rfl⟩ := List.mem_map.1 hv; rfl

theorem ints_len (xs : List Int) : (ints xs).length = xs.length := List.length_map ..

theorem ints_get {xs : List Int} {i : Nat} {x : Int} (h : xs[i]? = some x) : (ints xs)[i]? = some (.int .i64 x) := by simp [ints, h]

/-- a wrap that does nothing -/
theorem w64_in {x : Int} (h1 : -9223372036854775808 ≤ x) (h2 : x ≤ 9223372036854775807) : w64 x = x := IntWalk.i64_in _ ⟨h1, h2⟩

theorem slT_int : SlT Pg 31 1 := .of (by kernel_rfl)

theorem Clip_int {e w L s vs R} (h : Ok e (slc 1 s vs :: L) w) (k : ∀ s' w', s'.len = s.len → Ok e (slc 1 s' vs :: L) w' → R [vS s'] w') : sh69 s R w := by
  unfold sh69
  exact sb.clip h fun s' hl h' => k s' w hl h'

/-- reading an element of an owned slice of ints -/
theorem ix_int {e w L s xs} {i : Int} {f} (h : Ok e (slc 1 s (ints xs) :: L) w) (h0 : 0 ≤ i) (h1 : i < s.len) (k : ∀ b o x, xs[i.toNat]? = some x → (∀ w', (∃ L', Ok e (slc 1 s (ints xs) :: L') w') → w'.cell? ⟨b, o, none⟩ = some (.int .i64 x)) → f b o) : ix s i 1 f := by
  obtain ⟨hl, hv, hc, hcase⟩ := h.slcE
  rcases hcase with ⟨ha, hcap, hL⟩ | ⟨b, post, ha, hp, hk⟩
  · omega
  · have hlt : i.toNat < xs.length := by rw [ints_len] at hl; omega
    refine ⟨b, 0, ha, h0, h1, k b _ _ (List.getElem?_eq_getElem hlt) ?_⟩
    rintro w' ⟨L', h'⟩
    have := h'.slc_cells ha (i.toNat * 1) (.int .i64 xs[i.toNat]) (by rw [Nat.mul_one]; exact ints_get (List.getElem?_eq_getElem hlt))
    rw [add_off] at this
    exact this

theorem Same_int {e w L s t xs ys R} (h : Ok e (slc 1 s (ints xs) :: slc 1 t (ints ys) :: L) w) (hb : s.len ≤ 2 ^ 31) (k : ∀ w', Ok e (slc 1 s (ints xs) :: slc 1 t (ints ys) :: L) w' → R [.bool (xs == ys)] w') : sh24 s t R w := by
  unfold sh24
  have hs : xs.length = s.len := by have := h.slc_len; rw [ints_len] at this; omega
  have ht : ys.length = t.len := by have := h.p1.slc_len; rw [ints_len] at this; omega
  refine cs.mk (fun hn => ?_) (fun hn => ?_)
  · have : xs ≠ ys := by rintro rfl; simp [← hs, ← ht] at hn
    have hf : (xs == ys) = false := by simpa using this
    have := k w h
    rw [hf] at this; exact this
  · have hst : s.len = t.len := by simp at hn; omega
    refine lp.mk (fun t1 w1 => ∃ n : Nat, t1.1 = (n : Int) ∧ n ≤ s.len ∧ xs.take n = ys.take n ∧ Ok e (slc 1 s (ints xs) :: slc 1 t (ints ys) :: L) w1) (fun t1 _ => s.len - t1.1.toNat) ⟨0, rfl, Nat.zero_le _, rfl, h⟩ ?_
    rintro ⟨_, _⟩ w1 ⟨n, rfl, hn1, heq, h⟩
    refine cs.mk (fun hlt => ?_) (fun hge => ?_)
    · have hlt : n < s.len := by simpa using hlt
      refine dr.mk h fun w2 h => ?_
      refine ix_int h (by simp) (by simpa using hlt) fun b o x hx hc => ?_
      refine ldI.mk (hc _ ⟨_, h⟩) ?_
      refine ix_int h.p1 (by simp) (by simp; omega) fun b' o' y hy hc' => ?_
      refine ldI.mk (hc' _ ⟨_, h.p1⟩) ?_
      simp only [Int.toNat_natCast] at hx hy
      refine cs.mk (fun hne => ?_) (fun he => ?_)
      · have : xs ≠ ys := by rintro rfl; rw [hx] at hy; cases hy; simp at hne
        have hf : (xs == ys) = false := by simpa using this
        have := k w2 h
        rw [hf] at this; exact this
      · have hxy : x = y := by simpa using he
        subst hxy
        refine ⟨⟨n + 1, ?_, hlt, ?_, h⟩, ?_⟩
        · show w64 _ = _
          rw [w64_in (by omega) (by omega)]; rfl
        · rw [List.take_add_one, List.take_add_one, heq, hx, hy]
        · simp only
          rw [w64_in (by omega) (by omega)]
          omega
    · have hge : s.len ≤ n := by simpa using hge
      have hn2 : n = s.len := by omega
      have : xs = ys := by
        rw [List.take_of_length_le (by omega), List.take_of_length_le (by omega)] at heq
        exact heq
      have ht : (xs == ys) = true := by simpa using this
      have := k w1 h
      rw [ht] at this; exact this

end Go.Proofs.Ytjamgdepbjipdaa.B
