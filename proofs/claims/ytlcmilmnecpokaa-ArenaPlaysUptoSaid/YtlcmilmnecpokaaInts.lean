/- Contracts of the library's functions on []int, and of the laws' own comparison. -/
import Derived.Test.YtlcmilmnecpokaaSep
import Derived.Test.YtlcmilmnecpokaaSh0
import Derived.IntWalk
namespace Go.Proofs.Ytlcmilmnecpokaa.B
open Go
set_option linter.unusedVariables false

abbrev ints (xs : List Int) : List Value := xs.map (Value.int .i64)

theorem ints_one (xs : List Int) : ∀ v ∈ ints xs, v.oneCell' = true := by
  intro v hv; obtain ⟨x, _, rfl⟩ := List.mem_map.1 hv; rfl

theorem ints_len (xs : List Int) : (ints xs).length = xs.length := List.length_map ..

theorem ints_get {xs : List Int} {i : Nat} {x : Int} (h : xs[i]? = some x) : (ints xs)[i]? = some (.int .i64 x) := by simp [ints, h]

/-- a wrap that does nothing -/
theorem w64_in {x : Int} (h1 : -9223372036854775808 ≤ x) (h2 : x ≤ 9223372036854775807) : w64 x = x := IntWalk.i64_in _ ⟨h1, h2⟩

/-- reading an element of an owned slice of ints -/
theorem ix_int {e w L s xs} {i : Int} {f} (h : Ok e (slc 1 s (ints xs) :: L) w) (h0 : 0 ≤ i) (h1 : i < s.len) (k : ∀ b o x, xs[i.toNat]? = some x → (∀ w', (∃ L', Ok e (slc 1 s (ints xs) :: L') w') → w'.cell? ⟨b, o, none⟩ = some (.int .i64 x)) → f b o) : ix s i 1 f := by
  obtain ⟨hl, hv, hc, hcase⟩ := h.slcE
  rcases hcase with ⟨ha, hcap, hL⟩ | ⟨b, post, ha, hp, hk⟩
  · omega
  · have hlt : i.toNat < xs.length := by rw [ints_len] at hl; omega
    refine ⟨b, 0, ha, h0, h1, k b _ _ (List.getElem?_eq_getElem hlt) ?_⟩
    rintro w' ⟨L', h'⟩
    have := h'.slc_cells ha (i.toNat * 1) (.int .i64 xs[i.toNat]) (by rw [Nat.mul_one]; exact ints_get (List.getElem?_eq_getElem hlt))
    rw [add_off] at this
    exact this

end Go.Proofs.Ytlcmilmnecpokaa.B
