/- The laws' comparison of rows, of any rows that may be read. -/
import Derived.Test.YtadnjjnnkhofdaaInts
import Derived.Test.YtadnjjnnkhofdaaLaw
import Derived.Test.YtadnjjnnkhofdaaSep5
namespace Go.Proofs.Ytadnjjnnkhofdaa.B
open Go
set_option linter.unusedVariables false

theorem Same_rd {e w A B L s t xs ys R} (h : Ok e (A :: B :: L) w) (hs : Rd e A .i64 s xs) (ht : Rd e B .i64 t ys) (hb : s.len ≤ 2 ^ 31) (k : ∀ w', Ok e (A :: B :: L) w' → R [.bool (xs == ys)] w') : sh15 s t R w := by
  unfold sh15
  have hs1 := hs.1
  have ht1 := ht.1
  refine cs.mk (fun hn => ?_) (fun hn => ?_)
  · have : xs ≠ ys := by rintro rfl; simp [← hs1, ← ht1] at hn
    have hf : (xs == ys) = false := by simpa using this
    have := k w h
    rw [hf] at this; exact this
  · have hst : s.len = t.len := by simp at hn; omega
    refine lp.mk (fun t1 w1 => ∃ n : Nat, t1.1 = (n : Int) ∧ n ≤ s.len ∧ xs.take n = ys.take n ∧ Ok e (A :: B :: L) w1) (fun t1 _ => s.len - t1.1.toNat) ⟨0, rfl, Nat.zero_le _, rfl, h⟩ ?_
    rintro ⟨_, _⟩ w1 ⟨n, rfl, hn1, heq, h⟩
    refine cs.mk (fun hlt => ?_) (fun hge => ?_)
    · have hlt : n < s.len := by simpa using hlt
      refine dr.mk h fun w2 h => ?_
      refine ix_rd hs (by simp) (by simpa using hlt) fun b o x hx hc => ldI.mk (hc _ _ h) ?_
      refine ix_rd ht (by simp) (by simp; omega) fun b' o' y hy hc' => ldI.mk (hc' _ _ h.p1) ?_
      simp only [Int.toNat_natCast] at hx hy
      refine cs.mk (fun hne => ?_) (fun he => ?_)
      · have : xs ≠ ys := by rintro rfl; rw [hx] at hy; cases hy; simp at hne
        have hf : (xs == ys) = false := by simpa using this
        have := k w2 h
        rw [hf] at this; exact this
      · have hxy : x = y := by simpa using he
        subst hxy
        refine ⟨⟨n + 1, ?_, hlt, ?_, h⟩, ?_⟩
        · show w64 _ = _
          rw [w64_in (by omega) (by omega)]; rfl
        · rw [List.take_add_one, List.take_add_one, heq, hx, hy]
        · simp only
          rw [w64_in (by omega) (by omega)]
          omega
    · have hge : s.len ≤ n := by simpa using hge
      have hn2 : n = s.len := by omega
      have : xs = ys := by
        rw [List.take_of_length_le (by omega), List.take_of_length_le (by omega)] at heq
        exact heq
      have ht : (xs == ys) = true := by simpa using this
      have := k w1 h
      rw [ht] at this; exact this

end Go.Proofs.Ytadnjjnnkhofdaa.B
