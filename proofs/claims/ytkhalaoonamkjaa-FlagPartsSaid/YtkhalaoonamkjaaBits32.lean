/- Bits of 32. -/
import Derived.Test.YtkhalaoonamkjaaIds
import Derived.IntWalk
import Derived.Test.YtkhalaoonamkjaaLaw
namespace Go.Proofs.Ytkhalaoonamkjaa.B
open Go
set_option linter.unusedVariables false

abbrev V32 (x : Int) : BitVec 32 := BitVec.ofInt 32 x

abbrev T32 (v : BitVec 32) : Int := (v.toNat : Int)

theorem T32_in (v : BitVec 32) : 0 ≤ T32 v ∧ T32 v ≤ 4294967295 := by
  have := v.isLt
  simp only [T32]
  omega

theorem V_T (v : BitVec 32) : V32 (T32 v) = v := by simp [V32, T32]

theorem bAnd_T (x y : Int) : bAnd .u32 x y = T32 (V32 x &&& V32 y) := IntWalk.u32_in _ (T32_in _)

theorem bOr_T (x y : Int) : bOr .u32 x y = T32 (V32 x ||| V32 y) := IntWalk.u32_in _ (T32_in _)

theorem bAndNot_T (x y : Int) : bAndNot .u32 x y = T32 (V32 x &&& ~~~(V32 y)) := IntWalk.u32_in _ (T32_in _)

theorem T32_ex {x : Int} (h : (Lit.int .u32 x).wf = true) : ∃ v, x = T32 v := by
  have h2 := wf_u32 h
  refine ⟨BitVec.ofNat 32 x.toNat, ?_⟩
  simp only [T32, BitVec.toNat_ofNat]
  omega

theorem T32_inj {a b : BitVec 32} : T32 a = T32 b ↔ a = b := by
  constructor
  · intro h
    have : a.toNat = b.toNat := by simp only [T32] at h; omega
    exact BitVec.eq_of_toNat_eq this
  · rintro rfl; rfl

theorem T32_zero : T32 0 = 0 := rfl

theorem T32_eq0 {a : BitVec 32} : T32 a = 0 ↔ a = 0 := by rw [← T32_zero, T32_inj]

end Go.Proofs.Ytkhalaoonamkjaa.B
