/- Bytes that tasks left, one row a task. -/
import Derived.Test.YtbhmejmkoefahaaBytes
import Derived.Test.YtbhmejmkoefahaaFlat
import Derived.Test.YtbhmejmkoefahaaIds
namespace Go.Proofs.Ytbhmejmkoefahaa.B
open Go
set_option linter.unusedVariables false

theorem slT_b : SlT Pg 27 1 := .of (by kernel_rfl)

theorem bsT : BsT Pg 27 9 := .of (by kernel_rfl)

theorem mkT_b : MkT Pg 27 := .of (by kernel_rfl)

theorem mkB : ∃ el, Pg.underlying 27 = some (.slice el) ∧ Pg.underlying el = some (.int .u8) := let ⟨el, h1, h2, _⟩ := bsT.ex; ⟨el, h1, h2⟩

theorem str_eq (l : List UInt8) : ((bs l).toList == (bs l).toList) = true := by simp

/-- bytes, copied -/
theorem Clone_b {e w A L x l R} (h : Ok e (A :: L) w) (r : RdB e A x l) (hb : l.length ≤ 2 ^ 31) (k : ∀ s w', s.len = l.length → Ok e (slc 1 s (by8 l) :: A :: L) w' → R [vS s] w') : sh31 x R w := by
  unfold sh31
  have hlen := r.len
  refine cs.mk (fun hn => ?_) (fun hn => ?_)
  · have hxa : x.a = none := by simpa using hn
    have e1 := r.none hxa
    subst e1
    exact k ⟨none, 0, 0⟩ w rfl (h.slcNil 1)
  · refine al.mk h fun b w1 h => ?_
    have h := h.slcNew (n := 0) (sz := 1) rfl (by simp)
    refine ef.append slT_b (by decide) h (by rw [by8_len]; omega) (fun ha => by rw [r.none ha]; rfl) (fun a ha => r.cells h.p1 ha) by8_one (by simp only; omega) fun s' w2 hl2 h => ?_
    rw [List.nil_append] at h
    exact k s' w2 (by simp only at hl2; omega) h

theorem Clip_b {e w L s vs R} (h : Ok e (slc 1 s vs :: L) w) (k : ∀ s', s'.len = s.len → Ok e (slc 1 s' vs :: L) w → R [vS s'] w) : sh30 s R w := by
  unfold sh30
  exact sb.clip h fun s' hl h => k s' hl h

def bagP (σ : Int → Sl) (s : Int → List UInt8) (I : List Int) : SP := oksH (I.map fun i => rdb (σ i) (s i))

theorem bag_nil {e w L σ s} (h : Ok e L w) : Ok e (bagP σ s [] :: L) w := Ok.pack (M := []) h

theorem bag_take {e w L σ s I i} (h : Ok e (bagP σ s (i :: I) :: L) w) : Ok e (rdb (σ i) (s i) :: bagP σ s I :: L) w := by
  have h := h.unpack
  simp only [List.map_cons, List.cons_append] at h
  have h2 : Ok e ((I.map fun i => rdb (σ i) (s i)) ++ (rdb (σ i) (s i) :: L)) w := h.perm (by
    have := List.perm_middle (a := rdb (σ i) (s i)) (l₁ := I.map fun i => rdb (σ i) (s i)) (l₂ := L)
    exact this.symm)
  exact (Ok.pack h2).p1

theorem bag_put {e w L σ s I i} (h : Ok e (rdb (σ i) (s i) :: bagP σ s I :: L) w) : Ok e (bagP σ s (i :: I) :: L) w := by
  have h := h.p1.unpack
  refine Ok.pack (M := (i :: I).map fun i => rdb (σ i) (s i)) ?_
  simp only [List.map_cons, List.cons_append]
  exact h.perm List.perm_middle

theorem bag_perm {e w L σ s I J} (p : I.Perm J) (h : Ok e (bagP σ s I :: L) w) : Ok e (bagP σ s J :: L) w :=
  Ok.pack (M := J.map fun i => rdb (σ i) (s i)) (h.unpack.perm ((p.map _).append_right L))

theorem bag_congr {e w L σ s σ' s' I} (hc : ∀ i ∈ I, σ i = σ' i ∧ s i = s' i) (h : Ok e (bagP σ s I :: L) w) : Ok e (bagP σ' s' I :: L) w := by
  have : (I.map fun i => rdb (σ i) (s i)) = I.map fun i => rdb (σ' i) (s' i) := List.map_congr_left fun i hi => by rw [(hc i hi).1, (hc i hi).2]
  unfold bagP at h
  rw [this] at h
  exact h

/-- a row's bytes, looked at where they are -/
theorem bag_rd {e w L σ s I i} (h : Ok e (bagP σ s I :: L) w) (hi : i ∈ I) : RdB e (bagP σ s I) (σ i) (s i) := by
  obtain ⟨J, p⟩ : ∃ J, I.Perm (i :: J) := by
    obtain ⟨l1, l2, rfl⟩ := List.append_of_mem hi
    exact ⟨l1 ++ l2, List.perm_middle⟩
  have r := rdb_rd (bag_take (bag_perm p h))
  exact r.mono fun L w h => ⟨_, bag_take (bag_perm p h)⟩

theorem Ok.rdbR {e w L x l} (h : Ok e (rdb x l :: L) w) : l.length = x.len := (rdb_rd h).len

end Go.Proofs.Ytbhmejmkoefahaa.B
