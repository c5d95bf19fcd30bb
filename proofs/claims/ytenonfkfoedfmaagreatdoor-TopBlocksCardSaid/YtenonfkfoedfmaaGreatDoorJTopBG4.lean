/- Texts of ours, joined: Blk, BlkW. -/
import Derived.Test.YtenonfkfoedfmaaGreatDoorJTopB7
import Derived.Test.YtenonfkfoedfmaaGreatDoorJTopBG1
import Derived.Test.YtenonfkfoedfmaaGreatDoorJTopBG2
set_option linter.unusedSimpArgs false
set_option linter.unusedVariables false
/- TopBlocks: the plain law. -/
namespace Go.Proofs.YtenonfkfoedfmaaGreatDoor.B
open Go
set_option linter.unusedVariables false

namespace Blk

def cf (ps : List (Bool × Int × Int)) : ConfM := ⟨1, [(1, true)], [], [], [], ps⟩

def mm : MM := ⟨[⟨0, 0, 0, []⟩], [MM.mt0, ⟨1, 1, 0⟩] ++ List.replicate 15 MM.mt0⟩

/-- one task runs, and there are pools -/
def KB (P : List PoolM) : KM := ⟨⟨[], false, false⟩, 1, 0, 0, 0, [], [(1, 1)], mm, [⟨0, 0, 0, 2, false, 1, 1, 0, 0, 0, 0, 0⟩], [], [], P, 1⟩

theorem new_eq (ps : List (Bool × Int × Int)) : KM.new (cf ps) = some (KB (List.zipWith (fun a p => ⟨p.1, a, p.2.1, p.2.2, mp0⟩) (layoutM 0 ps) ps)) := by kernel_rfl

def small (ps : List (Bool × Int × Int)) : Prop := ∀ p ∈ ps, 1 ≤ p.2.1 ∧ p.2.1 ≤ 6 ∧ 1 ≤ p.2.2 ∧ p.2.2 ≤ 40

theorem mul_sm {n z : Int} (hn : 1 ≤ n ∧ n ≤ 6) (hz : 1 ≤ z ∧ z ≤ 40) : 4 ≤ n * stp z ∧ n * stp z ≤ 240 ∧ z ≤ stp z ∧ stp z ≤ 40 ∧ stp z % 4 = 0 := by
  have h1 : 4 ≤ stp z ∧ stp z ≤ 40 ∧ z ≤ stp z ∧ stp z % 4 = 0 := by unfold stp; omega
  have : n = 1 ∨ n = 2 ∨ n = 3 ∨ n = 4 ∨ n = 5 ∨ n = 6 := by omega
  rcases this with rfl | rfl | rfl | rfl | rfl | rfl <;> omega

theorem pools_ok : ∀ (ps : List (Bool × Int × Int)) (a : Int), small ps → 0 ≤ a → a + 300 * (ps.length : Int) ≤ 60000 → poolsOk a ps = true := by
  intro ps
  induction ps with
  | nil => intro a _ _ _; rfl
  | cons p r ih =>
    intro a h h0 h1
    obtain ⟨p1, p2, p3, p4⟩ := h p (List.mem_cons_self ..)
    have hm := mul_sm ⟨p1, p2⟩ ⟨p3, p4⟩
    have hs : a ≤ stp a ∧ stp a ≤ a + 3 ∧ stp a % 4 = 0 := by unfold stp; omega
    simp only [List.length_cons] at h1
    simp only [poolsOk, Bool.and_eq_true, decide_eq_true_eq]
    refine ⟨?_, ih _ (fun q hq => h q (List.mem_cons_of_mem _ hq)) (by omega) (by omega)⟩
    unfold mpGood
    omega

theorem ok_cf {ps : List (Bool × Int × Int)} (h : small ps) (hl : ps.length ≤ 8) : (cf ps).ok = true := by
  simp [ConfM.ok, cf, pools_ok ps 0 h (by omega) (by omega), hl]

/-- where a pool begins -/
def ad (ps : List (Bool × Int × Int)) (i : Nat) : Int := stp (bytesM 0 (ps.take i))

theorem ad_mono {ps : List (Bool × Int × Int)} (h : small ps) (hk : poolsOk 0 ps = true) {j : Nat} : ∀ (d : Nat), j + d ≤ ps.length → bytesM 0 (ps.take j) ≤ bytesM 0 (ps.take (j + d)) := by
  intro d
  induction d with
  | zero => intro _; exact Int.le_refl _
  | succ d ih =>
    intro hl
    have h1 := ih (by omega)
    obtain ⟨-, h2⟩ := pools_get hk (List.getElem?_eq_getElem (show j + d < ps.length by omega))
    have h3 := h _ (List.getElem_mem (show j + d < ps.length by omega))
    have hm := mul_sm ⟨h3.1, h3.2.1⟩ ⟨h3.2.2.1, h3.2.2.2⟩
    rw [show j + (d + 1) = j + d + 1 by omega, h2]
    have : bytesM 0 (ps.take (j + d)) ≤ stp (bytesM 0 (ps.take (j + d))) := by unfold stp; omega
    omega

structure Inv (ps : List (Bool × Int × Int)) (P : List PoolM) (A : List (Nat × Int)) : Prop where
  len : P.length = ps.length
  ok : ∀ i p, P[i]? = some p → ∃ x, ps[i]? = some x ∧ p.a = ad ps i ∧ p.n = x.2.1 ∧ p.z = x.2.2 ∧ MPo p.a p.n p.z p.q ∧ p.q.S = []
  held : ∀ i p v, P[i]? = some p → (v ∈ p.q.held ↔ (i, v) ∈ A)
  nodup : A.Nodup
  mem : ∀ x ∈ A, x.1 < ps.length

theorem start {ps : List (Bool × Int × Int)} (h : small ps) (hk : poolsOk 0 ps = true) : Inv ps (List.zipWith (fun a p => ⟨p.1, a, p.2.1, p.2.2, mp0⟩) (layoutM 0 ps) ps) [] := by
  refine ⟨by simp [layout_len], fun i p hp => ?_, fun i p v hp => ?_, List.nodup_nil, by simp⟩
  · obtain ⟨a, x, ha, hx, rfl⟩ := List.getElem?_zipWith_eq_some.1 hp
    have hi := (List.getElem?_eq_some_iff.1 hx).1
    rw [layout_get hi] at ha
    cases ha
    obtain ⟨h1, -⟩ := pools_get hk hx
    exact ⟨x, hx, rfl, rfl, rfl, mp0_ok h1, rfl⟩
  · obtain ⟨a, x, ha, hx, rfl⟩ := List.getElem?_zipWith_eq_some.1 hp
    simp [mp0]

/-- a block that is had lies in its pool -/
theorem Inv.bd {ps : List (Bool × Int × Int)} {P : List PoolM} {A : List (Nat × Int)} (h : Inv ps P A) (hs : small ps) {i : Nat} {v : Int} (hm : (i, v) ∈ A) :
    ∃ p k, P[i]? = some p ∧ v = ad ps i + (k : Nat) * stp p.z ∧ (k : Int) * stp p.z + stp p.z ≤ p.n * stp p.z ∧ (1 ≤ p.z ∧ p.z ≤ 40) ∧ (1 ≤ p.n ∧ p.n ≤ 6) ∧ v ∈ p.q.held ∧ ∃ x, ps[i]? = some x ∧ p.n = x.2.1 ∧ p.z = x.2.2 := by
  have hi := h.mem _ hm
  have hip : P[i]? = some (P[i]'(by rw [h.len]; exact hi)) := List.getElem?_eq_getElem _
  generalize hp : P[i]'(by rw [h.len]; exact hi) = p at hip
  obtain ⟨x, h1, h2, h3, h4, h5, h6⟩ := h.ok i p hip
  have hv := (h.held i p v hip).2 hm
  obtain ⟨-, -, k, h7, h8⟩ := h5.bd (List.mem_append_right _ hv)
  have hx := hs x (List.mem_of_getElem? h1)
  have hz : 1 ≤ p.z ∧ p.z ≤ 4096 := ⟨h5.c.2.2.2.2.1, h5.c.2.2.2.2.2.1⟩
  exact ⟨p, k, hip, by rw [h8, h2], mul_lt_stp hz (by have := h5.had; omega), by omega, by omega, hv, x, h1, h3, h4⟩

theorem apart_other {ps : List (Bool × Int × Int)} {P : List PoolM} {A B : List (Nat × Int)} {i j : Nat} {u v : Int} (hs : small ps) (hk : poolsOk 0 ps = true) {Q : List PoolM} (h : Inv ps P A) (h' : Inv ps Q B) (hu : (i, u) ∈ A) (hv : (j, v) ∈ B) (hij : i < j) {x : Bool × Int × Int} (hx : ps[i]? = some x) : u + x.2.2 ≤ v := by
  obtain ⟨p, k, h1, h2, h3, h4, h5, -, y, h6, h7, h8⟩ := h.bd hs hu
  obtain ⟨q, m, g1, g2, g3, g4, g5, -, z, g6, g7, g8⟩ := h'.bd hs hv
  rw [hx] at h6
  cases h6
  obtain ⟨-, e1⟩ := pools_get hk hx
  have hj := (List.getElem?_eq_some_iff.1 g6).1
  have hmono := ad_mono hs hk (j := i + 1) (j - (i + 1)) (by omega)
  rw [show i + 1 + (j - (i + 1)) = j by omega, e1] at hmono
  have hmul : 0 ≤ (m : Int) * stp q.z := Int.mul_nonneg (by omega) (by unfold stp; omega)
  have hst : bytesM 0 (ps.take j) ≤ stp (bytesM 0 (ps.take j)) := by unfold stp; omega
  have hzz : p.z ≤ stp p.z := by unfold stp; omega
  unfold ad at h2 g2
  rw [h7, h8] at h3
  rw [h8] at h2 hzz
  omega

theorem poll_step {ps : List (Bool × Int × Int)} {P : List PoolM} {A : List (Nat × Int)} (h : Inv ps P A) (hs : small ps) (hk : poolsOk 0 ps = true) {i : Nat} {p : PoolM} (hp : P[i]? = some p) :
    ((p.q.poll p.a p.n p.z).1.2 = false → (p.q.poll p.a p.n p.z).2 = p.q) ∧
    ((p.q.poll p.a p.n p.z).1.2 = true → ∃ v, (p.q.poll p.a p.n p.z).1.1 = v ∧ Inv ps (P.set i { p with q := (p.q.poll p.a p.n p.z).2 }) (A ++ [(i, v)]) ∧
      0 ≤ v ∧ v % 4 = 0 ∧ v + p.z ≤ bytesM 0 ps ∧ v ≤ 65536 ∧ ∀ j x y, (j, x) ∈ A → ps[j]? = some y → v + p.z ≤ x ∨ x + y.2.2 ≤ v) := by
  obtain ⟨c, h1, h2, h3, h4, h5, h6⟩ := h.ok i p hp
  have hi := (List.getElem?_eq_some_iff.1 h1).1
  have hq := poll_ok h5
  have hnd := h5.nodup
  have hcase : ((p.q.poll p.a p.n p.z).1.2 = false ∧ (p.q.poll p.a p.n p.z).2 = p.q) ∨
      ∃ v, (p.q.poll p.a p.n p.z).1 = (v, true) ∧ v ∉ p.q.held ∧ (p.q.poll p.a p.n p.z).2.held = insU p.q.held v ∧ (p.q.poll p.a p.n p.z).2.S = [] := by
    unfold MP.poll
    split
    · next x hx =>
      have hb := last_app hx
      exact .inr ⟨x, rfl, fun hm => (List.nodup_append.1 hnd).2.2 x (by rw [hb]; simp) x hm rfl, rfl, h6⟩
    · next hx =>
      split
      · exact .inr ⟨_, rfl, fun hm => h5.new (List.mem_append_right _ hm), rfl, h6⟩
      · exact .inl ⟨rfl, rfl⟩
  rcases hcase with ⟨e1, e2⟩ | ⟨v, e1, e2, e3, e4⟩
  · exact ⟨fun _ => e2, fun hc => by rw [e1] at hc; cases hc⟩
  refine ⟨fun hc => (by rw [e1] at hc; cases hc), fun _ => ⟨v, (by rw [e1]), ?_⟩⟩
  have hmem : ∀ x, x ∈ (p.q.poll p.a p.n p.z).2.held ↔ x = v ∨ x ∈ p.q.held := fun x => by rw [e3, (insU_perm _ _).mem_iff, List.mem_cons]
  have hno : (i, v) ∉ A := fun hm => e2 ((h.held i p v hp).2 hm)
  have hinv : Inv ps (P.set i { p with q := (p.q.poll p.a p.n p.z).2 }) (A ++ [(i, v)]) := by
    refine ⟨by rw [List.length_set]; exact h.len, fun j r hr => ?_, fun j r x hr => ?_, ?_, fun x hx => ?_⟩
    · rw [List.getElem?_set] at hr
      by_cases hij : i = j
      · subst hij
        rw [if_pos rfl, if_pos (by rw [h.len]; exact hi)] at hr
        cases hr
        exact ⟨c, h1, h2, h3, h4, hq, e4⟩
      · rw [if_neg hij] at hr
        exact h.ok j r hr
    · rw [List.getElem?_set] at hr
      rw [List.mem_append, List.mem_singleton]
      by_cases hij : i = j
      · subst hij
        rw [if_pos rfl, if_pos (by rw [h.len]; exact hi)] at hr
        cases hr
        rw [hmem, ← h.held i p x hp]
        constructor
        · rintro (rfl | hx)
          · exact .inr rfl
          · exact .inl hx
        · rintro (hx | hx)
          · exact .inr hx
          · exact .inl (congrArg Prod.snd hx)
      · rw [if_neg hij] at hr
        rw [h.held j r x hr]
        exact ⟨.inl, fun hc => hc.resolve_right fun he => hij (congrArg Prod.fst he).symm⟩
    · refine List.nodup_append.2 ⟨h.nodup, by simp, fun a ha b hb => ?_⟩
      rw [List.mem_singleton] at hb
      subst hb
      intro he
      exact hno (he ▸ ha)
    · rcases List.mem_append.1 hx with hx | hx
      · exact h.mem x hx
      · rw [List.mem_singleton] at hx
        subst hx
        exact hi
  have hvm : (i, v) ∈ A ++ [(i, v)] := by simp
  obtain ⟨r, k, b1, b2, b3, b4, b5, b6, y, b7, b8, b9⟩ := hinv.bd hs hvm
  have er : r.z = p.z ∧ r.n = p.n := by
    rw [List.getElem?_set, if_pos rfl, if_pos (by rw [h.len]; exact hi)] at b1
    cases b1
    exact ⟨rfl, rfl⟩
  rw [er.1] at b2 b3 b4
  rw [er.2] at b3 b5
  have hm4 : (k : Int) * stp p.z % 4 = 0 := by
    have : stp p.z = ((p.z + 3) / 4) * 4 := rfl
    rw [this, ← Int.mul_assoc]
    exact Int.mul_emod_left _ _
  have had4 : ad ps i % 4 = 0 := by unfold ad stp; omega
  have hb0 := pools_bd hk i
  have hmul : 0 ≤ (k : Int) * stp p.z := Int.mul_nonneg (by omega) (by unfold stp; omega)
  have had0 : 0 ≤ ad ps i := by unfold ad stp; omega
  have hzz : p.z ≤ stp p.z := by unfold stp; omega
  obtain ⟨hg, e5⟩ := pools_get hk h1
  have hend := ad_mono hs hk (j := i + 1) (ps.length - (i + 1)) (by omega)
  rw [show i + 1 + (ps.length - (i + 1)) = ps.length by omega, List.take_length, e5] at hend
  have hbl := pools_bd hk ps.length
  rw [List.take_length] at hbl
  rw [h3, h4] at b3
  have hle : v + p.z ≤ bytesM 0 ps := by
    unfold ad at b2
    rw [h4] at b2 hzz ⊢
    omega
  refine ⟨hinv, by omega, by omega, hle, by omega, fun j x y hm hy => ?_⟩
  by_cases hij : i = j
  · subst hij
    rw [h1] at hy
    cases hy
    obtain ⟨r2, k2, d1, d2, d3, d4, d5, d6, y2, d7, d8, d9⟩ := h.bd hs hm
    rw [hp] at d1
    cases d1
    have hz : 1 ≤ p.z ∧ p.z ≤ 4096 := by omega
    have hne : x ≠ v := fun he => hno (he ▸ hm)
    rw [← h4]
    rcases Nat.lt_trichotomy k k2 with hlt | heq | hgt
    · have := mul_lt_stp hz (i := k) (j := k2) (by omega)
      left; omega
    · exact absurd (by rw [d2, b2, heq]) hne
    · have := mul_lt_stp hz (i := k2) (j := k) (by omega)
      right; omega
  · rcases Nat.lt_or_ge i j with hlt | hge
    · left
      rw [h4]
      exact apart_other hs hk hinv h hvm hm hlt h1
    · right
      exact apart_other hs hk h hinv hm hvm (by omega) hy

theorem call_poll {P : List PoolM} {i : Nat} {p : PoolM} (hp : P[i]? = some p) : (KB P).call 1 (cPol ((i : Int) + 1)) = some (if (p.q.poll p.a p.n p.z).1.2 = true then (0, (p.q.poll p.a p.n p.z).1.1) else (-50, 0), KB (P.set i { p with q := (p.q.poll p.a p.n p.z).2 })) := by
  have hi := (List.getElem?_eq_some_iff.1 hp).1
  unfold KM.call
  rw [if_neg (fun h => h rfl)]
  unfold cPol
  rw [if_neg (by show ¬ ¬ (1 ≤ (i : Int) + 1 ∧ (i : Int) + 1 ≤ (P.length : Int)); omega)]
  have hg : getO (KB P).pools ((i : Int) + 1 - 1) = some p := by
    show getO P _ = _
    rw [show (i : Int) + 1 - 1 = (i : Int) by omega, getO_nat, hp]
  rw [hg, Option.bind_some, show ((i : Int) + 1 - 1).toNat = i by omega]
  rfl

theorem put_step {ps : List (Bool × Int × Int)} {P : List PoolM} {A : List (Nat × Int)} {i : Nat} {v : Int} (h : Inv ps P ((i, v) :: A)) :
    ∃ p, P[i]? = some p ∧ (p.q.put v).1 = (0, 0) ∧ Inv ps (P.set i { p with q := (p.q.put v).2 }) A ∧ ((p.q.put v).2.put v) = ((0, -17), (p.q.put v).2) := by
  have hi := h.mem _ (List.mem_cons_self ..)
  dsimp only at hi
  have hip : P[i]? = some (P[i]'(by rw [h.len]; exact hi)) := List.getElem?_eq_getElem _
  generalize hp : P[i]'(by rw [h.len]; exact hi) = p at hip
  obtain ⟨c, h1, h2, h3, h4, h5, h6⟩ := h.ok i p hip
  have hv := (h.held i p v hip).2 (List.mem_cons_self ..)
  have hnd := h.nodup
  rw [List.nodup_cons] at hnd
  have e : p.q.put v = ((0, 0), ⟨[], p.q.had, p.q.back ++ [v], delU p.q.held v⟩) := by
    unfold MP.put
    rw [if_pos hv, h6]
  have hperm := delU_perm h5.up hv
  have hhn : p.q.held.Nodup := (List.nodup_append.1 h5.nodup).2.1
  have hno : v ∉ delU p.q.held v := (List.nodup_cons.1 (hperm.nodup_iff.1 hhn)).1
  have hok := put_ok (x := v) h5
  refine ⟨p, hip, by rw [e], ?_, ?_⟩
  · rw [e] at hok ⊢
    refine ⟨by rw [List.length_set]; exact h.len, fun j r hr => ?_, fun j r x hr => ?_, hnd.2, fun x hx => h.mem x (List.mem_cons_of_mem _ hx)⟩
    · rw [List.getElem?_set] at hr
      by_cases hij : i = j
      · subst hij
        rw [if_pos rfl, if_pos (by rw [h.len]; exact hi)] at hr
        cases hr
        exact ⟨c, h1, h2, h3, h4, hok, rfl⟩
      · rw [if_neg hij] at hr
        exact h.ok j r hr
    · rw [List.getElem?_set] at hr
      by_cases hij : i = j
      · subst hij
        rw [if_pos rfl, if_pos (by rw [h.len]; exact hi)] at hr
        cases hr
        have hx : x ∈ p.q.held ↔ x = v ∨ x ∈ delU p.q.held v := by rw [hperm.mem_iff, List.mem_cons]
        have hh := h.held i p x hip
        rw [List.mem_cons] at hh
        show x ∈ delU p.q.held v ↔ _
        constructor
        · intro hm
          rcases hh.1 (hx.2 (.inr hm)) with he | he
          · have hxv : x = v := congrArg Prod.snd he
            exact absurd (hxv ▸ hm) hno
          · exact he
        · intro hm
          rcases hx.1 (hh.2 (.inr hm)) with he | he
          · exact absurd (he ▸ hm) hnd.1
          · exact he
      · rw [if_neg hij] at hr
        rw [h.held j r x hr, List.mem_cons]
        exact ⟨fun hc => hc.resolve_left fun he => hij (congrArg Prod.fst he).symm, .inr⟩
  · rw [e]
    unfold MP.put
    rw [if_neg hno]

theorem call_put {P : List PoolM} {i : Nat} {p : PoolM} {v : Int} (hp : P[i]? = some p) (hz : (p.q.put v).1.1 = 0) : (KB P).call 1 (cPut ((i : Int) + 1) v) = some (((p.q.put v).1.2, 0), KB (P.set i { p with q := (p.q.put v).2 })) := by
  have hi := (List.getElem?_eq_some_iff.1 hp).1
  unfold KM.call
  rw [if_neg (fun h => h rfl)]
  unfold cPut
  rw [if_neg (by show ¬ ¬ (1 ≤ (i : Int) + 1 ∧ (i : Int) + 1 ≤ (P.length : Int)); omega)]
  have hg : getO (KB P).pools ((i : Int) + 1 - 1) = some p := by
    show getO P _ = _
    rw [show (i : Int) + 1 - 1 = (i : Int) by omega, getO_nat, hp]
  rw [hg, Option.bind_some, show ((i : Int) + 1 - 1).toNat = i by omega, hz]
  rfl

theorem free {ps : List (Bool × Int × Int)} {P : List PoolM} (h : Inv ps P []) {i : Nat} {p : PoolM} (hp : P[i]? = some p) : p.q.held = [] ∧ p.q.S = [] ∧ ∃ x, ps[i]? = some x ∧ p.n = x.2.1 := by
  obtain ⟨c, h1, h2, h3, h4, h5, h6⟩ := h.ok i p hp
  refine ⟨?_, h6, c, h1, h3⟩
  cases hh : p.q.held with
  | nil => rfl
  | cons v r =>
    have := (h.held i p v hp).1 (by rw [hh]; exact List.mem_cons_self ..)
    cases this

end Blk

end Go.Proofs.YtenonfkfoedfmaaGreatDoor.B


/- TopBlocks. -/
namespace Go.Proofs.YtenonfkfoedfmaaGreatDoor.B
open Go
set_option linter.unusedVariables false

theorem slT_confPool : SlT Pg 30 3 := .of (by kernel_rfl)

theorem conf_pools {e L w x m} {l : List (Int × Bool)} {ps : List (Bool × Int × Int)} (tic : Int) (h : Ok e (slc 2 x (flat taC l) :: slc 3 m (flat seC ps) :: L) w) : Ok e (cfR ⟨tic, l, [], [], [], ps⟩ ⟨x, nilS, nilS, nilS, m⟩ L) w := by
  have h := ((h.slcNil 2).slcNil 2).slcNil 3
  have h2 : Ok e (slc 2 x (flat taC l) :: slc 3 nilS [] :: slc 2 nilS [] :: slc 2 nilS [] :: slc 3 m (flat seC ps) :: L) w := h.p3
  exact h2

/-- where the last pool ends -/
theorem Bytes_conf {e w L c S R} (h : Ok e (slc 3 S.ps (flat seC c.pools) :: L) w) (hl : c.pools.length ≤ 8) (hp : poolsOk 0 c.pools = true) (k : ∀ w', Ok e (slc 3 S.ps (flat seC c.pools) :: L) w' → R [.int .i64 (bytesM 0 c.pools)] w') : sh37 (cfV c S) R w := by
  unfold sh37
  have l5 : c.pools.length = S.ps.len := slc_flat_len seC_len (by decide) h
  refine al.mk h fun b w1 h => ldS.mk (h.cell rfl) ?_
  refine lp.mk (fun t w1 => ∃ i : Nat, @Eq Int t.2.1 (i : Int) ∧ @Eq Int t.1 (bytesM 0 (c.pools.take i)) ∧ i ≤ c.pools.length ∧ Ok e (slc 3 S.ps (flat seC c.pools) :: L) w1)
    (fun t _ => Int.toNat (Int.sub c.pools.length t.2.1)) ⟨0, rfl, rfl, by omega, h.drop⟩ ?_
  clear h
  rintro ⟨(at' : Int), (t : Int), _⟩ w3 ⟨i, (rfl : t = (i : Int)), (rfl : at' = _), hi, h⟩
  dsimp only at h ⊢
  refine cs.mk (fun h2 => ?_) (fun h2 => ?_)
  · have h2 : i < c.pools.length := by have := of_decide_eq_true h2; omega
    obtain ⟨hg, hn⟩ := pools_get hp (List.getElem?_eq_getElem h2)
    have hbd := pools_bd hp i
    have hg2 := hg
    obtain ⟨-, -, -, g1, g2, g3, g4, -⟩ := hg2
    refine ix_pool h h2 fun b2 o2 hc2 => ldB.mk (hc2 w3 ⟨_, h⟩).1 (ldI.mk (hc2 w3 ⟨_, h⟩).2.1 (ldI.mk (hc2 w3 ⟨_, h⟩).2.2 ?_))
    refine al.mk h fun d w4 h => st1.mk h (by simp) fun w5 h => st1.mk h (by simp) fun w5 h => st1.mk h (by simp) fun w5 h => ldB.mk (h.cell rfl) (ldI.mk (h.cell rfl) (ldI.mk (h.cell rfl) ?_))
    refine call71 (a1 := (c.pools[i].1, c.pools[i].2.1, c.pools[i].2.2, ())) (next_conf h (by omega) ⟨g1, g2, g3, g4⟩ fun w2 h => ⟨(stp (bytesM 0 (c.pools.take i)), stp (bytesM 0 (c.pools.take i)) + c.pools[i].2.1 * stp c.pools[i].2.2, ()), rfl, ?_⟩)
    refine ⟨⟨i + 1, w64_in (by omega) (by omega), hn.symm, h2, h.drop⟩, ?_⟩
    show ((c.pools.length : Int) - w64 ((i : Int) + 1)).toNat < ((c.pools.length : Int) - (i : Int)).toNat
    rw [w64_in (by omega) (by omega)]
    omega
  · have h2 : i = c.pools.length := by have := of_decide_eq_false h2; omega
    subst h2
    rw [List.take_length]
    exact k w3 h

/-- a configuration with tasks x, pools y -/
abbrev cPool1 (x y : Sl) : List Value := [.int .i64 1, vS x, vS nilS, vS nilS, vS nilS, vS nilS, vS y, vS nilS, .int .i64 0]

namespace Blk

def mk (l m : List Int) : List (Bool × Int × Int) := List.zipWith (fun b z => (false, 1 + b % 6, 1 + z % 40)) l m

theorem mk_get {l m : List Int} {i : Nat} {b z : Int} (h1 : l[i]? = some b) (h2 : m[i]? = some z) : (mk l m)[i]? = some (false, 1 + b % 6, 1 + z % 40) := by
  rw [mk, List.getElem?_zipWith, h1, h2]

theorem mk_small {l m : List Int} : small (mk l m) := by
  intro p hp
  obtain ⟨i, hi⟩ := List.mem_iff_getElem?.1 hp
  obtain ⟨b, z, -, -, rfl⟩ := List.getElem?_zipWith_eq_some.1 hi
  dsimp only
  omega

/-- how much room it has -/
def sz (ps : List (Bool × Int × Int)) (i : Nat) : Int := (ps[i]?.getD (false, 0, 0)).2.2

def ats (A : List (Nat × Int)) : List Int := A.map (·.2)

def szs (ps : List (Bool × Int × Int)) (A : List (Nat × Int)) : List Int := A.map fun x => sz ps x.1

def pls (A : List (Nat × Int)) : List Int := A.map fun x => (x.1 : Int)

theorem Inv.rng {ps : List (Bool × Int × Int)} {P : List PoolM} {A : List (Nat × Int)} (h : Inv ps P A) (hs : small ps) {i : Nat} {v : Int} (hm : (i, v) ∈ A) : 0 ≤ v ∧ v ≤ 65536 ∧ 1 ≤ sz ps i ∧ sz ps i ≤ 40 ∧ i < ps.length ∧ ∃ y, ps[i]? = some y ∧ y.2.2 = sz ps i := by
  obtain ⟨p, k, h1, -, -, h4, -, h6, x, h7, -, h9⟩ := h.bd hs hm
  obtain ⟨c, -, -, -, -, h5, -⟩ := h.ok i p h1
  obtain ⟨b1, b2, -⟩ := h5.bd (List.mem_append_right _ h6)
  have hz : p.z ≤ stp p.z := by unfold stp; omega
  have he : sz ps i = p.z := by
    unfold sz
    rw [h7, h9]; rfl
  exact ⟨b1, by omega, by omega, by omega, h.mem _ hm, x, h7, by rw [he, h9]⟩

end Blk

set_option maxHeartbeats 2000000 in
theorem blocks_walk {e L w s0 s1 n0 R} {l m : List Int} (tb : TabE e) (h : Ok e (old e :: L) w) (hlen : l.length = s0.len) (hr : ∀ x ∈ l, 0 ≤ x ∧ x ≤ 255) (hlen1 : m.length = s1.len) (hr1 : ∀ x ∈ m, 0 ≤ x ∧ x ≤ 255) (hn0 : 0 ≤ n0 ∧ n0 ≤ 255)
    (rd : ∀ {w' L'} {i : Int} {f : Nat → Nat → Prop}, Ok e (old e :: L') w' → 0 ≤ i → i < s0.len → (∀ b o x, l[i.toNat]? = some x → w'.cell? ⟨b, o, none⟩ = some (.int .u8 x) → f b o) → ix s0 i 1 f)
    (rd1 : ∀ {w' L'} {i : Int} {f : Nat → Nat → Prop}, Ok e (old e :: L') w' → 0 ≤ i → i < s1.len → (∀ b o x, m[i.toNat]? = some x → w'.cell? ⟨b, o, none⟩ = some (.int .u8 x) → f b o) → ix s1 i 1 f)
    (kk : ∀ w', Ok e (old e :: L) w' → R [.bool true] w') : sh12 s0 s1 n0 R w := by
  unfold sh12
  refine call17 (known_top tb h fun w1 h => ⟨(true, ()), rfl, cs.no rfl ?_⟩)
  refine jn.bool (decide (s0.len = 0 ∨ s0.len > 8)) (fun J hJ => cs.mk (fun h1 => ?_) (fun h1 => ?_)) (jn.bool (decide (s0.len = 0 ∨ s0.len > 8 ∨ s1.len < s0.len)) (fun J hJ => cs.mk (fun h1 => ?_) (fun h1 => ?_)) (cs.mk (fun hc => kk _ h) (fun hc => ?_)))
  · have h1 : ((s0.len : Int) == (0 : Int)) = true := h1
    rw [decide_eq_true (.inl (by simpa using h1))] at hJ
    exact hJ
  · have h1 : ((s0.len : Int) == (0 : Int)) = false := h1
    have h1 : ¬ s0.len = 0 := by simpa using h1
    rw [show decide (s0.len = 0 ∨ s0.len > 8) = decide ((s0.len : Int) > 8) from decide_eq_decide.2 (by omega)] at hJ
    exact hJ
  · have h1 := of_decide_eq_true h1
    rw [decide_eq_true (by omega)] at hJ
    exact hJ
  · have h1 := of_decide_eq_false h1
    rw [show decide (s0.len = 0 ∨ s0.len > 8 ∨ s1.len < s0.len) = decide ((s1.len : Int) < (s0.len : Int)) from decide_eq_decide.2 (by omega)] at hJ
    exact hJ
  have hc : ¬ (s0.len = 0 ∨ s0.len > 8 ∨ s1.len < s0.len) := of_decide_eq_false hc
  obtain ⟨ps, hps⟩ : ∃ ps, ps = Blk.mk l m := ⟨_, rfl⟩
  have hpl : ps.length = s0.len := by rw [hps, Blk.mk, List.length_zipWith]; omega
  have hsm : Blk.small ps := by rw [hps]; exact Blk.mk_small
  have hpo : poolsOk 0 ps = true := Blk.pools_ok ps 0 hsm (by omega) (by omega)
  have hbd := pools_bd hpo ps.length
  rw [List.take_length] at hbd
  have hw : ∀ n : Nat, n ≤ 100000 → w64 ((n : Int) + 1) = ((n + 1 : Nat) : Int) := fun n hn => w64_in (by omega) (by omega)
  refine al.mk h fun b w2 h => ?_
  refine call18 (a0 := ⟨some ⟨b, 0, none⟩, 1, 1⟩) (tasks_top (l := [1]) (slcOf (l := [1]) h) (by simp) fun x w2 h => ⟨(((1 : Int), x, nilS, nilS, nilS, nilS, nilS, nilS, (0 : Int), ()), ()), rfl, ?_⟩)
  refine al.mk h fun c w3 h => ?_
  refine st1.mk h (by simp) fun w1 h => st1.mk h (by simp) fun w1 h => st1.mk h (by simp) fun w1 h => st1.mk h (by simp) fun w1 h => st1.mk h (by simp) fun w1 h => st1.mk h (by simp) fun w1 h => st1.mk h (by simp) fun w1 h => st1.mk h (by simp) fun w1 h => st1.mk h (by simp) fun w1 h => ?_
  have h : Ok e (pts c (cPool1 x nilS) :: slc 2 x (flat taC [(1, true)]) :: old e :: L) w1 := h
  have h : Ok e (slc 3 nilS (flat seC (ps.take 0)) :: pts c (cPool1 x nilS) :: slc 2 x (flat taC [(1, true)]) :: old e :: L) w1 := h.slcNil 3
  refine lp.mk (fun t w1 => ∃ (i : Nat) (y : Sl), @Eq Int t.1 (i : Int) ∧ i ≤ ps.length ∧ Ok e (slc 3 y (flat seC (ps.take i)) :: pts c (cPool1 x y) :: slc 2 x (flat taC [(1, true)]) :: old e :: L) w1)
    (fun t _ => Int.toNat (Int.sub ps.length t.1)) ⟨0, nilS, rfl, by omega, h⟩ ?_
  clear h
  rintro ⟨(t : Int), _⟩ w1 ⟨i, y, (rfl : t = (i : Int)), hi, h⟩
  dsimp only
  refine cs.mk (fun hlt => ?_) (fun hge => ?_)
  · have hlt : i < ps.length := by have := of_decide_eq_true hlt; omega
    refine dr.mk h fun w2 h => ldS.mk (h.p1.cell rfl) ?_
    refine rd (Ok.emb (h) (.cons (A := old e) (by with_reducible first | exact sl0 | exact .there sl0 | exact .there sl1 | exact .there sl2 | exact .there sl3 | exact .there sl4 | exact .there sl5 | exact .there sl6 | exact .there sl7 | exact .there sl8 | exact .there sl9 | exact .there sl10 | exact .there sl11 | exact .there sl12) (.same _))) (by omega) (by omega) fun b o u hu hcu => ldI.mk hcu ?_
    refine rd1 (Ok.emb (h) (.cons (A := old e) (by with_reducible first | exact sl0 | exact .there sl0 | exact .there sl1 | exact .there sl2 | exact .there sl3 | exact .there sl4 | exact .there sl5 | exact .there sl6 | exact .there sl7 | exact .there sl8 | exact .there sl9 | exact .there sl10 | exact .there sl11 | exact .there sl12) (.same _))) (by omega) (by omega) fun b o v hv hcv => ldI.mk hcv ?_
    rw [Int.toNat_natCast] at hu hv
    have hub := hr _ (List.mem_of_getElem? hu)
    have hvb := hr1 _ (List.mem_of_getElem? hv)
    have hpi : ps[i]? = some (false, 1 + u % 6, 1 + v % 40) := by rw [hps]; exact Blk.mk_get hu hv
    have hyl := slc_flat_len seC_len (by decide) h
    rw [List.length_take] at hyl
    rw [(w64_mod (a := u) (m := 6) hub.1 (by decide)).1, (w64_mod (a := v) (m := 40) hvb.1 (by decide)).1, hw i (by omega)]
    refine al.mk h fun f w4 h => ⟨h.p2.cell rfl, ?_⟩
    have h : Ok e (pts f (flat seC [(false, 1 + u % 6, 1 + v % 40)]) :: slc 3 y (flat seC (ps.take i)) :: pts c (cPool1 x y) :: slc 2 x (flat taC [(1, true)]) :: old e :: L) w4 := h
    refine ef.append1 (n := 1) slT_confPool (by decide) h rfl (flat_one seC_one) (by omega) fun s' w7 hl' h => ?_
    rw [← flat_append] at h
    refine st1.mk h.p1 (by simp) fun w8 h => ⟨⟨i + 1, s', rfl, hlt, ?_⟩, ?_⟩
    · rw [List.take_add_one, hpi]
      exact h.p1
    · show ((ps.length : Int) - ((i + 1 : Nat) : Int)).toNat < ((ps.length : Int) - (i : Int)).toNat
      omega
  have hge : i = ps.length := by have := of_decide_eq_false hge; omega
  subst hge
  rw [List.take_length] at h
  have hS := Blk.start hsm hpo
  obtain ⟨P0, hP0⟩ : ∃ P0, P0 = List.zipWith (fun a (p : Bool × Int × Int) => (⟨p.1, a, p.2.1, p.2.2, mp0⟩ : PoolM)) (layoutM 0 ps) ps := ⟨_, rfl⟩
  have hnew := Blk.new_eq ps
  rw [← hP0] at hS hnew
  refine ldI.mk (h.p1.cell rfl) (ldS.mk (h.p1.cell rfl) (ldS.mk (h.p1.cell rfl) (ldS.mk (h.p1.cell rfl) (ldS.mk (h.p1.cell rfl) (ldS.mk (h.p1.cell rfl) (ldS.mk (h.p1.cell rfl) (ldS.mk (h.p1.cell rfl) (ldI.mk (h.p1.cell rfl) ?_))))))))
  have h : Ok e (slc 2 x (flat taC [(1, true)]) :: slc 3 y (flat seC ps) :: old e :: pts c (cPool1 x y) :: L) w1 := (h.emb (by repeat' (first | with_reducible exact Emb.same _ | exact Emb.nil _ | refine Emb.cons (by with_reducible first | exact sl0 | exact .there sl0 | exact .there sl1 | exact .there sl2 | exact .there sl3 | exact .there sl4 | exact .there sl5 | exact .there sl6 | exact .there sl7 | exact .there sl8 | exact .there sl9 | exact .there sl10 | exact .there sl11 | exact .there sl12) ?_ | refine Emb.skip ?_)))
  refine call19 (a0 := cfV (Blk.cf ps) ⟨x, nilS, nilS, nilS, y⟩) (open_top tb (conf_pools 1 h) (Blk.ok_cf hsm (by omega)) hnew fun k A w3 h => ⟨(some ⟨k, 0, none⟩, ()), rfl, cs.no rfl ?_⟩)
  have h : Ok e (kerP k A (Blk.KB P0) :: old e :: slc 3 y (flat seC ps) :: pts c (cPool1 x y) :: L) w3 := (h.emb (by repeat' (first | with_reducible exact Emb.same _ | exact Emb.nil _ | refine Emb.cons (by with_reducible first | exact sl0 | exact .there sl0 | exact .there sl1 | exact .there sl2 | exact .there sl3 | exact .there sl4 | exact .there sl5 | exact .there sl6 | exact .there sl7 | exact .there sl8 | exact .there sl9 | exact .there sl10 | exact .there sl11 | exact .there sl12) ?_ | refine Emb.skip ?_)))
  have h := ((h.slcNil 1).slcNil 1).slcNil 1
  have hn0w : w64 n0 = n0 := w64_in (by omega) (by omega)
  rw [hn0w]
  refine lp.mk (fun t w1 => ∃ (i : Nat) (P : List PoolM) (E : List (Nat × Int)), @Eq Int t.2.2.2.1 (i : Int) ∧ (i : Int) ≤ n0 ∧ E.length ≤ i ∧ Blk.Inv ps P E ∧ Ok e (slc 1 t.1 (ints (Blk.ats E)) :: slc 1 t.2.1 (ints (Blk.szs ps E)) :: slc 1 t.2.2.1 (ints (Blk.pls E)) :: kerP k A (Blk.KB P) :: old e :: slc 3 y (flat seC ps) :: pts c (cPool1 x y) :: L) w1)
    (fun t _ => Int.toNat (Int.sub n0 t.2.2.2.1)) ⟨0, P0, [], rfl, by omega, by simp, hS, h⟩ ?_
  clear h hS hnew hP0 hi
  rintro ⟨z1, z2, z3, (t : Int), _⟩ w1 ⟨i, P, E, (rfl : t = (i : Int)), hi, hEl, hI, h⟩
  dsimp only at h ⊢
  have hl1 := slc_ints_len h
  have hl2 := slc_ints_len h.p1
  have hl3 := slc_ints_len h.p2
  rw [Blk.ats, List.length_map] at hl1
  rw [Blk.szs, List.length_map] at hl2
  rw [Blk.pls, List.length_map] at hl3
  refine cs.mk (fun hlt => ?_) (fun hge => ?_)
  · have hlt : (i : Int) < n0 := of_decide_eq_true hlt
    refine ob.mk (by omega) ?_
    obtain ⟨q, hq, hql⟩ : ∃ q : Nat, Int.tmod (i : Int) (s0.len : Int) = (q : Int) ∧ q < ps.length := by
      refine ⟨i % s0.len, ?_, ?_⟩
      · rw [Int.tmod_eq_emod_of_nonneg (by omega)]; omega
      · rw [hpl]; exact Nat.mod_lt _ (by omega)
    rw [hq, hw q (by omega), hw i (by omega)]
    have hpq : P[q]? = some (P[q]'(by rw [hI.len]; exact hql)) := List.getElem?_eq_getElem _
    generalize hpm : P[q]'(by rw [hI.len]; exact hql) = pm at hpq
    obtain ⟨st0, st1'⟩ := Blk.poll_step hI hsm hpo hpq
    have hcall := Blk.call_poll hpq
    have hmeas : (n0 - ((i + 1 : Nat) : Int)).toNat < (n0 - (i : Int)).toNat := by omega
    have h := (Ok.emb (h) (.cons (A := kerP k A (Blk.KB P)) (by with_reducible first | exact sl0 | exact .there sl0 | exact .there sl1 | exact .there sl2 | exact .there sl3 | exact .there sl4 | exact .there sl5 | exact .there sl6 | exact .there sl7 | exact .there sl8 | exact .there sl9 | exact .there sl10 | exact .there sl11 | exact .there sl12) (.cons (A := old e) (by with_reducible first | exact sl0 | exact .there sl0 | exact .there sl1 | exact .there sl2 | exact .there sl3 | exact .there sl4 | exact .there sl5 | exact .there sl6 | exact .there sl7 | exact .there sl8 | exact .there sl9 | exact .there sl10 | exact .there sl11 | exact .there sl12) (.same _))))
    refine al.mk h fun b56 w5 h => ?_
    refine call20 (a2 := ⟨some ⟨b56, 0, none⟩, 1, 1⟩) (do_top (n := 48) (xs := [(q : Int) + 1]) (do_48 tb) (slcOf (l := [(q : Int) + 1]) h) (by simp) hcall fun w6 h => ⟨(_, _, ()), rfl, ?_⟩)
    cases hok : (pm.q.poll pm.a pm.n pm.z).1.2 with
    | false =>
      have e1 := st0 hok
      rw [e1] at h
      rw [if_neg (by decide)]
      have e2 : P.set q { pm with q := pm.q } = P := set_same hpq
      rw [e2] at h
      exact cs.yes rfl ⟨⟨i + 1, P, E, rfl, by omega, by omega, hI, (h.emb (by repeat' (first | with_reducible exact Emb.same _ | exact Emb.nil _ | refine Emb.cons (by with_reducible first | exact sl0 | exact .there sl0 | exact .there sl1 | exact .there sl2 | exact .there sl3 | exact .there sl4 | exact .there sl5 | exact .there sl6 | exact .there sl7 | exact .there sl8 | exact .there sl9 | exact .there sl10 | exact .there sl11 | exact .there sl12) ?_ | refine Emb.skip ?_)))⟩, hmeas⟩
    | true =>
      obtain ⟨v, hv, hI', v0, v4, vE, vb, vap⟩ := st1' hok
      obtain ⟨cx, hcx, -, -, hcz, -⟩ := hI.ok q pm hpq
      rw [if_pos rfl, hv]
      obtain ⟨P', hP'⟩ : ∃ P', P' = P.set q { pm with q := (pm.q.poll pm.a pm.n pm.z).2 } := ⟨_, rfl⟩
      rw [← hP'] at h hI'
      have hzs : Blk.sz ps q = pm.z := by
        unfold Blk.sz
        rw [hcx, hcz]; rfl
      have hrq := hI'.rng hsm (i := q) (v := v) (by simp)
      have hgz : ps[q].2.2 = pm.z := by
        rw [List.getElem?_eq_getElem hql] at hcx
        have := Option.some.inj hcx
        rw [this, hcz]
      refine cs.no rfl (ldS.mk (by refine Ok.cellS h (by with_reducible first | exact sl0 | exact .there sl0 | exact .there sl1 | exact .there sl2 | exact .there sl3 | exact .there sl4 | exact .there sl5 | exact .there sl6 | exact .there sl7 | exact .there sl8 | exact .there sl9 | exact .there sl10 | exact .there sl11 | exact .there sl12) ?_; rfl) (ix_pool (Ok.emb (h) (.cons (A := slc 3 y (flat seC ps)) (by with_reducible first | exact sl0 | exact .there sl0 | exact .there sl1 | exact .there sl2 | exact .there sl3 | exact .there sl4 | exact .there sl5 | exact .there sl6 | exact .there sl7 | exact .there sl8 | exact .there sl9 | exact .there sl10 | exact .there sl11 | exact .there sl12) (.same _))) hql fun b61 o62 hc2 => ldI.mk (hc2 _ ⟨_, (Ok.emb (h) (.cons (A := slc 3 y (flat seC ps)) (by with_reducible first | exact sl0 | exact .there sl0 | exact .there sl1 | exact .there sl2 | exact .there sl3 | exact .there sl4 | exact .there sl5 | exact .there sl6 | exact .there sl7 | exact .there sl8 | exact .there sl9 | exact .there sl10 | exact .there sl11 | exact .there sl12) (.same _)))⟩).2.2 ?_))
      clear hc2
      rw [hgz]
      have hvz : w64 (v + pm.z) = v + pm.z := w64_in (by omega) (by omega)
      refine jn.bool false (fun J hJ => cs.no rfl ?_) (jn.bool false (fun J hJ => cs.no rfl ?_) (jn.at (t := (false, ())) (fun w' => Ok e (kerP k A (Blk.KB P') :: old e :: slc 1 z1 (ints (Blk.ats E)) :: slc 1 z2 (ints (Blk.szs ps E)) :: slc 1 z3 (ints (Blk.pls E)) :: slc 3 y (flat seC ps) :: pts c (cPool1 x y) :: L) w') (fun J hJ => cs.no rfl ?_) (fun w7 h => cs.no rfl ?_)))
      · rw [show decide (v < 0) = false from decide_eq_false (by omega)]
        exact hJ
      · rw [show (Int.tmod v 4 != 0) = false by rw [Int.tmod_eq_emod_of_nonneg v0, v4]; rfl]
        exact hJ
      · have h := (Ok.emb (h) (.cons (A := pts c (cPool1 x y)) (by with_reducible first | exact sl0 | exact .there sl0 | exact .there sl1 | exact .there sl2 | exact .there sl3 | exact .there sl4 | exact .there sl5 | exact .there sl6 | exact .there sl7 | exact .there sl8 | exact .there sl9 | exact .there sl10 | exact .there sl11 | exact .there sl12) (.same _)))
        refine ldI.mk (h.cell rfl) (ldS.mk (h.cell rfl) (ldS.mk (h.cell rfl) (ldS.mk (h.cell rfl) (ldS.mk (h.cell rfl) (ldS.mk (h.cell rfl) (ldS.mk (h.cell rfl) (ldS.mk (h.cell rfl) (ldI.mk (h.cell rfl) ?_))))))))
        have h := (Ok.emb (h) (.cons (A := slc 3 y (flat seC ps)) (by with_reducible first | exact sl0 | exact .there sl0 | exact .there sl1 | exact .there sl2 | exact .there sl3 | exact .there sl4 | exact .there sl5 | exact .there sl6 | exact .there sl7 | exact .there sl8 | exact .there sl9 | exact .there sl10 | exact .there sl11 | exact .there sl12) (.same _)))
        refine call37 (a0 := cfV (Blk.cf ps) ⟨x, nilS, nilS, nilS, y⟩) (Bytes_conf (c := Blk.cf ps) (S := ⟨x, nilS, nilS, nilS, y⟩) h (by show ps.length ≤ 8; omega) hpo fun w8 h => ⟨(bytesM 0 ps, ()), rfl, ?_⟩)
        dsimp only
        rw [hvz, show decide (v + pm.z > bytesM 0 ps) = false from decide_eq_false (by omega)]
        refine hJ w8 ?_
        have h : Ok e (slc 3 y (flat seC ps) :: pts c (cPool1 x y) :: kerP k A (Blk.KB P') :: old e :: slc 1 z1 (ints (Blk.ats E)) :: slc 1 z2 (ints (Blk.szs ps E)) :: slc 1 z3 (ints (Blk.pls E)) :: L) w8 := h
        exact (h.emb (by repeat' (first | with_reducible exact Emb.same _ | exact Emb.nil _ | refine Emb.cons (by with_reducible first | exact sl0 | exact .there sl0 | exact .there sl1 | exact .there sl2 | exact .there sl3 | exact .there sl4 | exact .there sl5 | exact .there sl6 | exact .there sl7 | exact .there sl8 | exact .there sl9 | exact .there sl10 | exact .there sl11 | exact .there sl12) ?_ | refine Emb.skip ?_)))
      · refine lp.mk (fun t w1 => ∃ (j : Nat), @Eq Int t.1 (j : Int) ∧ j ≤ E.length ∧ Ok e (kerP k A (Blk.KB P') :: old e :: slc 1 z1 (ints (Blk.ats E)) :: slc 1 z2 (ints (Blk.szs ps E)) :: slc 1 z3 (ints (Blk.pls E)) :: slc 3 y (flat seC ps) :: pts c (cPool1 x y) :: L) w1)
          (fun t _ => Int.toNat (Int.sub E.length t.1)) ⟨0, rfl, by omega, h⟩ ?_
        clear h
        rintro ⟨(t : Int), _⟩ w8 ⟨j, (rfl : t = (j : Int)), hj, h⟩
        dsimp only
        refine cs.mk (fun hlt2 => ?_) (fun hge2 => ?_)
        · have hlt2 : j < E.length := by have := of_decide_eq_true hlt2; omega
          have hEj : E[j]? = some E[j] := List.getElem?_eq_getElem hlt2
          generalize E[j] = ej at hEj
          obtain ⟨ej1, ej2⟩ := ej
          have hm1 : (ej1, ej2) ∈ E := List.mem_of_getElem? hEj
          obtain ⟨r1, r2, r3, r4, r5, yy, r6, r7⟩ := hI.rng hsm hm1
          have hap := vap ej1 ej2 yy hm1 r6
          rw [r7] at hap
          have ga : (Blk.ats E)[j]? = some ej2 := by rw [Blk.ats, List.getElem?_map, hEj]; rfl
          have gz : (Blk.szs ps E)[j]? = some (Blk.sz ps ej1) := by rw [Blk.szs, List.getElem?_map, hEj]; rfl
          refine dr.mk h fun w9 h => jn.bool false (fun J hJ => ?_) (cs.no rfl ⟨⟨j + 1, hw j (by omega), hlt2, h⟩, ?_⟩)
          · refine ix_int (Ok.emb (h) (.cons (A := slc 1 z1 (ints (Blk.ats E))) (by with_reducible first | exact sl0 | exact .there sl0 | exact .there sl1 | exact .there sl2 | exact .there sl3 | exact .there sl4 | exact .there sl5 | exact .there sl6 | exact .there sl7 | exact .there sl8 | exact .there sl9 | exact .there sl10 | exact .there sl11 | exact .there sl12) (.same _))) (by omega) (by omega) fun b1 o1 u hu hcu => ldI.mk (hcu _ ⟨_, (Ok.emb (h) (.cons (A := slc 1 z1 (ints (Blk.ats E))) (by with_reducible first | exact sl0 | exact .there sl0 | exact .there sl1 | exact .there sl2 | exact .there sl3 | exact .there sl4 | exact .there sl5 | exact .there sl6 | exact .there sl7 | exact .there sl8 | exact .there sl9 | exact .there sl10 | exact .there sl11 | exact .there sl12) (.same _)))⟩) ?_
            refine ix_int (Ok.emb (h) (.cons (A := slc 1 z2 (ints (Blk.szs ps E))) (by with_reducible first | exact sl0 | exact .there sl0 | exact .there sl1 | exact .there sl2 | exact .there sl3 | exact .there sl4 | exact .there sl5 | exact .there sl6 | exact .there sl7 | exact .there sl8 | exact .there sl9 | exact .there sl10 | exact .there sl11 | exact .there sl12) (.same _))) (by omega) (by omega) fun b2 o2 u2 hu2 hcu2 => ldI.mk (hcu2 _ ⟨_, (Ok.emb (h) (.cons (A := slc 1 z2 (ints (Blk.szs ps E))) (by with_reducible first | exact sl0 | exact .there sl0 | exact .there sl1 | exact .there sl2 | exact .there sl3 | exact .there sl4 | exact .there sl5 | exact .there sl6 | exact .there sl7 | exact .there sl8 | exact .there sl9 | exact .there sl10 | exact .there sl11 | exact .there sl12) (.same _)))⟩) ?_
            rw [Int.toNat_natCast] at hu hu2
            rw [ga] at hu
            rw [gz] at hu2
            cases hu
            cases hu2
            rw [w64_in (x := ej2 + Blk.sz ps ej1) (by omega) (by omega)]
            refine cs.mk (fun hlt3 => ?_) (fun _ => hJ)
            have hlt3 : v < ej2 + Blk.sz ps ej1 := of_decide_eq_true hlt3
            refine ix_int (Ok.emb (h) (.cons (A := slc 1 z1 (ints (Blk.ats E))) (by with_reducible first | exact sl0 | exact .there sl0 | exact .there sl1 | exact .there sl2 | exact .there sl3 | exact .there sl4 | exact .there sl5 | exact .there sl6 | exact .there sl7 | exact .there sl8 | exact .there sl9 | exact .there sl10 | exact .there sl11 | exact .there sl12) (.same _))) (by omega) (by omega) fun b1 o1 u hu hcu => ldI.mk (hcu _ ⟨_, (Ok.emb (h) (.cons (A := slc 1 z1 (ints (Blk.ats E))) (by with_reducible first | exact sl0 | exact .there sl0 | exact .there sl1 | exact .there sl2 | exact .there sl3 | exact .there sl4 | exact .there sl5 | exact .there sl6 | exact .there sl7 | exact .there sl8 | exact .there sl9 | exact .there sl10 | exact .there sl11 | exact .there sl12) (.same _)))⟩) ?_
            rw [Int.toNat_natCast, ga] at hu
            cases hu
            rw [hvz, show decide (ej2 < v + pm.z) = false from decide_eq_false (by omega)]
            exact hJ
          · show ((E.length : Int) - w64 ((j : Int) + 1)).toNat < ((E.length : Int) - (j : Int)).toNat
            rw [hw j (by omega)]
            omega
        refine al.mk h fun c1 w2 h => ?_
        refine ef.append1 (n := 1) slT_int (by decide) (Ok.emb (h) (.cons (A := pts c1 [.int .i64 v]) (by with_reducible first | exact sl0 | exact .there sl0 | exact .there sl1 | exact .there sl2 | exact .there sl3 | exact .there sl4 | exact .there sl5 | exact .there sl6 | exact .there sl7 | exact .there sl8 | exact .there sl9 | exact .there sl10 | exact .there sl11 | exact .there sl12) (.cons (A := slc 1 z1 (ints (Blk.ats E))) (by with_reducible first | exact sl0 | exact .there sl0 | exact .there sl1 | exact .there sl2 | exact .there sl3 | exact .there sl4 | exact .there sl5 | exact .there sl6 | exact .there sl7 | exact .there sl8 | exact .there sl9 | exact .there sl10 | exact .there sl11 | exact .there sl12) (.same _)))) rfl (by intro u hu; simp at hu; subst hu; rfl) (by omega) fun s1 w2 _ h => ?_
        refine al.mk h fun c2 w2 h => ?_
        refine ef.append1 (n := 1) slT_int (by decide) (Ok.emb (h) (.cons (A := pts c2 [.int .i64 pm.z]) (by with_reducible first | exact sl0 | exact .there sl0 | exact .there sl1 | exact .there sl2 | exact .there sl3 | exact .there sl4 | exact .there sl5 | exact .there sl6 | exact .there sl7 | exact .there sl8 | exact .there sl9 | exact .there sl10 | exact .there sl11 | exact .there sl12) (.cons (A := slc 1 z2 (ints (Blk.szs ps E))) (by with_reducible first | exact sl0 | exact .there sl0 | exact .there sl1 | exact .there sl2 | exact .there sl3 | exact .there sl4 | exact .there sl5 | exact .there sl6 | exact .there sl7 | exact .there sl8 | exact .there sl9 | exact .there sl10 | exact .there sl11 | exact .there sl12) (.same _)))) rfl (by intro u hu; simp at hu; subst hu; rfl) (by omega) fun s2 w2 _ h => ?_
        refine al.mk h fun c3 w2 h => ?_
        refine ef.append1 (n := 1) slT_int (by decide) (Ok.emb (h) (.cons (A := pts c3 [.int .i64 (q : Int)]) (by with_reducible first | exact sl0 | exact .there sl0 | exact .there sl1 | exact .there sl2 | exact .there sl3 | exact .there sl4 | exact .there sl5 | exact .there sl6 | exact .there sl7 | exact .there sl8 | exact .there sl9 | exact .there sl10 | exact .there sl11 | exact .there sl12) (.cons (A := slc 1 z3 (ints (Blk.pls E))) (by with_reducible first | exact sl0 | exact .there sl0 | exact .there sl1 | exact .there sl2 | exact .there sl3 | exact .there sl4 | exact .there sl5 | exact .there sl6 | exact .there sl7 | exact .there sl8 | exact .there sl9 | exact .there sl10 | exact .there sl11 | exact .there sl12) (.same _)))) rfl (by intro u hu; simp at hu; subst hu; rfl) (by omega) fun s3 w2 _ h => ?_
        rw [ints_snoc, ints_snoc, ints_snoc] at h
        have ea : Blk.ats (E ++ [(q, v)]) = Blk.ats E ++ [v] := by simp [Blk.ats]
        have ez : Blk.szs ps (E ++ [(q, v)]) = Blk.szs ps E ++ [pm.z] := by simp [Blk.szs, hzs]
        have ep : Blk.pls (E ++ [(q, v)]) = Blk.pls E ++ [(q : Int)] := by simp [Blk.pls]
        rw [← ea, ← ez, ← ep] at h
        exact ⟨⟨i + 1, P', E ++ [(q, v)], rfl, by omega, by simp; omega, hI', (h.emb (by repeat' (first | with_reducible exact Emb.same _ | exact Emb.nil _ | refine Emb.cons (by with_reducible first | exact sl0 | exact .there sl0 | exact .there sl1 | exact .there sl2 | exact .there sl3 | exact .there sl4 | exact .there sl5 | exact .there sl6 | exact .there sl7 | exact .there sl8 | exact .there sl9 | exact .there sl10 | exact .there sl11 | exact .there sl12) ?_ | refine Emb.skip ?_)))⟩, hmeas⟩
  clear hge
  have h : Ok e (kerP k A (Blk.KB P) :: old e :: slc 1 z1 (ints (Blk.ats E)) :: slc 1 z3 (ints (Blk.pls E)) :: slc 3 y (flat seC ps) :: pts c (cPool1 x y) :: L) w1 := (h.emb (by repeat' (first | with_reducible exact Emb.same _ | exact Emb.nil _ | refine Emb.cons (by with_reducible first | exact sl0 | exact .there sl0 | exact .there sl1 | exact .there sl2 | exact .there sl3 | exact .there sl4 | exact .there sl5 | exact .there sl6 | exact .there sl7 | exact .there sl8 | exact .there sl9 | exact .there sl10 | exact .there sl11 | exact .there sl12) ?_ | refine Emb.skip ?_)))
  have hrng : ∀ x ∈ E, 0 ≤ x.2 ∧ x.2 ≤ 65536 ∧ x.1 < ps.length := fun x hx => by
    obtain ⟨r1, r2, -, -, r5, -⟩ := hI.rng hsm (i := x.1) (v := x.2) hx
    exact ⟨r1, r2, r5⟩
  refine lp.mk (fun t w1 => ∃ (j : Nat) (P : List PoolM), @Eq Int t.1 (j : Int) ∧ j ≤ E.length ∧ Blk.Inv ps P (E.drop j) ∧ Ok e (kerP k A (Blk.KB P) :: old e :: slc 1 z1 (ints (Blk.ats E)) :: slc 1 z3 (ints (Blk.pls E)) :: slc 3 y (flat seC ps) :: pts c (cPool1 x y) :: L) w1)
    (fun t _ => Int.toNat (Int.sub E.length t.1)) ⟨0, P, rfl, by omega, hI, h⟩ ?_
  clear h hI
  rintro ⟨(t : Int), _⟩ w2 ⟨j, P, (rfl : t = (j : Int)), hj, hI, h⟩
  dsimp only
  refine cs.mk (fun hlt2 => ?_) (fun hge2 => ?_)
  · have hlt2 : j < E.length := by have := of_decide_eq_true hlt2; omega
    have hEj : E[j]? = some E[j] := List.getElem?_eq_getElem hlt2
    rw [List.drop_eq_getElem_cons hlt2] at hI
    generalize E[j] = ej at hEj hI
    obtain ⟨q, v⟩ := ej
    have hre := hrng _ (List.mem_of_getElem? hEj)
    dsimp only at hre
    have ga : (Blk.ats E)[j]? = some v := by rw [Blk.ats, List.getElem?_map, hEj]; rfl
    have gp : (Blk.pls E)[j]? = some (q : Int) := by rw [Blk.pls, List.getElem?_map, hEj]; rfl
    obtain ⟨p, hp, hput, hI', hput2⟩ := Blk.put_step hI
    have hc1 := Blk.call_put (v := v) hp (by rw [hput])
    obtain ⟨P', hP'⟩ : ∃ P', P' = P.set q { p with q := (p.q.put v).2 } := ⟨_, rfl⟩
    have hql := (List.getElem?_eq_some_iff.1 hp).1
    have hp' : P'[q]? = some { p with q := (p.q.put v).2 } := by rw [hP', List.getElem?_set, if_pos rfl, if_pos hql]
    have hc2 := Blk.call_put (v := v) hp' (by show ((p.q.put v).2.put v).1.1 = 0; rw [hput2])
    have hs2 : P'.set q { ({ p with q := (p.q.put v).2 } : PoolM) with q := (({ p with q := (p.q.put v).2 } : PoolM).q.put v).2 } = P' := by
      show P'.set q { p with q := ((p.q.put v).2.put v).2 } = P'
      rw [hput2]
      exact set_same hp'
    rw [hs2] at hc2
    rw [← hP', hput] at hc1
    have hc2 : (Blk.KB P').call 1 (cPut ((q : Int) + 1) v) = some ((-17, 0), Blk.KB P') := by
      rw [hc2]
      show some ((((p.q.put v).2.put v).1.2, (0 : Int)), Blk.KB P') = _
      rw [hput2]
    rw [← hP'] at hI'
    refine dr.mk h fun w3 h => ?_
    refine ix_int (Ok.emb (h) (.cons (A := slc 1 z3 (ints (Blk.pls E))) (by with_reducible first | exact sl0 | exact .there sl0 | exact .there sl1 | exact .there sl2 | exact .there sl3 | exact .there sl4 | exact .there sl5 | exact .there sl6 | exact .there sl7 | exact .there sl8 | exact .there sl9 | exact .there sl10 | exact .there sl11 | exact .there sl12) (.same _))) (by omega) (by omega) fun b1 o1 u hu hcu => ldI.mk (hcu _ ⟨_, (Ok.emb (h) (.cons (A := slc 1 z3 (ints (Blk.pls E))) (by with_reducible first | exact sl0 | exact .there sl0 | exact .there sl1 | exact .there sl2 | exact .there sl3 | exact .there sl4 | exact .there sl5 | exact .there sl6 | exact .there sl7 | exact .there sl8 | exact .there sl9 | exact .there sl10 | exact .there sl11 | exact .there sl12) (.same _)))⟩) ?_
    refine ix_int (Ok.emb (h) (.cons (A := slc 1 z1 (ints (Blk.ats E))) (by with_reducible first | exact sl0 | exact .there sl0 | exact .there sl1 | exact .there sl2 | exact .there sl3 | exact .there sl4 | exact .there sl5 | exact .there sl6 | exact .there sl7 | exact .there sl8 | exact .there sl9 | exact .there sl10 | exact .there sl11 | exact .there sl12) (.same _))) (by omega) (by omega) fun b2 o2 u2 hu2 hcu2 => ldI.mk (hcu2 _ ⟨_, (Ok.emb (h) (.cons (A := slc 1 z1 (ints (Blk.ats E))) (by with_reducible first | exact sl0 | exact .there sl0 | exact .there sl1 | exact .there sl2 | exact .there sl3 | exact .there sl4 | exact .there sl5 | exact .there sl6 | exact .there sl7 | exact .there sl8 | exact .there sl9 | exact .there sl10 | exact .there sl11 | exact .there sl12) (.same _)))⟩) ?_
    rw [Int.toNat_natCast] at hu hu2
    rw [gp] at hu
    rw [ga] at hu2
    cases hu
    cases hu2
    rw [hw q (by omega)]
    refine al.mk h fun b3 w4 h => ?_
    refine call20 (a2 := ⟨some ⟨b3, 0, none⟩, 2, 2⟩) (do_top (n := 50) (xs := [(q : Int) + 1, v]) (do_50 tb) (slcOf (l := [(q : Int) + 1, v]) h) (by simp) hc1 fun w5 h => ⟨((0 : Int), (0 : Int), ()), rfl, ?_⟩)
    refine dr.mk h fun w3 h => ?_
    refine ix_int (Ok.emb (h) (.cons (A := slc 1 z3 (ints (Blk.pls E))) (by with_reducible first | exact sl0 | exact .there sl0 | exact .there sl1 | exact .there sl2 | exact .there sl3 | exact .there sl4 | exact .there sl5 | exact .there sl6 | exact .there sl7 | exact .there sl8 | exact .there sl9 | exact .there sl10 | exact .there sl11 | exact .there sl12) (.same _))) (by omega) (by omega) fun b1 o1 u hu hcu => ldI.mk (hcu _ ⟨_, (Ok.emb (h) (.cons (A := slc 1 z3 (ints (Blk.pls E))) (by with_reducible first | exact sl0 | exact .there sl0 | exact .there sl1 | exact .there sl2 | exact .there sl3 | exact .there sl4 | exact .there sl5 | exact .there sl6 | exact .there sl7 | exact .there sl8 | exact .there sl9 | exact .there sl10 | exact .there sl11 | exact .there sl12) (.same _)))⟩) ?_
    refine ix_int (Ok.emb (h) (.cons (A := slc 1 z1 (ints (Blk.ats E))) (by with_reducible first | exact sl0 | exact .there sl0 | exact .there sl1 | exact .there sl2 | exact .there sl3 | exact .there sl4 | exact .there sl5 | exact .there sl6 | exact .there sl7 | exact .there sl8 | exact .there sl9 | exact .there sl10 | exact .there sl11 | exact .there sl12) (.same _))) (by omega) (by omega) fun b2 o2 u2 hu2 hcu2 => ldI.mk (hcu2 _ ⟨_, (Ok.emb (h) (.cons (A := slc 1 z1 (ints (Blk.ats E))) (by with_reducible first | exact sl0 | exact .there sl0 | exact .there sl1 | exact .there sl2 | exact .there sl3 | exact .there sl4 | exact .there sl5 | exact .there sl6 | exact .there sl7 | exact .there sl8 | exact .there sl9 | exact .there sl10 | exact .there sl11 | exact .there sl12) (.same _)))⟩) ?_
    rw [Int.toNat_natCast] at hu hu2
    rw [gp] at hu
    rw [ga] at hu2
    cases hu
    cases hu2
    rw [hw q (by omega)]
    refine al.mk h fun b3 w4 h => ?_
    refine call20 (a2 := ⟨some ⟨b3, 0, none⟩, 2, 2⟩) (do_top (n := 50) (xs := [(q : Int) + 1, v]) (do_50 tb) (slcOf (l := [(q : Int) + 1, v]) h) (by simp) hc2 fun w5 h => ⟨((-17 : Int), (0 : Int), ()), rfl, ?_⟩)
    refine jn.bool false (fun J hJ => cs.no rfl hJ) (cs.no rfl ⟨⟨j + 1, P', hw j (by omega), hlt2, hI', h⟩, ?_⟩)
    show ((E.length : Int) - w64 ((j : Int) + 1)).toNat < ((E.length : Int) - (j : Int)).toNat
    rw [hw j (by omega)]
    omega
  have hge2 : j = E.length := by have := of_decide_eq_false hge2; omega
  rw [hge2, List.drop_length] at hI
  have h : Ok e (kerP k A (Blk.KB P) :: old e :: slc 3 y (flat seC ps) :: pts c (cPool1 x y) :: L) w2 := (h.emb (by repeat' (first | with_reducible exact Emb.same _ | exact Emb.nil _ | refine Emb.cons (by with_reducible first | exact sl0 | exact .there sl0 | exact .there sl1 | exact .there sl2 | exact .there sl3 | exact .there sl4 | exact .there sl5 | exact .there sl6 | exact .there sl7 | exact .there sl8 | exact .there sl9 | exact .there sl10 | exact .there sl11 | exact .there sl12) ?_ | refine Emb.skip ?_)))
  refine lp.mk (fun t w1 => ∃ (j : Nat), @Eq Int t.1 (j : Int) ∧ j ≤ ps.length ∧ Ok e (kerP k A (Blk.KB P) :: old e :: slc 3 y (flat seC ps) :: pts c (cPool1 x y) :: L) w1)
    (fun t _ => Int.toNat (Int.sub ps.length t.1)) ⟨0, rfl, by omega, h⟩ ?_
  clear h
  rintro ⟨(t : Int), _⟩ w3 ⟨n, (rfl : t = (n : Int)), hn, h⟩
  dsimp only
  refine cs.mk (fun hlt3 => ?_) (fun hge3 => ?_)
  · have hlt3 : n < ps.length := by have := of_decide_eq_true hlt3; omega
    have hpq : P[n]? = some (P[n]'(by rw [hI.len]; exact hlt3)) := List.getElem?_eq_getElem _
    generalize P[n]'(by rw [hI.len]; exact hlt3) = pm at hpq
    obtain ⟨f1, f2, xx, f3, f4⟩ := Blk.free hI hpq
    have hgn : ps[n].2.1 = pm.n := by
      rw [List.getElem?_eq_getElem hlt3] at f3
      have := Option.some.inj f3
      rw [this, f4]
    rw [hw n (by omega)]
    refine call38 (Pool_kern (s := pm) h (by show getO P _ = _; rw [show ((n + 1 : Nat) : Int) - 1 = (n : Int) by omega, getO_nat]; exact hpq) fun x1 w4 hx1 h => ⟨(pm.n - (pm.q.held.length : Int), x1, (0 : Int), ()), rfl, ?_⟩)
    have hx1 : x1.len = 0 := by rw [hx1, f2]; rfl
    refine ldS.mk (by refine Ok.cellS h (by with_reducible first | exact sl0 | exact .there sl0 | exact .there sl1 | exact .there sl2 | exact .there sl3 | exact .there sl4 | exact .there sl5 | exact .there sl6 | exact .there sl7 | exact .there sl8 | exact .there sl9 | exact .there sl10 | exact .there sl11 | exact .there sl12) ?_; rfl) (ix_pool (Ok.emb (h) (.cons (A := slc 3 y (flat seC ps)) (by with_reducible first | exact sl0 | exact .there sl0 | exact .there sl1 | exact .there sl2 | exact .there sl3 | exact .there sl4 | exact .there sl5 | exact .there sl6 | exact .there sl7 | exact .there sl8 | exact .there sl9 | exact .there sl10 | exact .there sl11 | exact .there sl12) (.same _))) hlt3 fun b61 o62 hc2 => ldI.mk (hc2 _ ⟨_, (Ok.emb (h) (.cons (A := slc 3 y (flat seC ps)) (by with_reducible first | exact sl0 | exact .there sl0 | exact .there sl1 | exact .there sl2 | exact .there sl3 | exact .there sl4 | exact .there sl5 | exact .there sl6 | exact .there sl7 | exact .there sl8 | exact .there sl9 | exact .there sl10 | exact .there sl11 | exact .there sl12) (.same _)))⟩).2.1 ?_)
    rw [hgn]
    refine jn.bool false (fun J hJ => cs.no (by dsimp only; rw [f1]; simp) (by dsimp only; rw [hx1]; exact hJ)) (cs.no rfl ⟨⟨n + 1, rfl, hlt3, (h.emb (by repeat' (first | with_reducible exact Emb.same _ | exact Emb.nil _ | refine Emb.cons (by with_reducible first | exact sl0 | exact .there sl0 | exact .there sl1 | exact .there sl2 | exact .there sl3 | exact .there sl4 | exact .there sl5 | exact .there sl6 | exact .there sl7 | exact .there sl8 | exact .there sl9 | exact .there sl10 | exact .there sl11 | exact .there sl12) ?_ | refine Emb.skip ?_)))⟩, ?_⟩)
    show ((ps.length : Int) - ((n + 1 : Nat) : Int)).toNat < ((ps.length : Int) - (n : Int)).toNat
    omega
  · have h := (Ok.emb (h) (.cons (A := pts c (cPool1 x y)) (by with_reducible first | exact sl0 | exact .there sl0 | exact .there sl1 | exact .there sl2 | exact .there sl3 | exact .there sl4 | exact .there sl5 | exact .there sl6 | exact .there sl7 | exact .there sl8 | exact .there sl9 | exact .there sl10 | exact .there sl11 | exact .there sl12) (.cons (A := slc 3 y (flat seC ps)) (by with_reducible first | exact sl0 | exact .there sl0 | exact .there sl1 | exact .there sl2 | exact .there sl3 | exact .there sl4 | exact .there sl5 | exact .there sl6 | exact .there sl7 | exact .there sl8 | exact .there sl9 | exact .there sl10 | exact .there sl11 | exact .there sl12) (.same _))))
    exact kk _ h.drop.drop.drop

theorem TopBlocks_walk {W a2} {s0 s1 : Sl} {l m : List Int} (tb : TabE W) (h0 : ArgI .u8 W s0 l) (h1 : ArgI .u8 W s1 m) (h2 : (Lit.int .u8 a2).wf = true) : sh12 s0 s1 a2 (fun vs w' => vs = [.bool true] ∧ Ok W [old W] w') W :=
  blocks_walk tb (Ok.start W) h0.len (fun x hx => h0.u8 hx) h1.len (fun x hx => h1.u8 hx) (wf_u8 h2) (fun h hi0 hi1 k => ix_arg h0 hi0 hi1 fun b o x hx hc => k b o x hx (hc _ ⟨_, h⟩)) (fun h hi0 hi1 k => ix_arg h1 hi0 hi1 fun b o x hx hc => k b o x hx (hc _ ⟨_, h⟩)) fun w' h => ⟨rfl, h⟩

end Go.Proofs.YtenonfkfoedfmaaGreatDoor.B

