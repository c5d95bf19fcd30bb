/- Texts of ours, joined: Gen. -/
import Derived.Test.YtenonfkfoedfmaaGreatDoorJTopB7
set_option linter.unusedSimpArgs false
set_option linter.unusedVariables false
/- Kernels whose tasks are all active: how they begin; when nobody stands anew. -/
namespace Go.Proofs.YtenonfkfoedfmaaGreatDoor.B
open Go
set_option linter.unusedVariables false

def unA (p : Int) : Un := ⟨0, 0, 0, 2, false, p, p, 0, 0, 0, 0, 0⟩

/-- the base priorities of tasks i + 1, .. -/
def setsT : Nat → List Int → List Mt → List Mt
  | _, [], t => t
  | i, p :: r, t => setsT (i + 1) r (t.set (i + 1) ⟨p, p, 0⟩)

def rdyF : Nat → List Int → List (Int × Int) → List (Int × Int)
  | _, [], l => l
  | i, p :: r, l => rdyF (i + 1) r (addL true l ((i : Int) + 1) p).2

theorem setsT_get : ∀ (ps : List Int) (i : Nat) (t : List Mt), i + ps.length < t.length → ∀ k, (setsT i ps t)[k]? = if i < k ∧ k ≤ i + ps.length then (ps[k - i - 1]?).map (fun p => ⟨p, p, 0⟩) else t[k]? := by
  intro ps
  induction ps with
  | nil => intro i t h k; rw [if_neg (by rw [List.length_nil]; omega)]; rfl
  | cons p r ih =>
    intro i t h k
    simp only [List.length_cons] at h ⊢
    rw [setsT, ih (i + 1) _ (by rw [List.length_set]; omega) k, List.getElem?_set]
    by_cases h1 : k = i + 1
    · subst h1
      rw [if_neg (by omega), if_pos rfl, if_pos (by omega), if_pos (by omega), show i + 1 - i - 1 = 0 by omega]
      rfl
    · by_cases h2 : i + 1 < k ∧ k ≤ i + 1 + r.length
      · rw [if_pos h2, if_pos (by omega), show k - i - 1 = (k - (i + 1) - 1) + 1 by omega]
        rfl
      · rw [if_neg h2, if_neg (by omega), if_neg (by omega)]

theorem newT_gen : ∀ (ps : List Int) (i : Nat) (K : KM), MM.Plain K.mm → (∀ p ∈ ps, 1 ≤ p ∧ p ≤ 16) → i + ps.length ≤ 16 →
    KM.newT i (ps.map fun x => (x, true)) K = some { K with mm := { K.mm with t := setsT i ps K.mm.t }, us := K.us ++ ps.map KM.unNew } := by
  intro ps
  induction ps with
  | nil => intro i K _ _ _; simp [KM.newT, setsT]
  | cons p r ih =>
    intro i K h hp hl
    simp only [List.length_cons] at hl
    have h1 := h.set (n := (i : Int) + 1) (p := p)
    have hs := h.setBase (n := (i : Int) + 1) (p := p) (by omega) (hp p (List.mem_cons_self ..))
    rw [show ((i : Int) + 1).toNat = i + 1 by omega] at h1 hs
    rw [List.map_cons, KM.newT, hs]
    simp only [Option.bind_some]
    rw [ih (i + 1) _ h1 (fun q hq => hp q (List.mem_cons_of_mem _ hq)) (by omega)]
    simp [setsT]

theorem act_new {K : KM} {n p : Int} (hu : K.un n = some (KM.unNew p)) (hp : K.mm.pri n = some p) : K.act n = some (0, { K.setU n (unA p) with rdy := (addL true K.rdy n p).2 }) := by
  unfold KM.act
  rw [hu]
  simp only [Option.bind_some]
  show (if ¬ ((0 : Int) ≤ 0 ∧ (0 : Int) ≤ 7) then none else if (16 : Int) = 16 then _ else _) = _
  rw [if_neg (by decide), if_pos rfl]
  unfold KM.enter
  rw [setU_un hu, Option.bind_some, if_pos rfl]
  show (Option.map _ (Option.map _ (K.mm.pri n))) = _
  rw [hp]
  simp only [Option.map_some]
  simp [KM.setU, List.set_set, unA, KM.unNew]

theorem newA_gen : ∀ (ps : List Int) (i : Nat) (K : KM) (A : List Un), K.us = A ++ ps.map KM.unNew → A.length = i → (∀ (j : Nat) p, ps[j]? = some p → K.mm.pri (((i + j : Nat) : Int) + 1) = some p) →
    KM.newA i (ps.map fun x => (x, true)) K = some { K with us := A ++ ps.map unA, rdy := rdyF i ps K.rdy } := by
  intro ps
  induction ps with
  | nil =>
    intro i K A hA _ _
    simp only [List.map_nil, List.append_nil] at hA ⊢
    rw [KM.newA, rdyF, ← hA]
  | cons p r ih =>
    intro i K A hA hl hp
    have hu : K.un ((i : Int) + 1) = some (KM.unNew p) := by
      unfold KM.un
      rw [show (i : Int) + 1 - 1 = (i : Int) by omega, getO_nat, hA, List.getElem?_append_right (by omega), hl, Nat.sub_self]
      rfl
    rw [List.map_cons, KM.newA, if_pos rfl, act_new hu (hp 0 p rfl)]
    simp only [Option.bind_some]
    have hus : ({ K.setU ((i : Int) + 1) (unA p) with rdy := (addL true K.rdy ((i : Int) + 1) p).2 } : KM).us = (A ++ [unA p]) ++ r.map KM.unNew := by
      show K.us.set ((i : Int) + 1 - 1).toNat (unA p) = _
      rw [hA, show ((i : Int) + 1 - 1).toNat = A.length by omega, List.map_cons, List.set_append_right _ _ (Nat.le_refl _), Nat.sub_self]
      simp
    rw [ih (i + 1) _ (A ++ [unA p]) hus (by simp [hl]) (fun j q hq => by
      have := hp (j + 1) q hq
      rw [show i + 1 + j = i + (j + 1) by omega]
      exact this)]
    simp [rdyF, KM.setU]

/-- a kernel of tasks that are all active -/
def genK (c : ConfM) (ps : List Int) : KM :=
  { KM.new0 c with mm := { MM.new c.mtxs with t := setsT 0 ps (MM.new c.mtxs).t }, us := ps.map unA, rdy := rdyF 0 ps [] }

theorem gen_pri {c : ConfM} {ps : List Int} (hl : ps.length ≤ 16) {j : Nat} {p : Int} (h : ps[j]? = some p) : ({ MM.new c.mtxs with t := setsT 0 ps (MM.new c.mtxs).t } : MM).pri ((j : Int) + 1) = some p ∧ getO (setsT 0 ps (MM.new c.mtxs).t) ((j : Int) + 1) = some ⟨p, p, 0⟩ := by
  have hj := (List.getElem?_eq_some_iff.1 h).1
  have hg : getO (setsT 0 ps (MM.new c.mtxs).t) ((j : Int) + 1) = some ⟨p, p, 0⟩ := by
    rw [show (j : Int) + 1 = ((j + 1 : Nat) : Int) from rfl, getO_nat, setsT_get _ _ _ (by show 0 + ps.length < 17; omega), if_pos (by omega), show j + 1 - 0 - 1 = j by omega, h]
    rfl
  refine ⟨?_, hg⟩
  unfold MM.pri
  rw [if_pos (by omega)]
  show Option.map _ (getO (setsT 0 ps (MM.new c.mtxs).t) _) = _
  rw [hg]
  rfl

theorem new_gen {c : ConfM} {ps : List Int} (ht : c.tasks = ps.map fun x => (x, true)) (hp : ∀ p ∈ ps, 1 ≤ p ∧ p ≤ 16) (hl : ps.length ≤ 16) (hm : ∀ x ∈ c.mtxs, x.1 ≠ 3) : KM.new c = some (genK c ps).choose := by
  unfold KM.new
  rw [ht, newT_gen ps 0 (KM.new0 c) (MM.new_plain hm) hp (by omega)]
  simp only [Option.bind_some]
  rw [newA_gen ps 0 _ [] rfl rfl (fun j p h => by
    rw [Nat.zero_add]
    exact (gen_pri (c := c) hl h).1)]
  rfl

/-- the place of each is the one that its priority says -/
def Still (K : KM) : Prop := ∀ n u, K.un n = some u → K.mm.pri n = some u.pri

theorem Still.settle {K : KM} (h : Still K) : K.settle = some K := by
  have hk : ∀ k n : Nat, 1 ≤ n → n + k ≤ K.us.length + 1 → KM.settleFrom n k K = some K := by
    intro k
    induction k with
    | zero => intro n _ _; rfl
    | succ k ih =>
      intro n h1 h2
      have hu : K.un (n : Int) = some (K.us[n - 1]'(by omega)) := by
        unfold KM.un
        rw [show (n : Int) - 1 = ((n - 1 : Nat) : Int) by omega, getO_nat]
        exact List.getElem?_eq_getElem _
      have e : K.settle1 (n : Int) = some K := by
        unfold KM.settle1
        rw [hu, Option.bind_some, h _ _ hu, Option.bind_some, if_pos rfl]
      rw [KM.settleFrom, e, Option.bind_some]
      exact ih (n + 1) (by omega) (by omega)
  exact hk _ 1 (by omega) (by omega)

theorem Still.set {K K' : KM} {n : Int} {u u' : Un} (h : Still K) (h1 : K'.us = K.us.set (n - 1).toNat u') (h2 : K'.mm = K.mm) (hu : K.un n = some u) (hp : u'.pri = u.pri) : Still K' := by
  intro m v hv
  rw [h2]
  unfold KM.un at hv
  rw [h1] at hv
  obtain ⟨a1, a2, a3⟩ := getO_some hv
  rw [List.getElem?_set] at a3
  have hn := un_get hu
  by_cases hc : (n - 1).toNat = (m - 1).toNat
  · rw [if_pos hc, if_pos (by omega)] at a3
    cases a3
    have : m = n := by omega
    subst this
    rw [hp]
    exact h _ _ hu
  · rw [if_neg hc] at a3
    exact h m v (getO_of a1 a3)

theorem Still.same {K K' : KM} (h : Still K) (h1 : K'.us = K.us) (h2 : K'.mm = K.mm) : Still K' := by
  intro m v hv
  rw [h2]
  exact h m v (un_us hv h1.symm)

theorem gen_still {c : ConfM} {ps : List Int} (hl : ps.length ≤ 16) : Still (genK c ps) := by
  intro n u hu
  obtain ⟨h1, h2, h3⟩ := un_get hu
  have h4 : (ps.map unA)[(n - 1).toNat]? = some u := h3
  rw [List.getElem?_map] at h4
  obtain ⟨p, hp, rfl⟩ := Option.map_eq_some_iff.1 h4
  have := (gen_pri (c := c) hl hp).1
  rw [show (((n - 1).toNat : Nat) : Int) + 1 = n by omega] at this
  exact this

/-- who runs waits, for ever -/
theorem stay_ever {K : KM} {u : Un} {kind obj : Int} (hs : Still K) (hu : K.un K.who = some u) (h2 : u.state = 2) (hk : kind ≠ 1) :
    K.stay kind obj (-1) = some (({ K with rdy := rmL K.rdy K.who } : KM).setU K.who { u with state := 4, asleep := false, kind := kind, obj := obj }) := by
  unfold KM.stay
  rw [hu]
  simp only [Option.bind_some]
  rw [if_neg (by decide), if_pos ⟨hk, h2⟩]
  exact (hs.set (u := u) (K' := ({ K with rdy := rmL K.rdy K.who } : KM).setU K.who { u with state := 4, asleep := false, kind := kind, obj := obj }) rfl rfl hu rfl).settle

/-- who runs waits for some time -/
theorem stay_for {K : KM} {u : Un} {kind obj d : Int} (hs : Still K) (hu : K.un K.who = some u) (h2 : u.state = 2) (hk : kind ≠ 1)
    (hd : 0 ≤ d ∧ d ≤ 2147483647) (hw : 0 ≤ K.who ∧ K.who ≤ 1000) (he : K.ents.length < 256) (hup : 0 ≤ K.up ∧ K.up ≤ 2 ^ 40) (hla : 0 ≤ K.last ∧ K.last ≤ 2 ^ 40) :
    K.stay kind obj d = some (({ K with rdy := rmL K.rdy K.who, last := K.last + 1, ents := insE ⟨K.up + d + K.tic, K.last + 1, K.who⟩ K.ents } : KM).setU K.who { u with state := 4, asleep := false, kind := kind, obj := obj, handle := K.last + 1 }) := by
  unfold KM.stay
  rw [hu]
  simp only [Option.bind_some]
  rw [if_pos (show d ≥ 0 from hd.1), if_pos ⟨hk, h2⟩]
  have e : KM.wait { K with rdy := rmL K.rdy K.who } d K.who = some (K.last + 1, { K with rdy := rmL K.rdy K.who, last := K.last + 1, ents := insE ⟨K.up + d + K.tic, K.last + 1, K.who⟩ K.ents }) := by
    unfold KM.wait
    exact if_pos ⟨hd.1, hd.2, hw.1, hw.2, he, hup.1, hup.2, hla.1, hla.2⟩
  rw [e]
  simp only [Option.bind_some]
  exact (hs.set (u := u) (K' := ({ K with rdy := rmL K.rdy K.who, last := K.last + 1, ents := insE ⟨K.up + d + K.tic, K.last + 1, K.who⟩ K.ents } : KM).setU K.who { u with state := 4, asleep := false, kind := kind, obj := obj, handle := K.last + 1 }) rfl rfl hu rfl).settle

end Go.Proofs.YtenonfkfoedfmaaGreatDoor.B

