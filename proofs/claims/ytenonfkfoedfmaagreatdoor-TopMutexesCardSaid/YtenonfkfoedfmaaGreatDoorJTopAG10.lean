/- Texts of ours, joined: Gen, Mxs, MxsW. -/
import Derived.Test.YtenonfkfoedfmaaGreatDoorJTopA7
import Derived.Test.YtenonfkfoedfmaaGreatDoorJTopAG1
import Derived.Test.YtenonfkfoedfmaaGreatDoorJTopAG2
import Derived.Test.YtenonfkfoedfmaaGreatDoorJTopAG3
set_option linter.unusedSimpArgs false
set_option linter.unusedVariables false
/- Kernels whose tasks are all active: how they begin; when nobody stands anew. -/
namespace Go.Proofs.YtenonfkfoedfmaaGreatDoor.B
open Go
set_option linter.unusedVariables false

def unA (p : Int) : Un := ⟨0, 0, 0, 2, false, p, p, 0, 0, 0, 0, 0⟩

/-- the base priorities of tasks i + 1, .. -/
def setsT : Nat → List Int → List Mt → List Mt
  | _, [], t => t
  | i, p :: r, t => setsT (i + 1) r (t.set (i + 1) ⟨p, p, 0⟩)

def rdyF : Nat → List Int → List (Int × Int) → List (Int × Int)
  | _, [], l => l
  | i, p :: r, l => rdyF (i + 1) r (addL true l ((i : Int) + 1) p).2

theorem setsT_plain : ∀ (ps : List Int) (i : Nat) {M : MM}, MM.Plain M → MM.Plain { M with t := setsT i ps M.t } := by
  intro ps
  induction ps with
  | nil => intro i M h; exact h
  | cons p r ih =>
    intro i M h
    have h1 := h.set (n := (i : Int) + 1) (p := p)
    rw [show ((i : Int) + 1).toNat = i + 1 by omega] at h1
    exact ih (i + 1) h1

theorem setsT_get : ∀ (ps : List Int) (i : Nat) (t : List Mt), i + ps.length < t.length → ∀ k, (setsT i ps t)[k]? = if i < k ∧ k ≤ i + ps.length then (ps[k - i - 1]?).map (fun p => ⟨p, p, 0⟩) else t[k]? := by
  intro ps
  induction ps with
  | nil => intro i t h k; rw [if_neg (by rw [List.length_nil]; omega)]; rfl
  | cons p r ih =>
    intro i t h k
    simp only [List.length_cons] at h ⊢
    rw [setsT, ih (i + 1) _ (by rw [List.length_set]; omega) k, List.getElem?_set]
    by_cases h1 : k = i + 1
    · subst h1
      rw [if_neg (by omega), if_pos rfl, if_pos (by omega), if_pos (by omega), show i + 1 - i - 1 = 0 by omega]
      rfl
    · by_cases h2 : i + 1 < k ∧ k ≤ i + 1 + r.length
      · rw [if_pos h2, if_pos (by omega), show k - i - 1 = (k - (i + 1) - 1) + 1 by omega]
        rfl
      · rw [if_neg h2, if_neg (by omega), if_neg (by omega)]

theorem newT_gen : ∀ (ps : List Int) (i : Nat) (K : KM), MM.Plain K.mm → (∀ p ∈ ps, 1 ≤ p ∧ p ≤ 16) → i + ps.length ≤ 16 →
    KM.newT i (ps.map fun x => (x, true)) K = some { K with mm := { K.mm with t := setsT i ps K.mm.t }, us := K.us ++ ps.map KM.unNew } := by
  intro ps
  induction ps with
  | nil => intro i K _ _ _; simp [KM.newT, setsT]
  | cons p r ih =>
    intro i K h hp hl
    simp only [List.length_cons] at hl
    have h1 := h.set (n := (i : Int) + 1) (p := p)
    have hs := h.setBase (n := (i : Int) + 1) (p := p) (by omega) (hp p (List.mem_cons_self ..))
    rw [show ((i : Int) + 1).toNat = i + 1 by omega] at h1 hs
    rw [List.map_cons, KM.newT, hs]
    simp only [Option.bind_some]
    rw [ih (i + 1) _ h1 (fun q hq => hp q (List.mem_cons_of_mem _ hq)) (by omega)]
    simp [setsT]

theorem act_new {K : KM} {n p : Int} (hu : K.un n = some (KM.unNew p)) (hp : K.mm.pri n = some p) : K.act n = some (0, { K.setU n (unA p) with rdy := (addL true K.rdy n p).2 }) := by
  unfold KM.act
  rw [hu]
  simp only [Option.bind_some]
  show (if ¬ ((0 : Int) ≤ 0 ∧ (0 : Int) ≤ 7) then none else if (16 : Int) = 16 then _ else _) = _
  rw [if_neg (by decide), if_pos rfl]
  unfold KM.enter
  rw [setU_un hu, Option.bind_some, if_pos rfl]
  show (Option.map _ (Option.map _ (K.mm.pri n))) = _
  rw [hp]
  simp only [Option.map_some]
  simp [KM.setU, List.set_set, unA, KM.unNew]

theorem newA_gen : ∀ (ps : List Int) (i : Nat) (K : KM) (A : List Un), K.us = A ++ ps.map KM.unNew → A.length = i → (∀ (j : Nat) p, ps[j]? = some p → K.mm.pri (((i + j : Nat) : Int) + 1) = some p) →
    KM.newA i (ps.map fun x => (x, true)) K = some { K with us := A ++ ps.map unA, rdy := rdyF i ps K.rdy } := by
  intro ps
  induction ps with
  | nil =>
    intro i K A hA _ _
    simp only [List.map_nil, List.append_nil] at hA ⊢
    rw [KM.newA, rdyF, ← hA]
  | cons p r ih =>
    intro i K A hA hl hp
    have hu : K.un ((i : Int) + 1) = some (KM.unNew p) := by
      unfold KM.un
      rw [show (i : Int) + 1 - 1 = (i : Int) by omega, getO_nat, hA, List.getElem?_append_right (by omega), hl, Nat.sub_self]
      rfl
    rw [List.map_cons, KM.newA, if_pos rfl, act_new hu (hp 0 p rfl)]
    simp only [Option.bind_some]
    have hus : ({ K.setU ((i : Int) + 1) (unA p) with rdy := (addL true K.rdy ((i : Int) + 1) p).2 } : KM).us = (A ++ [unA p]) ++ r.map KM.unNew := by
      show K.us.set ((i : Int) + 1 - 1).toNat (unA p) = _
      rw [hA, show ((i : Int) + 1 - 1).toNat = A.length by omega, List.map_cons, List.set_append_right _ _ (Nat.le_refl _), Nat.sub_self]
      simp
    rw [ih (i + 1) _ (A ++ [unA p]) hus (by simp [hl]) (fun j q hq => by
      have := hp (j + 1) q hq
      rw [show i + 1 + j = i + (j + 1) by omega]
      exact this)]
    simp [rdyF, KM.setU]

/-- a kernel of tasks that are all active -/
def genK (c : ConfM) (ps : List Int) : KM :=
  { KM.new0 c with mm := { MM.new c.mtxs with t := setsT 0 ps (MM.new c.mtxs).t }, us := ps.map unA, rdy := rdyF 0 ps [] }

theorem gen_pri {c : ConfM} {ps : List Int} (hl : ps.length ≤ 16) {j : Nat} {p : Int} (h : ps[j]? = some p) : ({ MM.new c.mtxs with t := setsT 0 ps (MM.new c.mtxs).t } : MM).pri ((j : Int) + 1) = some p ∧ getO (setsT 0 ps (MM.new c.mtxs).t) ((j : Int) + 1) = some ⟨p, p, 0⟩ := by
  have hj := (List.getElem?_eq_some_iff.1 h).1
  have hg : getO (setsT 0 ps (MM.new c.mtxs).t) ((j : Int) + 1) = some ⟨p, p, 0⟩ := by
    rw [show (j : Int) + 1 = ((j + 1 : Nat) : Int) from rfl, getO_nat, setsT_get _ _ _ (by show 0 + ps.length < 17; omega), if_pos (by omega), show j + 1 - 0 - 1 = j by omega, h]
    rfl
  refine ⟨?_, hg⟩
  unfold MM.pri
  rw [if_pos (by omega)]
  show Option.map _ (getO (setsT 0 ps (MM.new c.mtxs).t) _) = _
  rw [hg]
  rfl

theorem new_gen {c : ConfM} {ps : List Int} (ht : c.tasks = ps.map fun x => (x, true)) (hp : ∀ p ∈ ps, 1 ≤ p ∧ p ≤ 16) (hl : ps.length ≤ 16) (hm : ∀ x ∈ c.mtxs, x.1 ≠ 3) : KM.new c = some (genK c ps).choose := by
  unfold KM.new
  rw [ht, newT_gen ps 0 (KM.new0 c) (MM.new_plain hm) hp (by omega)]
  simp only [Option.bind_some]
  rw [newA_gen ps 0 _ [] rfl rfl (fun j p h => by
    rw [Nat.zero_add]
    exact (gen_pri (c := c) hl h).1)]
  rfl

theorem gen_plain {c : ConfM} {ps : List Int} (hm : ∀ x ∈ c.mtxs, x.1 ≠ 3) : MM.Plain (genK c ps).mm := setsT_plain ps 0 (MM.new_plain hm)

/-- the place of each is the one that its priority says -/
def Still (K : KM) : Prop := ∀ n u, K.un n = some u → K.mm.pri n = some u.pri

theorem Still.settle {K : KM} (h : Still K) : K.settle = some K := by
  have hk : ∀ k n : Nat, 1 ≤ n → n + k ≤ K.us.length + 1 → KM.settleFrom n k K = some K := by
    intro k
    induction k with
    | zero => intro n _ _; rfl
    | succ k ih =>
      intro n h1 h2
      have hu : K.un (n : Int) = some (K.us[n - 1]'(by omega)) := by
        unfold KM.un
        rw [show (n : Int) - 1 = ((n - 1 : Nat) : Int) by omega, getO_nat]
        exact List.getElem?_eq_getElem _
      have e : K.settle1 (n : Int) = some K := by
        unfold KM.settle1
        rw [hu, Option.bind_some, h _ _ hu, Option.bind_some, if_pos rfl]
      rw [KM.settleFrom, e, Option.bind_some]
      exact ih (n + 1) (by omega) (by omega)
  exact hk _ 1 (by omega) (by omega)

theorem Still.set {K K' : KM} {n : Int} {u u' : Un} (h : Still K) (h1 : K'.us = K.us.set (n - 1).toNat u') (h2 : K'.mm = K.mm) (hu : K.un n = some u) (hp : u'.pri = u.pri) : Still K' := by
  intro m v hv
  rw [h2]
  unfold KM.un at hv
  rw [h1] at hv
  obtain ⟨a1, a2, a3⟩ := getO_some hv
  rw [List.getElem?_set] at a3
  have hn := un_get hu
  by_cases hc : (n - 1).toNat = (m - 1).toNat
  · rw [if_pos hc, if_pos (by omega)] at a3
    cases a3
    have : m = n := by omega
    subst this
    rw [hp]
    exact h _ _ hu
  · rw [if_neg hc] at a3
    exact h m v (getO_of a1 a3)

theorem Still.same {K K' : KM} (h : Still K) (h1 : K'.us = K.us) (h2 : K'.mm = K.mm) : Still K' := by
  intro m v hv
  rw [h2]
  exact h m v (un_us hv h1.symm)

theorem gen_still {c : ConfM} {ps : List Int} (hl : ps.length ≤ 16) : Still (genK c ps) := by
  intro n u hu
  obtain ⟨h1, h2, h3⟩ := un_get hu
  have h4 : (ps.map unA)[(n - 1).toNat]? = some u := h3
  rw [List.getElem?_map] at h4
  obtain ⟨p, hp, rfl⟩ := Option.map_eq_some_iff.1 h4
  have := (gen_pri (c := c) hl hp).1
  rw [show (((n - 1).toNat : Nat) : Int) + 1 = n by omega] at this
  exact this

end Go.Proofs.YtenonfkfoedfmaaGreatDoor.B


/- TopMutexes: the plain law. -/
namespace Go.Proofs.YtenonfkfoedfmaaGreatDoor.B
open Go
set_option linter.unusedVariables false

theorem setsT_snoc : ∀ (ps : List Int) (i : Nat) (p : Int) (t : List Mt), setsT i (ps ++ [p]) t = (setsT i ps t).set (i + ps.length + 1) ⟨p, p, 0⟩ := by
  intro ps
  induction ps with
  | nil => intro i p t; rfl
  | cons q r ih =>
    intro i p t
    rw [List.cons_append, setsT, setsT, ih, List.length_cons, show i + 1 + r.length + 1 = i + (r.length + 1) + 1 by omega]

namespace MM

theorem lock_own {M : MM} (h : Plain M) {o n : Int} {x : Mx} (hx : getO M.m o = some x) (h1 : 1 ≤ o) (hn : 1 ≤ n ∧ n ≤ 16) (ho : x.owner = n) : M.lock o n = some ((false, -28), M) := by
  obtain ⟨a1, a2, a3⟩ := getO_some hx
  obtain ⟨b, b1, b2⟩ := h.get hn
  have hin : isIn M o = true := decide_eq_true (by omega)
  have ht : M.tryLock o n = some ((false, -28), M) := by
    unfold MM.tryLock
    rw [if_neg (fun hc => hc ⟨hin, hn⟩), hx, Option.bind_some, b1, Option.bind_some, if_pos (.inl ho)]
  unfold MM.lock
  rw [ht, Option.bind_some, if_pos (.inr (show (-28 : Int) ≠ 0 by decide))]

theorem lock_free {M : MM} (h : Plain M) {o n : Int} {x : Mx} (hx : getO M.m o = some x) (h1 : 1 ≤ o) (hn : 1 ≤ n ∧ n ≤ 16) (ho : x.owner = 0) :
    M.lock o n = some ((true, 0), { M with m := M.m.set o.toNat { x with owner := n } }) := by
  obtain ⟨a1, a2, a3⟩ := getO_some hx
  obtain ⟨b, b1, b2⟩ := h.get hn
  have hin : isIn M o = true := decide_eq_true (by omega)
  have hs : setO M o n = some { M with m := M.m.set o.toNat { x with owner := n } } := by
    unfold setO
    rw [hx]; rfl
  have hP : Plain { M with m := M.m.set o.toNat { x with owner := n } } := h.owned (m := o.toNat) (o := n) _ (by rw [show ((o.toNat : Nat) : Int) = o by omega]; exact hs)
  have ht : M.tryLock o n = some ((true, 0), { M with m := M.m.set o.toNat { x with owner := n } }) := by
    unfold MM.tryLock
    rw [if_neg (fun hc => hc ⟨hin, hn⟩), hx, Option.bind_some, b1, Option.bind_some, if_neg (fun hc => by
      rcases hc with hc | hc
      · omega
      · exact (h.m x (List.mem_of_getElem? a3)).2 hc.1), if_neg (by show ¬ (0 : Int) > 0; decide), if_pos ho, hs, Option.bind_some, hP.settle]
    rfl
  unfold MM.lock
  rw [ht, Option.bind_some, if_pos (.inl rfl)]

theorem Plain.waiting {M : MM} (h : Plain M) (o : Int) : M.waiting o = [] := by
  unfold MM.waiting
  split
  · cases hx : getO M.m o with
    | none => rfl
    | some x =>
      obtain ⟨a1, a2, a3⟩ := getO_some hx
      exact (h.m x (List.mem_of_getElem? a3)).1
  · rfl

end MM

namespace Mxs

/-- a kernel of one task that runs and runs -/
structure Good (t : Int) (K : KM) : Prop where
  pl : K.pl = ⟨[], false, false⟩
  head : (K.rdy.head?.getD (0, 0)).1 = t
  who : K.who = t
  still : Still K
  plain : MM.Plain K.mm
  t0 : 1 ≤ t ∧ t ≤ 16
  own : ∀ x ∈ K.mm.m, x.owner = 0 ∨ x.owner = t

theorem Good.choose {t : Int} {K : KM} (h : Good t K) : K.choose = K := by
  unfold KM.choose
  rw [if_pos (by rw [h.pl]; rfl), h.head, ← h.who]

theorem step {t o : Int} {K : KM} (h : Good t K) (ho : 1 ≤ o ∧ o < K.mm.m.length) :
    ∃ r, K.mm.lock o t = some r ∧ K.call 2 (KM.cLoc o) = some ((r.1.2, 0), { K with mm := r.2 }) ∧ (r.1 = (true, 0) ∨ r.1 = (false, -28)) ∧ r.2.m.length = K.mm.m.length ∧ Good t { K with mm := r.2 } := by
  obtain ⟨x, hx, hx2⟩ := getO_ex (l := K.mm.m) (i := o) (by omega) (by omega)
  have hr : ∃ r, K.mm.lock o t = some r ∧ (r.1 = (true, 0) ∨ r.1 = (false, -28)) ∧ r.2.m.length = K.mm.m.length ∧ Good t { K with mm := r.2 } := by
    rcases h.own x (List.mem_of_getElem? hx2) with h0 | h0
    · refine ⟨_, MM.lock_free h.plain hx ho.1 h.t0 h0, .inl rfl, by simp, h.pl, h.head, h.who, ?_, ?_, h.t0, ?_⟩
      · intro n u hu
        exact h.still n u hu
      · refine h.plain.owned (m := o.toNat) (o := t) _ ?_
        rw [show ((o.toNat : Nat) : Int) = o by omega]
        unfold MM.setO
        rw [hx]; rfl
      · intro y hy
        rcases List.mem_or_eq_of_mem_set hy with hy | rfl
        · exact h.own y hy
        · exact .inr rfl
    · exact ⟨_, MM.lock_own h.plain hx ho.1 h.t0 h0, .inr rfl, rfl, h⟩
  obtain ⟨r, h1, h2, h3, h4⟩ := hr
  refine ⟨r, h1, ?_, h2, h3, h4⟩
  unfold KM.call
  have hmay : K.may 2 = 0 := by
    unfold KM.may
    rw [h.pl, show decide (K.who = 0) = false from decide_eq_false (by rw [h.who]; have := h.t0; omega)]
    rfl
  rw [if_neg (by rw [hmay]; decide)]
  unfold KM.cLoc
  rw [if_neg (by omega), (show K.mm.lock o K.who = some r by rw [h.who]; exact h1), Option.bind_some, if_pos (by rcases h2 with h2 | h2 <;> rw [h2] <;> simp), h4.still.settle]
  show some ((r.1.2, (0 : Int)), ({ K with mm := r.2 } : KM).choose) = _
  rw [h4.choose]

def cf (ks : List (Int × Int)) (ps : List Int) : ConfM := ⟨1, ps.map fun x => (x, true), [], [], ks, []⟩

theorem rdy_head : ∀ (ps : List Int) (i : Nat) (l : List (Int × Int)), (∀ x ∈ l, 1 ≤ x.1 ∧ x.1 ≤ (i : Int)) → (l = [] → ps ≠ []) → i + ps.length ≤ 16 → (∀ p ∈ ps, 1 ≤ p ∧ p ≤ 16) →
    1 ≤ ((rdyF i ps l).head?.getD (0, 0)).1 ∧ ((rdyF i ps l).head?.getD (0, 0)).1 ≤ (i + ps.length : Nat) := by
  intro ps
  induction ps with
  | nil =>
    intro i l h h0 _ _
    cases l with
    | nil => exact absurd rfl (h0 rfl)
    | cons x r => exact h x (List.mem_cons_self ..)
  | cons p ps ih =>
    intro i l h _ hl hp
    have hpp := hp p (List.mem_cons_self ..)
    simp only [List.length_cons] at hl
    have hni : ((i : Int) + 1) ∉ ids l := fun hc => by
      obtain ⟨x, hx, he⟩ := List.mem_map.1 hc
      have := h x hx
      omega
    have ha : (addL true l ((i : Int) + 1) p).2 = putL true l ((i : Int) + 1, p) := by
      unfold addL
      rw [if_neg (by omega), if_neg (by rw [atI_pos]; exact hni)]
    rw [rdyF, ha]
    have := ih (i + 1) (putL true l ((i : Int) + 1, p)) (fun x hx => by
      rcases List.mem_cons.1 ((putL_perm true l ((i : Int) + 1, p)).subset hx) with rfl | hx
      · dsimp only; omega
      · have := h x hx; omega) (fun hc => by have := congrArg List.length hc; rw [putL_len] at this; simp at this) (by omega) (fun q hq => hp q (List.mem_cons_of_mem _ hq))
    simp only [List.length_cons]
    rw [show i + (ps.length + 1) = i + 1 + ps.length by omega]
    exact this

theorem start {ks : List (Int × Int)} {ps : List Int} (hk : ∀ x ∈ ks, x.1 ≠ 3) (hp : ∀ p ∈ ps, 1 ≤ p ∧ p ≤ 16) (hl : 1 ≤ ps.length ∧ ps.length ≤ 16) :
    ∃ t K, KM.new (cf ks ps) = some K ∧ Good t K ∧ K.mm = { MM.new ks with t := setsT 0 ps (MM.new ks).t } ∧ K.us = ps.map unA ∧ t ≤ ps.length := by
  have hn := new_gen (c := cf ks ps) (ps := ps) rfl hp hl.2 hk
  have hc : (genK (cf ks ps) ps).choose = { genK (cf ks ps) ps with who := ((genK (cf ks ps) ps).rdy.head?.getD (0, 0)).1 } := if_pos rfl
  have hh := rdy_head ps 0 [] (by simp) (fun _ hc => by rw [hc] at hl; simp at hl) (by omega) hp
  refine ⟨((rdyF 0 ps []).head?.getD (0, 0)).1, _, hn, ?_, by rw [hc]; rfl, by rw [hc]; rfl, by omega⟩
  rw [hc]
  refine ⟨rfl, rfl, rfl, (gen_still (c := cf ks ps) hl.2).same rfl rfl, gen_plain (c := cf ks ps) hk, by omega, fun x hx => .inl ?_⟩
  rcases List.mem_cons.1 (show x ∈ (⟨0, 0, 0, []⟩ : Mx) :: ks.map (fun k => ⟨k.1, k.2, 0, []⟩) from hx) with rfl | hx
  · rfl
  · obtain ⟨k, -, rfl⟩ := List.mem_map.1 hx
    rfl

/-- the mutexes by themselves -/
theorem base {ks : List (Int × Int)} {ps : List Int} {i : Nat} {p : Int} (hk : ∀ x ∈ ks, x.1 ≠ 3) (hi : ps[i]? = some p) (hp : 1 ≤ p ∧ p ≤ 16) (hl : ps.length ≤ 16) :
    ({ MM.new ks with t := setsT 0 (ps.take i) (MM.new ks).t } : MM).setBase ((i : Int) + 1) p = some (0, { MM.new ks with t := setsT 0 (ps.take (i + 1)) (MM.new ks).t }) := by
  have hlt := (List.getElem?_eq_some_iff.1 hi).1
  rw [(setsT_plain (ps.take i) 0 (MM.new_plain hk)).setBase (by omega) hp]
  rw [List.take_add_one, hi, Option.toList_some, setsT_snoc, List.length_take, Nat.min_eq_left (by omega), show ((i : Int) + 1).toNat = 0 + i + 1 by omega]

end Mxs

end Go.Proofs.YtenonfkfoedfmaaGreatDoor.B


/- TopMutexes. -/
namespace Go.Proofs.YtenonfkfoedfmaaGreatDoor.B
open Go
set_option linter.unusedVariables false

namespace Mxs

theorem task_ok {t : Int} {K : KM} {j : Nat} (h : Good t K) (hu : K.us.length = 3) (hj : 1 ≤ j ∧ j ≤ 3) :
    ∃ f b, K.task (j : Int) = some f ∧ f.pri = b ∧ f.base = b ∧ K.mm.pri (j : Int) = some b ∧ K.mm.base (j : Int) = some b := by
  obtain ⟨b, h1, -⟩ := h.plain.get (n := (j : Int)) (by omega)
  have hp : K.mm.pri (j : Int) = some b := by
    unfold MM.pri
    rw [if_pos (by omega), h1]; rfl
  have hb : K.mm.base (j : Int) = some b := by
    unfold MM.base
    rw [if_pos (by omega), h1]; rfl
  obtain ⟨u, hun⟩ : ∃ u, K.un (j : Int) = some u := by
    refine ⟨K.us[j - 1]'(by omega), ?_⟩
    unfold KM.un
    rw [show (j : Int) - 1 = ((j - 1 : Nat) : Int) by omega, getO_nat]
    exact List.getElem?_eq_getElem _
  refine ⟨⟨if (j : Int) = K.who then 1 else u.state, b, b, u.kind, u.obj, u.lc, u.lv, u.acts, u.wups, u.susps⟩, b, ?_, rfl, rfl, hp, hb⟩
  unfold KM.task
  rw [hun, Option.bind_some, hp, Option.bind_some, hb]
  rfl

theorem ok_cf {a b : Int} {ps : List Int} (ha : 0 ≤ a ∧ a ≤ 2) (hb : 0 ≤ b ∧ b ≤ 2) (hp : ∀ p ∈ ps, 1 ≤ p ∧ p ≤ 16) (hl : 1 ≤ ps.length ∧ ps.length ≤ 16) : (cf [(a, 0), (b, 0)] ps).ok = true := by
  have ra : MM.right (a, 0) = true := decide_eq_true (by omega)
  have rb : MM.right (b, 0) = true := decide_eq_true (by omega)
  have ht : (ps.map fun x => (x, true)).all (fun x => decide (1 ≤ x.1 ∧ x.1 ≤ 16)) = true := by
    rw [List.all_eq_true]
    intro x hx
    obtain ⟨p, hp2, rfl⟩ := List.mem_map.1 hx
    exact decide_eq_true (hp p hp2)
  unfold cf ConfM.ok
  dsimp only
  rw [ht]
  simp [ra, rb, poolsOk, hl]

end Mxs

theorem al_u8 {x : Int} (h : 0 ≤ x ∧ x ≤ 255) : w64 (1 + w64 (Int.tmod x 16)) = 1 + x % 16 ∧ 1 ≤ 1 + x % 16 ∧ 1 + x % 16 ≤ 16 := by
  rw [Int.tmod_eq_emod_of_nonneg h.1, w64_in (x := x % 16) (by omega) (by omega), w64_in (by omega) (by omega)]
  omega

set_option maxHeartbeats 1000000 in
theorem mutexes_walk {e L w a0 a1 x0 x1 x2 R} (tb : TabE e) (h : Ok e (old e :: L) w) (h0 : 0 ≤ a0 ∧ a0 ≤ 255) (h1 : 0 ≤ a1 ∧ a1 ≤ 255) (g0 : 0 ≤ x0 ∧ x0 ≤ 255) (g1 : 0 ≤ x1 ∧ x1 ≤ 255) (g2 : 0 ≤ x2 ∧ x2 ≤ 255) (kk : ∀ w', Ok e (old e :: L) w' → R [.bool true] w') : sh11 a0 a1 (x0, x1, x2, ()) R w := by
  unfold sh11
  refine al.mk h fun b1 w2 h => ?_
  have h := h.p1
  refine call17 (known_top tb h fun w1 h => ⟨(true, ()), rfl, cs.no rfl ?_⟩)
  obtain ⟨a, ha, ha1⟩ : ∃ a, w64 (Int.tmod a0 3) = a ∧ 0 ≤ a ∧ a ≤ 2 := ⟨a0 % 3, by rw [Int.tmod_eq_emod_of_nonneg h0.1, w64_in (by omega) (by omega)], by omega⟩
  obtain ⟨b, hb, hb1⟩ : ∃ a, w64 (Int.tmod a1 3) = a ∧ 0 ≤ a ∧ a ≤ 2 := ⟨a1 % 3, by rw [Int.tmod_eq_emod_of_nonneg h1.1, w64_in (by omega) (by omega)], by omega⟩
  rw [ha, hb]
  obtain ⟨e0, f0⟩ := al_u8 g0
  obtain ⟨e1, f1⟩ := al_u8 g1
  obtain ⟨e2, f2⟩ := al_u8 g2
  refine al.mk h fun b5 w6 h => ?_
  refine ⟨by decide, by decide, ldI.mk (h.p2.cell rfl) ⟨by decide, by decide, ldI.mk (h.p2.cell rfl) ⟨by decide, by decide, ldI.mk (h.p2.cell rfl) ?_⟩⟩⟩
  rw [e0, e1, e2]
  obtain ⟨p0, hp0⟩ : ∃ p, p = 1 + x0 % 16 := ⟨_, rfl⟩
  obtain ⟨p1, hp1⟩ : ∃ p, p = 1 + x1 % 16 := ⟨_, rfl⟩
  obtain ⟨p2, hp2⟩ : ∃ p, p = 1 + x2 % 16 := ⟨_, rfl⟩
  rw [← hp0, ← hp1, ← hp2]
  have hps : ∀ p ∈ [p0, p1, p2], 1 ≤ p ∧ p ≤ 16 := by
    intro p hp
    simp only [List.mem_cons, List.not_mem_nil, or_false] at hp
    rcases hp with rfl | rfl | rfl <;> omega
  have hks : ∀ x ∈ [(a, (0 : Int)), (b, 0)], x.1 ≠ 3 := by
    intro x hx
    simp only [List.mem_cons, List.not_mem_nil, or_false] at hx
    rcases hx with rfl | rfl <;> dsimp only <;> omega
  have hrs : ∀ x ∈ [(a, (0 : Int)), (b, 0)], MM.right x = true := by
    intro x hx
    simp only [List.mem_cons, List.not_mem_nil, or_false] at hx
    rcases hx with rfl | rfl <;> exact decide_eq_true (by omega)
  obtain ⟨T, K0, hK0, hG, hmm, hus, hT⟩ := Mxs.start (ks := [(a, 0), (b, 0)]) (ps := [p0, p1, p2]) hks hps (by simp)
  have h : Ok e (pts b5 (flat kdC [(a, 0), (b, 0)]) :: old e :: pts b1 [.int .u8 x0, .int .u8 x1, .int .u8 x2] :: L) w6 := h
  have h : Ok e (slc 2 ⟨some ⟨b5, 0, none⟩, 2, 2⟩ (flat kdC [(a, 0), (b, 0)]) :: old e :: pts b1 [.int .u8 x0, .int .u8 x1, .int .u8 x2] :: L) w6 :=
    Ok.slcNew (vs := flat kdC [(a, 0), (b, 0)]) (sz := 2) (n := 2) h rfl (flat_one kdC_one1)
  have h : Ok e (slc 2 ⟨some ⟨b5, 0, none⟩, 2, 2⟩ (flat kdC [(a, 0), (b, 0)]) :: old e :: L) w6 := h.p2.drop
  refine al.mk h fun b16 w7 h => ?_
  refine call18 (a0 := ⟨some ⟨b16, 0, none⟩, 3, 3⟩) (tasks_keep (l := [p0, p1, p2]) (slcOf (l := [p0, p1, p2]) h) (by simp) fun x w2 h => ⟨(((1 : Int), x, nilS, nilS, nilS, nilS, nilS, nilS, (0 : Int), ()), ()), rfl, ?_⟩)
  refine al.mk h fun c w3 h => ?_
  refine st1.mk h (by simp) fun w1 h => st1.mk h (by simp) fun w1 h => st1.mk h (by simp) fun w1 h => st1.mk h (by simp) fun w1 h => st1.mk h (by simp) fun w1 h => st1.mk h (by simp) fun w1 h => st1.mk h (by simp) fun w1 h => st1.mk h (by simp) fun w1 h => st1.mk h (by simp) fun w1 h => st1.mk h (by simp) fun w1 h => ?_
  refine ldI.mk (h.cell rfl) (ldS.mk (h.cell rfl) (ldS.mk (h.cell rfl) (ldS.mk (h.cell rfl) (ldS.mk (h.cell rfl) (ldS.mk (h.cell rfl) (ldS.mk (h.cell rfl) (ldS.mk (h.cell rfl) (ldI.mk (h.cell rfl) ?_))))))))
  have h : Ok e (slc 2 x (flat taC (actv [p0, p1, p2])) :: slc 2 ⟨some ⟨b5, 0, none⟩, 2, 2⟩ (flat kdC [(a, 0), (b, 0)]) :: old e :: slc 1 ⟨some ⟨b16, 0, none⟩, 3, 3⟩ (ints [p0, p1, p2]) :: L) w1 := (h.emb (by repeat' (first | with_reducible exact Emb.same _ | exact Emb.nil _ | refine Emb.cons (by with_reducible first | exact sl0 | exact .there sl0 | exact .there sl1 | exact .there sl2 | exact .there sl3 | exact .there sl4 | exact .there sl5 | exact .there sl6 | exact .there sl7 | exact .there sl8 | exact .there sl9 | exact .there sl10 | exact .there sl11 | exact .there sl12) ?_ | refine Emb.skip ?_)))
  refine call19 (a0 := cfV (Mxs.cf [(a, 0), (b, 0)] [p0, p1, p2]) ⟨x, nilS, nilS, ⟨some ⟨b5, 0, none⟩, 2, 2⟩, nilS⟩) (open_top tb (conf_mtxs 1 h) (Mxs.ok_cf ha1 hb1 hps (by simp)) hK0 fun k A w3 h => ⟨(some ⟨k, 0, none⟩, ()), rfl, ?_⟩)
  have h : Ok e (slc 2 ⟨some ⟨b5, 0, none⟩, 2, 2⟩ (flat kdC [(a, 0), (b, 0)]) :: kerP k A K0 :: old e :: slc 1 ⟨some ⟨b16, 0, none⟩, 3, 3⟩ (ints [p0, p1, p2]) :: L) w3 := (h.emb (by repeat' (first | with_reducible exact Emb.same _ | exact Emb.nil _ | refine Emb.cons (by with_reducible first | exact sl0 | exact .there sl0 | exact .there sl1 | exact .there sl2 | exact .there sl3 | exact .there sl4 | exact .there sl5 | exact .there sl6 | exact .there sl7 | exact .there sl8 | exact .there sl9 | exact .there sl10 | exact .there sl11 | exact .there sl12) ?_ | refine Emb.skip ?_)))
  refine call30 (New_mtx h (by simp) hrs fun m w4 h => ⟨(some ⟨m, 0, none⟩, (0 : Int), ()), rfl, ?_⟩)
  refine jn.mk fun J hJ => cs.no rfl (hJ _ _ (cs.no rfl ?_))
  clear hJ J
  have h : Ok e (mmP m (MM.new [(a, 0), (b, 0)]) :: slc 1 ⟨some ⟨b16, 0, none⟩, 3, 3⟩ (ints [p0, p1, p2]) :: kerP k A K0 :: old e :: L) w4 := (h.emb (by repeat' (first | with_reducible exact Emb.same _ | exact Emb.nil _ | refine Emb.cons (by with_reducible first | exact sl0 | exact .there sl0 | exact .there sl1 | exact .there sl2 | exact .there sl3 | exact .there sl4 | exact .there sl5 | exact .there sl6 | exact .there sl7 | exact .there sl8 | exact .there sl9 | exact .there sl10 | exact .there sl11 | exact .there sl12) ?_ | refine Emb.skip ?_)))
  refine lp.mk (fun t w1 => ∃ i : Nat, @Eq Int t.1 (i : Int) ∧ i ≤ 3 ∧ Ok e (mmP m { MM.new [(a, 0), (b, 0)] with t := setsT 0 (([p0, p1, p2] : List Int).take i) (MM.new [(a, 0), (b, 0)]).t } :: slc 1 ⟨some ⟨b16, 0, none⟩, 3, 3⟩ (ints [p0, p1, p2]) :: kerP k A K0 :: old e :: L) w1)
    (fun t _ => Int.toNat (Int.sub 3 t.1)) ⟨0, rfl, by omega, h⟩ ?_
  clear h
  rintro ⟨(t : Int), _⟩ w1 ⟨i, (rfl : t = (i : Int)), hi, h⟩
  dsimp only
  refine cs.mk (fun hlt => ?_) (fun hge => ?_)
  · have hlt : i < 3 := by have := of_decide_eq_true hlt; omega
    refine ix_int h.p1 (by omega) (by show (i : Int) < ((3 : Nat) : Int); omega) fun b2 o2 z hz hcz => ldI.mk (hcz _ ⟨_, h.p1⟩) ?_
    rw [Int.toNat_natCast] at hz
    rw [w64_in (x := (i : Int) + 1) (by omega) (by omega)]
    refine call31 (SetBase_mtx h (Mxs.base hks hz (hps z (List.mem_of_getElem? hz)) (by simp)) fun w2 h => ⟨((0 : Int), ()), rfl, ⟨i + 1, rfl, hlt, h⟩, ?_⟩)
    show ((3 : Int) - ((i : Int) + 1)).toNat < ((3 : Int) - (i : Int)).toNat
    omega
  have hge : i = 3 := by have := of_decide_eq_false hge; omega
  subst hge
  have hml : K0.mm.m.length = 3 := by rw [hmm]; rfl
  have h : Ok e (kerP k A K0 :: old e :: mmP m K0.mm :: L) w1 := by
    rw [hmm]
    have h : Ok e (mmP m { MM.new [(a, 0), (b, 0)] with t := setsT 0 [p0, p1, p2] (MM.new [(a, 0), (b, 0)]).t } :: slc 1 ⟨some ⟨b16, 0, none⟩, 3, 3⟩ (ints [p0, p1, p2]) :: kerP k A K0 :: old e :: L) w1 := h
    exact (h.emb (by repeat' (first | with_reducible exact Emb.same _ | exact Emb.nil _ | refine Emb.cons (by with_reducible first | exact sl0 | exact .there sl0 | exact .there sl1 | exact .there sl2 | exact .there sl3 | exact .there sl4 | exact .there sl5 | exact .there sl6 | exact .there sl7 | exact .there sl8 | exact .there sl9 | exact .there sl10 | exact .there sl11 | exact .there sl12) ?_ | refine Emb.skip ?_)))
  have hul : K0.us.length = 3 := by rw [hus]; rfl
  clear hmm hus hi
  refine lp.mk (fun t w1 => ∃ (i : Nat) (K : KM), @Eq Int t.1 (i : Int) ∧ i ≤ 8 ∧ Mxs.Good T K ∧ K.mm.m.length = 3 ∧ K.us.length = 3 ∧ Ok e (kerP k A K :: old e :: mmP m K.mm :: L) w1)
    (fun t _ => Int.toNat (Int.sub 8 t.1)) ⟨0, K0, rfl, by omega, hG, hml, hul, h⟩ ?_
  clear h hG hml hul hK0
  rintro ⟨(t : Int), _⟩ w2 ⟨i, K, (rfl : t = (i : Int)), hi, hG, hml, hul, h⟩
  dsimp only
  have hT0 := hG.t0
  refine jn.bool (decide (i < 8)) (fun J hJ => cs.mk (fun hlt => ?_) (fun hlt => ?_)) (cs.mk (fun hlt => ?_) (fun hlt => kk _ (h.emb (by repeat' (first | with_reducible exact Emb.same _ | exact Emb.nil _ | refine Emb.cons (by with_reducible first | exact sl0 | exact .there sl0 | exact .there sl1 | exact .there sl2 | exact .there sl3 | exact .there sl4 | exact .there sl5 | exact .there sl6 | exact .there sl7 | exact .there sl8 | exact .there sl9 | exact .there sl10 | exact .there sl11 | exact .there sl12) ?_ | refine Emb.skip ?_)))))
  · have hlt := of_decide_eq_true hlt
    rw [decide_eq_true (by omega)] at hJ
    refine call21 (Running_kern h ⟨(K.who, ()), rfl, ?_⟩)
    rw [show ((K.who : Int) != 0) = true by rw [hG.who]; simp; omega]
    exact hJ
  · have hlt := of_decide_eq_false hlt
    rw [decide_eq_false (by omega)] at hJ
    exact hJ
  have hlt : i < 8 := of_decide_eq_true hlt
  refine call21 (Running_kern h ⟨(K.who, ()), rfl, ?_⟩)
  dsimp only
  rw [hG.who]
  obtain ⟨o, ho, ho1⟩ : ∃ o, w64 (1 + Int.tmod (w64 (Int.tdiv (i : Int) 2)) 2) = o ∧ 1 ≤ o ∧ o < K.mm.m.length := by
    refine ⟨1 + ((i : Int) / 2) % 2, ?_, by omega⟩
    rw [Int.tdiv_eq_ediv_of_nonneg (by omega), w64_in (x := (i : Int) / 2) (by omega) (by omega), Int.tmod_eq_emod_of_nonneg (by omega), w64_in (by omega) (by omega)]
  rw [ho]
  obtain ⟨r, hr1, hr2, hr3, hr4, hG2⟩ := Mxs.step hG ho1
  refine al.mk h fun b66 w3 h => ?_
  refine call20 (a2 := ⟨some ⟨b66, 0, none⟩, 1, 1⟩) (do_top (n := 43) (xs := [o]) (do_43 tb) (slcOf (l := [o]) h) (by simp) hr2 fun w5 h => ⟨(r.1.2, (0 : Int), ()), rfl, ?_⟩)
  have h := h.p2
  refine call32 (Lock_mtx h hr1 fun w6 h => ⟨(r.1.1, r.1.2, ()), rfl, ?_⟩)
  obtain ⟨K2, hK2⟩ : ∃ K2 : KM, K2 = { K with mm := r.2 } := ⟨_, rfl⟩
  have h : Ok e (kerP k A K2 :: old e :: mmP m K2.mm :: L) w6 := by
    rw [hK2]
    exact (h.emb (by repeat' (first | with_reducible exact Emb.same _ | exact Emb.nil _ | refine Emb.cons (by with_reducible first | exact sl0 | exact .there sl0 | exact .there sl1 | exact .there sl2 | exact .there sl3 | exact .there sl4 | exact .there sl5 | exact .there sl6 | exact .there sl7 | exact .there sl8 | exact .there sl9 | exact .there sl10 | exact .there sl11 | exact .there sl12) ?_ | refine Emb.skip ?_)))
  rw [← hK2] at hG2
  have hml2 : K2.mm.m.length = 3 := by rw [hK2]; show r.2.m.length = 3; rw [hr4]; exact hml
  have hul2 : K2.us.length = 3 := by rw [hK2]; exact hul
  refine jn.bool false (fun J hJ => ?_) (jn.bool false (fun J hJ => cs.no rfl (jn.bool false (fun J2 hJ2 => ?_) hJ)) (cs.no rfl ?_))
  · rcases hr3 with hr3 | hr3 <;> rw [hr3]
    · exact cs.no rfl hJ
    · exact cs.yes rfl hJ
  · rcases hr3 with hr3 | hr3 <;> rw [hr3]
    · exact cs.yes rfl hJ2
    · exact cs.no rfl hJ2
  have hw : ∀ n : Nat, n ≤ 20 → w64 ((n : Int) + 1) = ((n + 1 : Nat) : Int) := fun n hn => w64_in (by omega) (by omega)
  refine lp.mk (fun t w1 => ∃ (j : Nat), @Eq Int t.1 (j : Int) ∧ 1 ≤ j ∧ j ≤ 3 ∧ Ok e (kerP k A K2 :: old e :: mmP m K2.mm :: L) w1)
    (fun t _ => Int.toNat (Int.sub 3 t.1)) ⟨1, rfl, by omega, by omega, h⟩ ?_
  clear h
  rintro ⟨(t : Int), _⟩ w7 ⟨j, (rfl : t = (j : Int)), hj1, hj2, h⟩
  dsimp only
  refine cs.mk (fun hjl => ?_) (fun hjl => ?_)
  · have hjl : j ≤ 2 := by have := of_decide_eq_true hjl; omega
    have hwt := hG2.plain.waiting (j : Int)
    refine call29 (Mtx_kern h (by omega) (by rw [hwt]; simp) fun s w8 hs h => ⟨(K2.mm.owner (j : Int), s, (0 : Int), ()), rfl, ?_⟩)
    rw [hwt] at hs
    have hs : s.len = 0 := hs
    have h : Ok e (mmP m K2.mm :: kerP k A K2 :: old e :: L) w8 := (h.emb (by repeat' (first | with_reducible exact Emb.same _ | exact Emb.nil _ | refine Emb.cons (by with_reducible first | exact sl0 | exact .there sl0 | exact .there sl1 | exact .there sl2 | exact .there sl3 | exact .there sl4 | exact .there sl5 | exact .there sl6 | exact .there sl7 | exact .there sl8 | exact .there sl9 | exact .there sl10 | exact .there sl11 | exact .there sl12) ?_ | refine Emb.skip ?_)))
    refine call33 (Waiting_mtx h (by rw [hwt]; simp) fun s2 w9 hs2 h => ⟨(s2, ()), rfl, ?_⟩)
    rw [hwt] at hs2
    have hs2 : s2.len = 0 := hs2
    have h : Ok e (mmP m K2.mm :: kerP k A K2 :: old e :: L) w9 := (h.emb (by repeat' (first | with_reducible exact Emb.same _ | exact Emb.nil _ | refine Emb.cons (by with_reducible first | exact sl0 | exact .there sl0 | exact .there sl1 | exact .there sl2 | exact .there sl3 | exact .there sl4 | exact .there sl5 | exact .there sl6 | exact .there sl7 | exact .there sl8 | exact .there sl9 | exact .there sl10 | exact .there sl11 | exact .there sl12) ?_ | refine Emb.skip ?_)))
    refine call34 (Owner_mtx h ⟨(K2.mm.owner (j : Int), ()), rfl, ?_⟩)
    refine jn.bool false (fun J hJ => cs.no (by simp) ?_) (cs.no rfl ?_)
    · rw [hs, hs2]
      exact hJ
    refine lp.mk (fun t w1 => @Eq Int t.1 0 ∧ Ok e (mmP m K2.mm :: kerP k A K2 :: old e :: L) w1) (fun t _ => 0) ⟨rfl, h⟩ ?_
    clear h
    rintro ⟨(t2 : Int), _⟩ w10 ⟨(rfl : t2 = 0), h⟩
    refine cs.no (by rw [hs]; rfl) ⟨⟨j + 1, hw j (by omega), by omega, by omega, (h.emb (by repeat' (first | with_reducible exact Emb.same _ | exact Emb.nil _ | refine Emb.cons (by with_reducible first | exact sl0 | exact .there sl0 | exact .there sl1 | exact .there sl2 | exact .there sl3 | exact .there sl4 | exact .there sl5 | exact .there sl6 | exact .there sl7 | exact .there sl8 | exact .there sl9 | exact .there sl10 | exact .there sl11 | exact .there sl12) ?_ | refine Emb.skip ?_)))⟩, ?_⟩
    show ((3 : Int) - w64 ((j : Int) + 1)).toNat < ((3 : Int) - (j : Int)).toNat
    rw [hw j (by omega)]
    omega
  clear hjl hj1 hj2 j
  refine lp.mk (fun t w1 => ∃ (j : Nat), @Eq Int t.1 (j : Int) ∧ 1 ≤ j ∧ j ≤ 4 ∧ Ok e (kerP k A K2 :: old e :: mmP m K2.mm :: L) w1)
    (fun t _ => Int.toNat (Int.sub 4 t.1)) ⟨1, rfl, by omega, by omega, h⟩ ?_
  clear h
  rintro ⟨(t : Int), _⟩ w8 ⟨j, (rfl : t = (j : Int)), hj1, hj2, h⟩
  dsimp only
  refine cs.mk (fun hjl => ?_) (fun hjl => ?_)
  · have hjl : j ≤ 3 := by have := of_decide_eq_true hjl; omega
    obtain ⟨f, p, hf, hfp, hfb, hpr, hba⟩ := Mxs.task_ok hG2 hul2 ⟨hj1, hjl⟩
    refine call24 (Task_kern h hf fun w9 h => ⟨((f.state, f.pri, f.base, (0 : Int), f.kind, f.obj, f.lc, f.lv, ()), (f.acts, f.wups, f.susps, ()), (0 : Int), ()), rfl, ?_⟩)
    rw [hfp, hfb]
    refine al.mk h fun c1 w1 h => al.mk h fun c2 w1 h => ?_
    have h := h.p1
    refine st1.mk h (by simp) fun w1 h => st1.mk h (by simp) fun w1 h => st1.mk h (by simp) fun w1 h => st1.mk h (by simp) fun w1 h => st1.mk h (by simp) fun w1 h => st1.mk h (by simp) fun w1 h => st1.mk h (by simp) fun w1 h => st1.mk h (by simp) fun w1 h => ?_
    refine st1.mk h.p1 (by simp) fun w1 h => st1.mk h (by simp) fun w1 h => st1.mk h (by simp) fun w1 h => dr.mk h fun w1 h => ?_
    refine jn.bool false (fun J hJ => ldI.mk (by refine Ok.cellS h (by with_reducible first | exact sl0 | exact .there sl0 | exact .there sl1 | exact .there sl2 | exact .there sl3 | exact .there sl4 | exact .there sl5 | exact .there sl6 | exact .there sl7 | exact .there sl8 | exact .there sl9 | exact .there sl10 | exact .there sl11 | exact .there sl12) ?_; rfl) ?_) (cs.no rfl ⟨⟨j + 1, hw j (by omega), by omega, by omega, (h.emb (by repeat' (first | with_reducible exact Emb.same _ | exact Emb.nil _ | refine Emb.cons (by with_reducible first | exact sl0 | exact .there sl0 | exact .there sl1 | exact .there sl2 | exact .there sl3 | exact .there sl4 | exact .there sl5 | exact .there sl6 | exact .there sl7 | exact .there sl8 | exact .there sl9 | exact .there sl10 | exact .there sl11 | exact .there sl12) ?_ | refine Emb.skip ?_)))⟩, ?_⟩)
    · refine call35 (Pri_mtx ((Ok.emb (h) (.cons (A := mmP m K2.mm) (by with_reducible first | exact sl0 | exact .there sl0 | exact .there sl1 | exact .there sl2 | exact .there sl3 | exact .there sl4 | exact .there sl5 | exact .there sl6 | exact .there sl7 | exact .there sl8 | exact .there sl9 | exact .there sl10 | exact .there sl11 | exact .there sl12) (.same _)))) hpr ⟨(p, ()), rfl, (by refine Ok.cellS h (by with_reducible first | exact sl0 | exact .there sl0 | exact .there sl1 | exact .there sl2 | exact .there sl3 | exact .there sl4 | exact .there sl5 | exact .there sl6 | exact .there sl7 | exact .there sl8 | exact .there sl9 | exact .there sl10 | exact .there sl11 | exact .there sl12) ?_; rfl), cs.no (by simp) (ldI.mk (by refine Ok.cellS h (by with_reducible first | exact sl0 | exact .there sl0 | exact .there sl1 | exact .there sl2 | exact .there sl3 | exact .there sl4 | exact .there sl5 | exact .there sl6 | exact .there sl7 | exact .there sl8 | exact .there sl9 | exact .there sl10 | exact .there sl11 | exact .there sl12) ?_; rfl) ?_)⟩)
      refine call36 (Base_mtx ((Ok.emb (h) (.cons (A := mmP m K2.mm) (by with_reducible first | exact sl0 | exact .there sl0 | exact .there sl1 | exact .there sl2 | exact .there sl3 | exact .there sl4 | exact .there sl5 | exact .there sl6 | exact .there sl7 | exact .there sl8 | exact .there sl9 | exact .there sl10 | exact .there sl11 | exact .there sl12) (.same _)))) hba ⟨(p, ()), rfl, (by refine Ok.cellS h (by with_reducible first | exact sl0 | exact .there sl0 | exact .there sl1 | exact .there sl2 | exact .there sl3 | exact .there sl4 | exact .there sl5 | exact .there sl6 | exact .there sl7 | exact .there sl8 | exact .there sl9 | exact .there sl10 | exact .there sl11 | exact .there sl12) ?_; rfl), ?_⟩)
      rw [show (p != p) = false by simp]
      exact hJ
    · show ((4 : Int) - w64 ((j : Int) + 1)).toNat < ((4 : Int) - (j : Int)).toNat
      rw [hw j (by omega)]
      omega
  · refine ⟨⟨i + 1, K2, hw i (by omega), hlt, hG2, hml2, hul2, h⟩, ?_⟩
    show ((8 : Int) - w64 ((i : Int) + 1)).toNat < ((8 : Int) - (i : Int)).toNat
    rw [hw i (by omega)]
    omega

theorem TopMutexes_walk {W a0 a1 x0 x1 x2} (tb : TabE W) (h0 : (Lit.int .u8 a0).wf = true) (h1 : (Lit.int .u8 a1).wf = true) (g0 : (Lit.int .u8 x0).wf = true) (g1 : (Lit.int .u8 x1).wf = true) (g2 : (Lit.int .u8 x2).wf = true) :
    sh11 a0 a1 (x0, x1, x2, ()) (fun vs w' => vs = [.bool true] ∧ Ok W [old W] w') W :=
  mutexes_walk tb (Ok.start W) (wf_u8 h0) (wf_u8 h1) (wf_u8 g0) (wf_u8 g1) (wf_u8 g2) fun w' h => ⟨rfl, h⟩

end Go.Proofs.YtenonfkfoedfmaaGreatDoor.B

