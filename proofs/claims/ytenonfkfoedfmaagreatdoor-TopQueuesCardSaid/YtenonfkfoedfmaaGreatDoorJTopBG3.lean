/- Texts of ours, joined: Tms, Tms2, TmsW. -/
import Derived.Test.YtenonfkfoedfmaaGreatDoorJTopB7
import Derived.Test.YtenonfkfoedfmaaGreatDoorJTopBG1
set_option linter.unusedSimpArgs false
set_option linter.unusedVariables false
/- TopTimes: the plain law. -/
namespace Go.Proofs.YtenonfkfoedfmaaGreatDoor.B
open Go
set_option linter.unusedVariables false

/-- who waits for time or another thing is woken -/
theorem wake_eq {K : KM} {n p c v : Int} {u : Un} (hu : K.un n = some u) (h2 : u.release.state = 2) (hp : K.mm.pri n = some p) :
    K.wake n c v = some { K.setU n { u.release with kind := 0, obj := 0, handle := 0, lc := c, lv := v, pri := p } with ents := delE u.release.handle K.ents, rdy := (addL true K.rdy n p).2 } := by
  have hu1 : (K.setU n u.release).un n = some u.release := setU_un hu
  unfold KM.wake
  rw [hu, Option.bind_some]
  unfold KM.told KM.forget
  rw [hu1, Option.map_some, Option.bind_some]
  have hu2 : (({ (K.setU n u.release).setU n { u.release with kind := 0, obj := 0, handle := 0 } with ents := delE u.release.handle (K.setU n u.release).ents } : KM).un n) = some { u.release with kind := 0, obj := 0, handle := 0 } := setU_un hu1
  rw [hu2, Option.bind_some]
  unfold KM.enter
  rw [setU_un hu2, Option.bind_some]
  rw [if_pos h2]
  show Option.map _ (K.mm.pri n) = _
  rw [hp, Option.map_some]
  simp [KM.setU, List.set_set]

namespace Tms

def ps (n : Nat) : List Int := (List.range n).map fun (i : Nat) => (i : Int) + 1

def cf (n : Nat) : ConfM := ⟨1, (ps n).map fun x => (x, true), [(false, 0, 1)], [], [], []⟩

def rd (n : Nat) : List (Int × Int) := (List.range n).map fun (i : Nat) => ((i : Int) + 1, (i : Int) + 1)

theorem rd_eq : ∀ n, n ≤ 16 → rdyF 0 (ps n) [] = rd n := by decide +kernel

theorem ps_get {n j : Nat} (h : j < n) : (ps n)[j]? = some ((j : Int) + 1) := by simp [ps, h]

theorem ps_len (n : Nat) : (ps n).length = n := by simp [ps]

theorem ps_bd {n : Nat} (h : n ≤ 16) : ∀ p ∈ ps n, 1 ≤ p ∧ p ≤ 16 := by
  intro p hp
  obtain ⟨i, hi, rfl⟩ := List.mem_map.1 hp
  have := List.mem_range.1 hi
  omega

theorem ok_cf : ∀ n, 1 ≤ n → n ≤ 16 → (cf n).ok = true := by
  have : ∀ n, n ≤ 16 → 1 ≤ n → (cf n).ok = true := by decide +kernel
  exact fun n h1 h2 => this n h2 h1

def uW (j : Nat) : Un := ⟨0, 0, 0, 4, false, (j : Int) + 1, (j : Int) + 1, 3, 1, (j : Int) + 1, 0, 0⟩

def uD (j : Nat) : Un := ⟨0, 0, 0, 2, false, (j : Int) + 1, (j : Int) + 1, 0, 0, 0, -50, 0⟩

def en (l : List Int) (j : Nat) : Ent := ⟨l[j]?.getD 0 + 2, (j : Int) + 1, (j : Int) + 1⟩

/-- those of whom it is said wait, the others are something else -/
structure Inv (l : List Int) (K : KM) (wt : Nat → Prop) : Prop where
  len : K.us.length = l.length
  un : ∀ j, j < l.length → wt j → K.un ((j : Int) + 1) = some (uW j)
  pl : K.pl = ⟨[], false, false⟩
  tic : K.tic = 1
  sems : ∃ S, K.sems = [⟨false, 0, 1, S⟩] ∧ okL S ∧ ∀ x ∈ S, ∃ j, j < l.length ∧ x.1 = (j : Int) + 1 ∧ wt j
  ents : ∀ x ∈ K.ents, ∃ j, j < l.length ∧ wt j ∧ x = en l j
  has : ∀ j, j < l.length → wt j → en l j ∈ K.ents
  sorted : K.ents.Pairwise Ent.Lt
  still : Still K
  pri : ∀ j, j < l.length → K.mm.pri ((j : Int) + 1) = some ((j : Int) + 1)
  base : ∀ j, j < l.length → K.mm.base ((j : Int) + 1) = some ((j : Int) + 1)

/-- behind so many calls -/
structure Ph1 (l : List Int) (i : Nat) (K : KM) : Prop extends Inv l K (fun j => j < i) where
  rest : ∀ j, i ≤ j → j < l.length → K.un ((j : Int) + 1) = some (unA ((j : Int) + 1))
  rdy : K.rdy = (rd l.length).drop i
  who : K.who = if i < l.length then (i : Int) + 1 else 0
  up : K.up = 0
  last : K.last = i
  elen : K.ents.length = i

theorem rd_drop {n i : Nat} (h : i < n) : (rd n).drop i = ((i : Int) + 1, (i : Int) + 1) :: (rd n).drop (i + 1) := by
  have hl : i < (rd n).length := by simp [rd, h]
  rw [List.drop_eq_getElem_cons hl]
  simp [rd]

theorem who_drop {n i : Nat} : (((rd n).drop i).head?.getD (0, 0)).1 = if i < n then (i : Int) + 1 else 0 := by
  by_cases h : i < n
  · rw [rd_drop h, if_pos h]; rfl
  · rw [if_neg h, List.drop_eq_nil_of_le (by simp [rd]; omega)]; rfl

theorem start {l : List Int} (h : l.length ≤ 16) : ∃ K, KM.new (cf l.length) = some K ∧ Ph1 l 0 K := by
  have hl : (ps l.length).length ≤ 16 := by rw [ps_len]; exact h
  have hn := new_gen (c := cf l.length) (ps := ps l.length) rfl (ps_bd h) hl (by simp [cf])
  refine ⟨_, hn, ?_⟩
  have hs := gen_still (c := cf l.length) hl
  have hr : (genK (cf l.length) (ps l.length)).rdy = rd l.length := rd_eq _ h
  have hc : (genK (cf l.length) (ps l.length)).choose = { genK (cf l.length) (ps l.length) with who := ((genK (cf l.length) (ps l.length)).rdy.head?.getD (0, 0)).1 } := if_pos rfl
  rw [hc]
  have hu : ∀ j, j < l.length → (genK (cf l.length) (ps l.length)).un ((j : Int) + 1) = some (unA ((j : Int) + 1)) := by
    intro j hj
    unfold KM.un
    rw [show (j : Int) + 1 - 1 = (j : Int) by omega, getO_nat]
    show ((ps l.length).map unA)[j]? = _
    rw [List.getElem?_map, ps_get hj]
    rfl
  refine { len := ?_, un := fun j _ h => absurd h (by omega), pl := rfl, tic := rfl, sems := ⟨[], rfl, okL_nil, by simp⟩, ents := (by intro x hx; cases hx), has := fun j _ h => absurd h (by omega), sorted := List.Pairwise.nil, still := hs.same rfl rfl, pri := ?_, base := ?_, rest := fun j _ hj => hu j hj, rdy := hr, who := ?_, up := rfl, last := rfl, elen := rfl }
  · show ((ps l.length).map unA).length = _
    rw [List.length_map, ps_len]
  · intro j hj
    exact (gen_pri (c := cf l.length) hl (ps_get hj)).1
  · intro j hj
    show MM.base _ _ = _
    unfold MM.base
    rw [if_pos (by omega)]
    show Option.map _ (getO (setsT 0 (ps l.length) (MM.new (cf l.length).mtxs).t) _) = _
    rw [(gen_pri (c := cf l.length) hl (ps_get hj)).2]
    rfl
  · show ((genK (cf l.length) (ps l.length)).rdy.head?.getD (0, 0)).1 = _
    rw [hr]
    have := who_drop (n := l.length) (i := 0)
    rwa [List.drop_zero] at this

end Tms

end Go.Proofs.YtenonfkfoedfmaaGreatDoor.B


/- TopTimes: the plain law: the waits, the ticks. -/
namespace Go.Proofs.YtenonfkfoedfmaaGreatDoor.B
open Go
set_option linter.unusedVariables false

namespace Tms

theorem en_hd {l : List Int} {i j : Nat} (h : (en l i).hd = (en l j).hd) : i = j := by
  have : (i : Int) + 1 = (j : Int) + 1 := h
  omega

theorem call27 {l : List Int} {i : Nat} {K : KM} (h : Ph1 l i K) (hi : i < l.length) (hl : l.length ≤ 16) (hv : ∀ x ∈ l, 0 ≤ x ∧ x ≤ 255) :
    ∃ K', K.call 2 (KM.cSem 1 (1 + l[i])) = some ((1, 0), K') ∧ Ph1 l (i + 1) K' := by
  have hx := hv _ (List.getElem_mem hi)
  have hw : K.who = (i : Int) + 1 := by rw [h.who, if_pos hi]
  have hu : K.un K.who = some (unA ((i : Int) + 1)) := by rw [hw]; exact h.rest i (Nat.le_refl _) hi
  obtain ⟨S, hS, hS1, hS2⟩ := h.sems
  have hp : K.mm.pri K.who = some ((i : Int) + 1) := by rw [hw]; exact h.pri i hi
  have hmay : K.may 2 = 0 := by
    unfold KM.may
    rw [h.pl, show decide (K.who = 0) = false from decide_eq_false (by omega)]
    rfl
  obtain ⟨K1, hK1⟩ : ∃ K1 : KM, K1 = { K with sems := [⟨false, 0, 1, (addL false S K.who ((i : Int) + 1)).2⟩] } := ⟨_, rfl⟩
  have hs1 : Still K1 := by rw [hK1]; exact h.still.same rfl rfl
  have hu1 : K1.un K1.who = some (unA ((i : Int) + 1)) := by rw [hK1]; exact hu
  have e1 : K1.who = K.who := by rw [hK1]
  have hst := stay_for (kind := 3) (obj := 1) (d := 1 + l[i]) hs1 hu1 rfl (by decide) (by omega) (by omega) (by rw [hK1]; show K.ents.length < 256; rw [h.elen]; omega)
    (by rw [hK1]; show 0 ≤ K.up ∧ K.up ≤ 2 ^ 40; rw [h.up]; decide) (by rw [hK1]; show 0 ≤ K.last ∧ K.last ≤ 2 ^ 40; rw [h.last]; omega)
  have hc : KM.cSem 1 (1 + l[i]) K = (K1.stay 3 1 (1 + l[i])).map fun K => ((1, 0), K) := by
    unfold KM.cSem
    rw [hS, if_neg (by simp), if_neg (by omega)]
    show Option.bind (some _) _ = _
    rw [Option.bind_some, if_neg (by simp), if_neg (by omega), hp, Option.bind_some, hK1]
    simp
  unfold KM.call
  rw [if_neg (by rw [hmay]; decide), hc, hst]
  refine ⟨_, rfl, ?_⟩
  have hun : ({ K1 with rdy := rmL K1.rdy K1.who, last := K1.last + 1, ents := insE ⟨K1.up + (1 + l[i]) + K1.tic, K1.last + 1, K1.who⟩ K1.ents } : KM).un K1.who = some (unA ((i : Int) + 1)) := hu1
  obtain ⟨K2, hK2⟩ : ∃ K2 : KM, K2 = ({ K1 with rdy := rmL K1.rdy K1.who, last := K1.last + 1, ents := insE ⟨K1.up + (1 + l[i]) + K1.tic, K1.last + 1, K1.who⟩ K1.ents } : KM).setU K1.who { unA ((i : Int) + 1) with state := 4, asleep := false, kind := 3, obj := 1, handle := K1.last + 1 } := ⟨_, rfl⟩
  dsimp only
  rw [← hK2]
  have eW : ({ unA ((i : Int) + 1) with state := 4, asleep := false, kind := 3, obj := 1, handle := K1.last + 1 } : Un) = uW i := by
    rw [hK1]
    show ({ unA ((i : Int) + 1) with state := 4, asleep := false, kind := 3, obj := 1, handle := K.last + 1 } : Un) = uW i
    rw [h.last]; rfl
  rw [eW] at hK2
  have eus : K2.us = K.us.set i (uW i) := by
    rw [hK2]
    show K1.us.set (K1.who - 1).toNat (uW i) = _
    rw [hK1]
    show K.us.set (K.who - 1).toNat (uW i) = _
    rw [hw, show ((i : Int) + 1 - 1).toNat = i by omega]
  have epl : K2.pl = ⟨[], false, false⟩ := by rw [hK2, hK1]; exact h.pl
  have emm : K2.mm = K.mm := by rw [hK2, hK1]; rfl
  have erd : K2.rdy = (rd l.length).drop (i + 1) := by
    rw [hK2]
    show rmL K1.rdy K1.who = _
    rw [hK1]
    show rmL K.rdy K.who = _
    rw [h.rdy, hw, rd_drop hi, rmL_cons, if_pos rfl]
  have een : K2.ents = insE (en l i) K.ents := by
    rw [hK2]
    show insE ⟨K1.up + (1 + l[i]) + K1.tic, K1.last + 1, K1.who⟩ K1.ents = _
    rw [hK1]
    show insE ⟨K.up + (1 + l[i]) + K.tic, K.last + 1, K.who⟩ K.ents = _
    rw [h.up, h.tic, h.last, hw]
    unfold en
    rw [List.getElem?_eq_getElem hi]
    congr 2
    show 0 + (1 + l[i]) + 1 = l[i] + 2
    omega
  have ech : K2.choose = { K2 with who := (K2.rdy.head?.getD (0, 0)).1 } := if_pos (by rw [epl]; rfl)
  rw [ech]
  have hun2 : ∀ j : Nat, K2.un ((j : Int) + 1) = if j = i then some (uW i) else K.un ((j : Int) + 1) := by
    intro j
    unfold KM.un
    rw [show (j : Int) + 1 - 1 = (j : Int) by omega, getO_nat, getO_nat, eus, List.getElem?_set]
    by_cases hj : j = i
    · rw [if_pos hj.symm, if_pos hj, if_pos (by rw [h.len]; omega)]
    · rw [if_neg (fun he => hj he.symm), if_neg hj]
  have mem : ∀ x, x ∈ K2.ents ↔ x = en l i ∨ x ∈ K.ents := fun x => by rw [een]; rw [(insE_perm _ _).mem_iff, List.mem_cons]
  refine { len := ?_, un := ?_, pl := epl, tic := by show K2.tic = 1; rw [hK2, hK1]; exact h.tic, sems := ?_, ents := ?_, has := ?_, sorted := ?_, still := ?_, pri := ?_, base := ?_, rest := ?_, rdy := erd, who := ?_, up := by show K2.up = 0; rw [hK2, hK1]; exact h.up, last := ?_, elen := ?_ }
  · show K2.us.length = _
    rw [eus, List.length_set]; exact h.len
  · intro j hj hji
    show K2.un _ = _
    rw [hun2]
    by_cases hj2 : j = i
    · rw [if_pos hj2, hj2]
    · rw [if_neg hj2]; exact h.un j hj (by omega)
  · refine ⟨_, by show K2.sems = _; rw [hK2, hK1]; rfl, okL_add hS1, fun x hx => ?_⟩
    have hid : x.1 ∈ ids (addL false S K.who ((i : Int) + 1)).2 := List.mem_map_of_mem hx
    rcases addL_mem hid with ⟨-, h5⟩ | h5
    · exact ⟨i, hi, by rw [h5, hw], by omega⟩
    · obtain ⟨y, hy, he⟩ := List.mem_map.1 h5
      obtain ⟨j, h6, h7, h8⟩ := hS2 y hy
      exact ⟨j, h6, by rw [← he, h7], by omega⟩
  · intro x hx
    rcases (mem x).1 hx with rfl | hx
    · exact ⟨i, hi, by omega, rfl⟩
    · obtain ⟨j, h6, h7, h8⟩ := h.ents x hx
      exact ⟨j, h6, by omega, h8⟩
  · intro j hj hji
    refine (mem _).2 ?_
    by_cases hj2 : j = i
    · exact .inl (by rw [hj2])
    · exact .inr (h.has j hj (by omega))
  · show K2.ents.Pairwise Ent.Lt
    rw [een]
    refine insE_sorted h.sorted fun y hy he => ?_
    obtain ⟨j, h6, h7, rfl⟩ := h.ents y hy
    have := en_hd he
    omega
  · have : Still K2 := h.still.set (u := unA ((i : Int) + 1)) (u' := uW i) (n := (i : Int) + 1) (by rw [eus, show ((i : Int) + 1 - 1).toNat = i by omega]) emm (h.rest i (Nat.le_refl _) hi) rfl
    exact this.same rfl rfl
  · intro j hj
    show K2.mm.pri _ = _
    rw [emm]; exact h.pri j hj
  · intro j hj
    show K2.mm.base _ = _
    rw [emm]; exact h.base j hj
  · intro j hj hj2
    show K2.un _ = _
    rw [hun2, if_neg (by omega)]
    exact h.rest j (by omega) hj2
  · show (K2.rdy.head?.getD (0, 0)).1 = _
    rw [erd]; exact who_drop
  · show K2.last = _
    rw [hK2, hK1]
    show K.last + 1 = _
    rw [h.last]; rfl
  · show K2.ents.length = _
    rw [een, (insE_perm _ _).length_eq, List.length_cons, h.elen]

/-! ### ticks -/
/-- who waits no longer -/
structure Ph2 (l : List Int) (t : Int) (K : KM) (wt : Nat → Prop) : Prop extends Inv l K wt where
  done : ∀ j, j < l.length → ¬ wt j → K.un ((j : Int) + 1) = some (uD j)
  rdy : ∀ x ∈ K.rdy, ∃ j, j < l.length ∧ x.1 = (j : Int) + 1 ∧ ¬ wt j
  up : K.up = t

theorem tick1 {l : List Int} {t : Int} {K : KM} {wt : Nat → Prop} {j : Nat} {D : List Ent} (h : Ph2 l t { K with ents := en l j :: (D ++ K.ents) } wt) (hj : j < l.length) (hw : wt j) (r : List Int) :
    ∃ K', KM.tickL (((j : Int) + 1) :: r) K = KM.tickL r K' ∧ Ph2 l t { K' with ents := D ++ K'.ents } (fun i => wt i ∧ i ≠ j) ∧ K'.who = K.who := by
  have hn : ∀ x ∈ D ++ K.ents, x.hd ≠ (j : Int) + 1 := by
    intro x hx he
    have h1 := (List.pairwise_cons.1 h.sorted).1 x hx
    obtain ⟨i, h6, h7, rfl⟩ := h.ents x (List.mem_cons_of_mem _ hx)
    have : i = j := en_hd he
    rw [this] at h1
    exact h1.asym h1
  have hu : K.un ((j : Int) + 1) = some (uW j) := h.un j hj hw
  have hp : K.mm.pri ((j : Int) + 1) = some ((j : Int) + 1) := h.pri j hj
  obtain ⟨S, hS, hS1, hS2⟩ := h.sems
  have hS : K.sems = [⟨false, 0, 1, S⟩] := hS
  have hl : K.leave ((j : Int) + 1) = some { K with sems := [⟨false, 0, 1, rmL S ((j : Int) + 1)⟩] } := by
    unfold KM.leave
    rw [hu, Option.bind_some, if_pos (show (uW j).kind = 3 from rfl), hS]
    rfl
  have hwk := wake_eq (K := { K with sems := [⟨false, 0, 1, rmL S ((j : Int) + 1)⟩] }) (n := (j : Int) + 1) (p := (j : Int) + 1) (c := -50) (v := 0) (u := uW j) hu rfl hp
  have eD : ({ (uW j).release with kind := 0, obj := 0, handle := 0, lc := -50, lv := 0, pri := (j : Int) + 1 } : Un) = uD j := rfl
  rw [eD] at hwk
  have ed : delE (uW j).release.handle K.ents = K.ents := delE_none fun x hx => hn x (List.mem_append_right _ hx)
  obtain ⟨K', hK'⟩ : ∃ K' : KM, K' = { ({ K with sems := [⟨false, 0, 1, rmL S ((j : Int) + 1)⟩] } : KM).setU ((j : Int) + 1) (uD j) with ents := delE (uW j).release.handle K.ents, rdy := (addL true K.rdy ((j : Int) + 1) ((j : Int) + 1)).2 } := ⟨_, rfl⟩
  have hwk : KM.wake { K with sems := [⟨false, 0, 1, rmL S ((j : Int) + 1)⟩] } ((j : Int) + 1) (-50) 0 = some K' := by rw [hwk, hK']
  have eus : K'.us = K.us.set j (uD j) := by
    rw [hK']
    show K.us.set ((j : Int) + 1 - 1).toNat (uD j) = _
    rw [show ((j : Int) + 1 - 1).toNat = j by omega]
  have emm : K'.mm = K.mm := by rw [hK']; rfl
  have een : K'.ents = K.ents := by rw [hK']; exact ed
  have hst : Still K' := Still.set (K := K) (u := uW j) (u' := uD j) (n := (j : Int) + 1) (h.still.same rfl rfl) (by rw [eus, show ((j : Int) + 1 - 1).toNat = j by omega]) emm hu rfl
  refine ⟨K', ?_, ?_, by rw [hK']; rfl⟩
  · rw [KM.tickL, hu, Option.bind_some, hl, Option.bind_some, if_neg (show ¬ (uW j).kind = 2 from by show ¬ (3 : Int) = 2; decide), hwk, Option.bind_some, hst.settle, Option.bind_some]
  have hun2 : ∀ i : Nat, K'.un ((i : Int) + 1) = if i = j then some (uD j) else K.un ((i : Int) + 1) := by
    intro i
    unfold KM.un
    rw [show (i : Int) + 1 - 1 = (i : Int) by omega, getO_nat, getO_nat, eus, List.getElem?_set]
    have hlen : K.us.length = l.length := h.len
    by_cases hi : i = j
    · rw [if_pos hi.symm, if_pos hi, if_pos (by rw [hlen]; omega)]
    · rw [if_neg (fun he => hi he.symm), if_neg hi]
  refine { len := by show K'.us.length = _; rw [eus, List.length_set]; exact h.len, un := ?_, pl := by show K'.pl = _; rw [hK']; exact h.pl, tic := by show K'.tic = _; rw [hK']; exact h.tic, sems := ?_, ents := ?_, has := ?_, sorted := ?_, still := hst.same rfl rfl, pri := ?_, base := ?_, done := ?_, rdy := ?_, up := by show K'.up = _; rw [hK']; exact h.up }
  · intro i hi hwi
    show K'.un _ = _
    rw [hun2, if_neg hwi.2]
    exact h.un i hi hwi.1
  · refine ⟨_, by show K'.sems = _; rw [hK']; rfl, okL_rm hS1, fun x hx => ?_⟩
    obtain ⟨i, h6, h7, h8⟩ := hS2 x ((rmL_sub _ _).subset hx)
    refine ⟨i, h6, h7, h8, fun he => ?_⟩
    have hm : x.1 ∈ ids (rmL S ((j : Int) + 1)) := List.mem_map_of_mem hx
    rw [h7, he] at hm
    exact rmL_ids hS1 hm
  · intro x hx
    have hx : x ∈ D ++ K'.ents := hx
    rw [een] at hx
    obtain ⟨i, h6, h7, h8⟩ := h.ents x (List.mem_cons_of_mem _ hx)
    refine ⟨i, h6, ⟨h7, fun he => hn x hx ?_⟩, h8⟩
    rw [h8, he]; rfl
  · intro i hi hwi
    show _ ∈ D ++ K'.ents
    rw [een]
    rcases List.mem_cons.1 (h.has i hi hwi.1) with h9 | h9
    · exact absurd (en_hd (congrArg Ent.hd h9)) hwi.2
    · exact h9
  · show (D ++ K'.ents).Pairwise _
    rw [een]
    exact (List.pairwise_cons.1 h.sorted).2
  · intro i hi
    show K'.mm.pri _ = _
    rw [emm]; exact h.pri i hi
  · intro i hi
    show K'.mm.base _ = _
    rw [emm]; exact h.base i hi
  · intro i hi hwi
    show K'.un _ = _
    rw [hun2]
    by_cases he : i = j
    · rw [if_pos he, he]
    · rw [if_neg he]
      exact h.done i hi fun hw2 => hwi ⟨hw2, he⟩
  · intro x hx
    have hid : x.1 ∈ ids (addL true K.rdy ((j : Int) + 1) ((j : Int) + 1)).2 := by
      have hx : x ∈ K'.rdy := hx
      rw [hK'] at hx
      exact List.mem_map_of_mem hx
    rcases addL_mem hid with ⟨-, h5⟩ | h5
    · exact ⟨j, hj, h5, fun hc => hc.2 rfl⟩
    · obtain ⟨y, hy, he⟩ := List.mem_map.1 h5
      obtain ⟨i, h6, h7, h8⟩ := h.rdy y hy
      exact ⟨i, h6, by rw [← he, h7], fun hc => h8 hc.1⟩

theorem tickD {l : List Int} {t : Int} : ∀ (D : List Ent) {K : KM} {wt : Nat → Prop}, Ph2 l t { K with ents := D ++ K.ents } wt → ∃ K', KM.tickL (D.map Ent.arg) K = some K' ∧ Ph2 l t K' (fun j => wt j ∧ en l j ∉ D) ∧ K'.who = K.who := by
  intro D
  induction D with
  | nil =>
    intro K wt h
    refine ⟨K, rfl, ?_, rfl⟩
    have e : (fun j => wt j ∧ en l j ∉ ([] : List Ent)) = wt := by funext j; simp
    rw [e]
    exact h
  | cons x D ih =>
    intro K wt h
    obtain ⟨j, hj, hw, rfl⟩ := h.ents x (List.mem_cons_self ..)
    obtain ⟨K1, h1, h2, h3⟩ := tick1 h hj hw (D.map Ent.arg)
    obtain ⟨K2, h4, h5, h6⟩ := ih h2
    refine ⟨K2, ?_, ?_, by rw [h6, h3]⟩
    · rw [List.map_cons]
      exact h1.trans h4
    · have e : (fun i => wt i ∧ en l i ∉ en l j :: D) = fun i => (wt i ∧ i ≠ j) ∧ en l i ∉ D := by
        funext i
        rw [List.mem_cons, not_or]
        refine propext ⟨fun ⟨a, b, c⟩ => ⟨⟨a, fun he => b (by rw [he])⟩, c⟩, fun ⟨⟨a, b⟩, c⟩ => ⟨a, fun he => b (en_hd (congrArg Ent.hd he)), c⟩⟩
      rw [e]
      exact h5

/-- who waits at a time -/
def wt (l : List Int) (t : Int) (j : Nat) : Prop := j < l.length ∧ t < l[j]?.getD 0 + 2

theorem due_mem {now : Int} {x : Ent} : ∀ {l : List Ent}, l.Pairwise Ent.Lt → (x ∈ dueE now l ↔ x ∈ l ∧ x.at' ≤ now) := by
  intro l
  induction l with
  | nil => intro _; simp [dueE]
  | cons y r ih =>
    intro h
    have h1 := List.pairwise_cons.1 h
    unfold dueE at *
    rw [List.takeWhile_cons]
    by_cases hy : y.at' ≤ now
    · rw [if_pos (decide_eq_true hy), List.mem_cons, List.mem_cons, ih h1.2]
      constructor
      · rintro (rfl | h2)
        · exact ⟨.inl rfl, hy⟩
        · exact ⟨.inr h2.1, h2.2⟩
      · rintro ⟨rfl | h2, h3⟩
        · exact .inl rfl
        · exact .inr ⟨h2, h3⟩
    · rw [if_neg (by rw [decide_eq_true_eq]; exact hy)]
      constructor
      · intro h2; cases h2
      · rintro ⟨h2, h3⟩
        exfalso
        rcases List.mem_cons.1 h2 with rfl | h2
        · exact hy h3
        · have := h1.1 x h2
          unfold Ent.Lt at this
          omega

def WhoOk (l : List Int) (t : Int) (K : KM) : Prop := K.who = 0 ∨ ∃ j, j < l.length ∧ K.who = (j : Int) + 1 ∧ ¬ wt l t j

theorem tick {l : List Int} {t : Int} {K : KM} (h : Ph2 l t K (wt l t)) (ht : 0 ≤ t ∧ t ≤ 1000) : ∃ K', K.tick = some K' ∧ Ph2 l (t + 1) K' (wt l (t + 1)) ∧ WhoOk l (t + 1) K' := by
  have e1 : K.up + K.tic = t + 1 := by rw [h.up, h.tic]
  rw [tick_of (K := K) (by rw [h.up]; exact ⟨ht.1, by omega⟩), e1]
  have hsp : dueE (t + 1) K.ents ++ restE (t + 1) K.ents = K.ents := List.takeWhile_append_dropWhile
  have h2 : Ph2 l (t + 1) { ({ K with up := t + 1, ents := restE (t + 1) K.ents } : KM) with ents := dueE (t + 1) K.ents ++ restE (t + 1) K.ents } (wt l t) := by
    rw [hsp]
    exact { len := h.len, un := h.un, pl := h.pl, tic := h.tic, sems := h.sems, ents := h.ents, has := h.has, sorted := h.sorted, still := h.still.same rfl rfl, pri := h.pri, base := h.base, done := h.done, rdy := h.rdy, up := rfl }
  obtain ⟨K1, h3, h4, h5⟩ := tickD (dueE (t + 1) K.ents) h2
  have e : (fun j => wt l t j ∧ en l j ∉ dueE (t + 1) K.ents) = wt l (t + 1) := by
    funext j
    refine propext ⟨fun ⟨a, b⟩ => ⟨a.1, ?_⟩, fun a => ⟨⟨a.1, by have := a.2; omega⟩, fun hm => ?_⟩⟩
    · have h6 := h.has j a.1 a
      have h7 : ¬ (en l j).at' ≤ t + 1 := fun hc => b ((due_mem h.sorted).2 ⟨h6, hc⟩)
      have h8 : (en l j).at' = l[j]?.getD 0 + 2 := rfl
      omega
    · have h7 := ((due_mem h.sorted).1 hm).2
      have h8 : (en l j).at' = l[j]?.getD 0 + 2 := rfl
      have := a.2
      omega
  rw [e] at h4
  rw [h3]
  refine ⟨K1.choose, rfl, ?_, ?_⟩
  · have hc : K1.choose = { K1 with who := (K1.rdy.head?.getD (0, 0)).1 } := if_pos (by rw [h4.pl]; rfl)
    rw [hc]
    exact { len := h4.len, un := h4.un, pl := h4.pl, tic := h4.tic, sems := h4.sems, ents := h4.ents, has := h4.has, sorted := h4.sorted, still := h4.still.same rfl rfl, pri := h4.pri, base := h4.base, done := h4.done, rdy := h4.rdy, up := h4.up }
  · have hc : K1.choose = { K1 with who := (K1.rdy.head?.getD (0, 0)).1 } := if_pos (by rw [h4.pl]; rfl)
    rw [hc]
    show (K1.rdy.head?.getD (0, 0)).1 = 0 ∨ ∃ j, j < l.length ∧ (K1.rdy.head?.getD (0, 0)).1 = (j : Int) + 1 ∧ ¬ wt l (t + 1) j
    cases hr : K1.rdy with
    | nil => exact .inl rfl
    | cons x r =>
      have := h4.rdy x (by rw [hr]; exact List.mem_cons_self ..)
      exact .inr this

theorem begin2 {l : List Int} {K : KM} (h : Ph1 l l.length K) (hv : ∀ x ∈ l, 0 ≤ x ∧ x ≤ 255) : K.who = 0 ∧ Ph2 l 0 K (wt l 0) := by
  refine ⟨by rw [h.who, if_neg (by omega)], ?_⟩
  have hi : ∀ j, j < l.length → wt l 0 j := fun j hj => ⟨hj, by rw [List.getElem?_eq_getElem hj]; have := hv _ (List.getElem_mem hj); simp only [Option.getD_some]; omega⟩
  obtain ⟨S, h1, h2, h3⟩ := h.sems
  exact { len := h.len, un := fun j hj _ => h.un j hj hj, pl := h.pl, tic := h.tic, sems := ⟨S, h1, h2, fun x hx => by obtain ⟨j, a, b, c⟩ := h3 x hx; exact ⟨j, a, b, hi j a⟩⟩, ents := fun x hx => by obtain ⟨j, a, b, c⟩ := h.ents x hx; exact ⟨j, a, hi j a, c⟩, has := fun j hj _ => h.has j hj hj, sorted := h.sorted, still := h.still, pri := h.pri, base := h.base, done := fun j hj hc => absurd (hi j hj) hc, rdy := by rw [h.rdy, List.drop_eq_nil_of_le (by simp [rd])]; simp, up := h.up }

theorem told {l : List Int} {t : Int} {K : KM} {j : Nat} (h : Ph2 l t K (wt l t)) (ho : WhoOk l t K) (hj : j < l.length) :
    ∃ f, K.task ((j : Int) + 1) = some f ∧ (if t < l[j]?.getD 0 + 2 then f.state = 4 else f.state ≠ 4 ∧ f.lc = -50) := by
  unfold KM.task
  by_cases hc : t < l[j]?.getD 0 + 2
  · have hw : wt l t j := ⟨hj, hc⟩
    rw [h.un j hj hw, Option.bind_some, h.pri j hj, Option.bind_some, h.base j hj, Option.map_some]
    refine ⟨_, rfl, ?_⟩
    rw [if_pos hc]
    have : ¬ (j : Int) + 1 = K.who := by
      rcases ho with ho | ⟨i, h1, h2, h3⟩
      · omega
      · intro he
        have : i = j := by omega
        exact h3 (this ▸ hw)
    show (if (j : Int) + 1 = K.who then (1 : Int) else (uW j).state) = 4
    rw [if_neg this]; rfl
  · have hw : ¬ wt l t j := fun hw => hc hw.2
    rw [h.done j hj hw, Option.bind_some, h.pri j hj, Option.bind_some, h.base j hj, Option.map_some]
    refine ⟨_, rfl, ?_⟩
    rw [if_neg hc]
    refine ⟨?_, rfl⟩
    show (if (j : Int) + 1 = K.who then (1 : Int) else (uD j).state) ≠ 4
    split
    · decide
    · show (2 : Int) ≠ 4; decide

theorem empty {l : List Int} {K : KM} (h : Ph2 l 260 K (wt l 260)) (hv : ∀ x ∈ l, 0 ≤ x ∧ x ≤ 255) : K.sems = [⟨false, 0, 1, []⟩] := by
  obtain ⟨S, h1, h2, h3⟩ := h.sems
  cases S with
  | nil => exact h1
  | cons x r =>
    exfalso
    obtain ⟨j, a, b, c⟩ := h3 x (List.mem_cons_self ..)
    have := c.2
    rw [List.getElem?_eq_getElem a] at this
    have := hv _ (List.getElem_mem a)
    simp only [Option.getD_some] at *
    omega

end Tms

end Go.Proofs.YtenonfkfoedfmaaGreatDoor.B


/- TopTimes. -/
namespace Go.Proofs.YtenonfkfoedfmaaGreatDoor.B
open Go
set_option linter.unusedVariables false

theorem conf_sems {e L w x m} {l : List (Int × Bool)} {ss : List (Bool × Int × Int)} (tic : Int) (h : Ok e (slc 2 x (flat taC l) :: slc 3 m (flat seC ss) :: L) w) : Ok e (cfR ⟨tic, l, ss, [], [], []⟩ ⟨x, m, nilS, nilS, nilS⟩ L) w := by
  have h := ((h.slcNil 3).slcNil 2).slcNil 2
  have h2 : Ok e (slc 2 x (flat taC l) :: slc 3 m (flat seC ss) :: slc 2 nilS [] :: slc 2 nilS [] :: slc 3 nilS [] :: L) w := (h.emb (by repeat' (first | with_reducible exact Emb.same _ | exact Emb.nil _ | refine Emb.cons (by with_reducible first | exact sl0 | exact .there sl0 | exact .there sl1 | exact .there sl2 | exact .there sl3 | exact .there sl4 | exact .there sl5 | exact .there sl6 | exact .there sl7 | exact .there sl8 | exact .there sl9 | exact .there sl10 | exact .there sl11 | exact .there sl12) ?_ | refine Emb.skip ?_)))
  exact h2

/-- a configuration with tasks x, semaphores y -/
abbrev cSem1 (x y : Sl) : List Value := [.int .i64 1, vS x, vS y, vS nilS, vS nilS, vS nilS, vS nilS, vS nilS, .int .i64 0]

/-- one more task in a configuration -/
theorem add_task {e L w x y c} {l : List (Int × Bool)} {p : Int} {F : World → Prop} (h : Ok e (pts c (cSem1 x y) :: slc 2 x (flat taC l) :: L) w) (hl : l.length ≤ 100)
    (k : ∀ x' w', Ok e (pts c (cSem1 x' y) :: slc 2 x' (flat taC (l ++ [(p, true)])) :: L) w' → F w') :
    al w 45 [.int .i64 p, .bool true] fun b33 w34 => ef Pg (Builtin.append_ #[25, 25] 25 #[vS x, vS ⟨some ⟨b33, 0, none⟩, 1, 1⟩]) [kS] w34 fun (r35 : Sl × Unit) w36 => st1 w36 c (0 + 1) (vS r35.1) F := by
  have hxl := slc_flat_len taC_len (by decide) h.p1
  refine al.mk h fun f w4 h => ?_
  have h : Ok e (pts f (flat taC [(p, true)]) :: pts c (cSem1 x y) :: slc 2 x (flat taC l) :: L) w4 := h
  have h : Ok e (pts f (flat taC [(p, true)]) :: slc 2 x (flat taC l) :: pts c (cSem1 x y) :: L) w4 := (h.emb (by repeat' (first | with_reducible exact Emb.same _ | exact Emb.nil _ | refine Emb.cons (by with_reducible first | exact sl0 | exact .there sl0 | exact .there sl1 | exact .there sl2 | exact .there sl3 | exact .there sl4 | exact .there sl5 | exact .there sl6 | exact .there sl7 | exact .there sl8 | exact .there sl9 | exact .there sl10 | exact .there sl11 | exact .there sl12) ?_ | refine Emb.skip ?_)))
  refine ef.append1 (n := 1) slT_confTask (by decide) h rfl (flat_one taC_one) (by omega) fun s' w7 hl' h => ?_
  rw [← flat_append] at h
  refine st1.mk h.p1 (by simp) fun w8 h => k s' w8 h

set_option maxHeartbeats 1000000 in
theorem times_walk {e L w s R} {l : List Int} (tb : TabE e) (h : Ok e (old e :: L) w) (hlen : l.length = s.len) (hr : ∀ x ∈ l, 0 ≤ x ∧ x ≤ 255)
    (rd : ∀ {w' L'} {i : Int} {f : Nat → Nat → Prop}, Ok e (old e :: L') w' → 0 ≤ i → i < s.len → (∀ b o x, l[i.toNat]? = some x → w'.cell? ⟨b, o, none⟩ = some (.int .u8 x) → f b o) → ix s i 1 f)
    (kk : ∀ w', Ok e (old e :: L) w' → R [.bool true] w') : sh8 s R w := by
  unfold sh8
  refine call17 (known_top tb h fun w1 h => ⟨(true, ()), rfl, cs.no rfl ?_⟩)
  refine jn.bool (decide (s.len = 0 ∨ s.len > 16)) (fun J hJ => cs.mk (fun h1 => ?_) (fun h1 => ?_)) (cs.mk (fun hc => kk _ h) (fun hc => ?_))
  · have h1 : ((s.len : Int) == (0 : Int)) = true := h1
    rw [decide_eq_true (.inl (by simpa using h1))] at hJ
    exact hJ
  · have h1 : ((s.len : Int) == (0 : Int)) = false := h1
    have h1 : ¬ s.len = 0 := by simpa using h1
    rw [show decide (s.len = 0 ∨ s.len > 16) = decide ((s.len : Int) > 16) from decide_eq_decide.2 (by omega)] at hJ
    exact hJ
  have hc : ¬ (s.len = 0 ∨ s.len > 16) := of_decide_eq_false hc
  have hn : 1 ≤ l.length ∧ l.length ≤ 16 := by omega
  refine al.mk h fun b7 w2 h => al.mk h fun c w3 h => ?_
  refine st1.mk h (by simp) fun w1 h => st1.mk h (by simp) fun w1 h => st1.mk h (by simp) fun w1 h => st1.mk h (by simp) fun w1 h => st1.mk h (by simp) fun w1 h => st1.mk h (by simp) fun w1 h => st1.mk h (by simp) fun w1 h => st1.mk h (by simp) fun w1 h => st1.mk h (by simp) fun w1 h => ?_
  have h : Ok e (pts c (cSem1 nilS ⟨some ⟨b7, 0, none⟩, 1, 1⟩) :: pts b7 (flat seC [(false, 0, 1)]) :: old e :: L) w1 := h
  have h : Ok e (pts c (cSem1 nilS ⟨some ⟨b7, 0, none⟩, 1, 1⟩) :: slc 2 nilS (flat taC ((Tms.ps l.length).take 0 |>.map fun x => (x, true))) :: pts b7 (flat seC [(false, 0, 1)]) :: old e :: L) w1 := (h.slcNil 2).p1
  refine lp.mk (fun t w1 => ∃ (i : Nat) (x : Sl), @Eq Int t.1 (i : Int) ∧ i ≤ l.length ∧ Ok e (pts c (cSem1 x ⟨some ⟨b7, 0, none⟩, 1, 1⟩) :: slc 2 x (flat taC ((Tms.ps l.length).take i |>.map fun x => (x, true))) :: pts b7 (flat seC [(false, 0, 1)]) :: old e :: L) w1)
    (fun t _ => Int.toNat (Int.sub l.length t.1)) ⟨0, nilS, rfl, by omega, h⟩ ?_
  clear h
  rintro ⟨(t : Int), _⟩ w1 ⟨i, x, (rfl : t = (i : Int)), hi, h⟩
  dsimp only
  have hw : ∀ n : Nat, n ≤ 1000 → w64 ((n : Int) + 1) = ((n + 1 : Nat) : Int) := fun n hn => w64_in (by omega) (by omega)
  refine cs.mk (fun hlt => ?_) (fun hge => ?_)
  · have hlt : i < l.length := by have := of_decide_eq_true hlt; omega
    refine ldS.mk (h.cell rfl) ?_
    rw [show w64 (1 + (i : Int)) = (i : Int) + 1 by rw [w64_in (by omega) (by omega)]; omega, hw i (by omega)]
    refine add_task h (by simp; omega) fun x' w' h => ⟨⟨i + 1, x', rfl, hlt, ?_⟩, ?_⟩
    · rw [List.take_add_one, Tms.ps_get hlt, List.map_append]
      exact h
    · show ((l.length : Int) - ((i + 1 : Nat) : Int)).toNat < ((l.length : Int) - (i : Int)).toNat
      omega
  have hge : i = l.length := by have := of_decide_eq_false hge; omega
  subst hge
  rw [List.take_of_length_le (by rw [Tms.ps_len]; exact Nat.le_refl _)] at h
  obtain ⟨K0, hK0, hP⟩ := Tms.start hn.2
  refine ldI.mk (h.cell rfl) (ldS.mk (h.cell rfl) (ldS.mk (h.cell rfl) (ldS.mk (h.cell rfl) (ldS.mk (h.cell rfl) (ldS.mk (h.cell rfl) (ldS.mk (h.cell rfl) (ldS.mk (h.cell rfl) (ldI.mk (h.cell rfl) ?_))))))))
  have h := h.drop.p1
  have h : Ok e (slc 3 ⟨some ⟨b7, 0, none⟩, 1, 1⟩ (flat seC [(false, 0, 1)]) :: slc 2 x (flat taC ((Tms.ps l.length).map fun x => (x, true))) :: old e :: L) w1 :=
    Ok.slcNew (vs := flat seC [(false, 0, 1)]) (sz := 3) (n := 1) h rfl (flat_one seC_one)
  refine call19 (a0 := cfV (Tms.cf l.length) ⟨x, ⟨some ⟨b7, 0, none⟩, 1, 1⟩, nilS, nilS, nilS⟩) (open_top tb (conf_sems 1 h.p1) (Tms.ok_cf _ hn.1 hn.2) hK0 fun k A w3 h => ⟨(some ⟨k, 0, none⟩, ()), rfl, cs.no rfl ?_⟩)
  have h : Ok e (kerP k A K0 :: old e :: L) w3 := (h.emb (by repeat' (first | with_reducible exact Emb.same _ | exact Emb.nil _ | refine Emb.cons (by with_reducible first | exact sl0 | exact .there sl0 | exact .there sl1 | exact .there sl2 | exact .there sl3 | exact .there sl4 | exact .there sl5 | exact .there sl6 | exact .there sl7 | exact .there sl8 | exact .there sl9 | exact .there sl10 | exact .there sl11 | exact .there sl12) ?_ | refine Emb.skip ?_)))
  refine lp.mk (fun t w1 => ∃ (i : Nat) (K : KM), @Eq Int t.1 (i : Int) ∧ i ≤ l.length ∧ Tms.Ph1 l i K ∧ Ok e (kerP k A K :: old e :: L) w1)
    (fun t _ => Int.toNat (Int.sub l.length t.1)) ⟨0, K0, rfl, by omega, hP, h⟩ ?_
  clear h hP hK0 hi
  rintro ⟨(t : Int), _⟩ w4 ⟨i, K, (rfl : t = (i : Int)), hi, hP, h⟩
  dsimp only
  refine cs.mk (fun hlt => ?_) (fun hge => ?_)
  · have hlt : i < l.length := by have := of_decide_eq_true hlt; omega
    refine rd h.p1 (by omega) (by omega) fun b o z hz hcz => ldI.mk hcz ?_
    rw [Int.toNat_natCast, List.getElem?_eq_getElem hlt] at hz
    cases hz
    have hzb := hr _ (List.getElem_mem hlt)
    rw [w64_in (x := l[i]) (by omega) (by omega), w64_in (x := 1 + l[i]) (by omega) (by omega), hw i (by omega)]
    obtain ⟨K', hK', hP'⟩ := Tms.call27 hP hlt hn.2 hr
    refine al.mk h fun b1 w5 h => ?_
    refine call20 (a2 := ⟨some ⟨b1, 0, none⟩, 2, 2⟩) (do_top (n := 27) (xs := [1, 1 + l[i]]) (do_27 tb) (slcOf (l := [1, 1 + l[i]]) h) (by simp) hK' fun w6 h => ⟨((1 : Int), (0 : Int), ()), rfl, cs.no rfl ⟨⟨i + 1, K', rfl, hlt, hP', h⟩, ?_⟩⟩)
    show ((l.length : Int) - ((i + 1 : Nat) : Int)).toNat < ((l.length : Int) - (i : Int)).toNat
    omega
  have hge : i = l.length := by have := of_decide_eq_false hge; omega
  subst hge
  obtain ⟨hw0, hP2⟩ := Tms.begin2 hP hr
  refine call21 (Running_kern h ⟨(K.who, ()), rfl, cs.no (by rw [hw0]; rfl) ?_⟩)
  refine lp.mk (fun t w1 => ∃ (n : Nat) (K : KM), @Eq Int t.1 ((n : Int) + 1) ∧ n ≤ 260 ∧ Tms.Ph2 l n K (Tms.wt l n) ∧ Ok e (kerP k A K :: old e :: L) w1)
    (fun t _ => Int.toNat (Int.sub 261 t.1)) ⟨0, K, rfl, by omega, hP2, h⟩ ?_
  clear h hP hP2 hw0 hi
  rintro ⟨(t : Int), _⟩ w5 ⟨n, K, (rfl : t = (n : Int) + 1), hn2, hP, h⟩
  dsimp only
  refine cs.mk (fun hlt => ?_) (fun hge => ?_)
  · have hlt : n < 260 := by have := of_decide_eq_true hlt; omega
    obtain ⟨K', hK', hP', hW'⟩ := Tms.tick hP ⟨by omega, by omega⟩
    refine call22 (Tick_kern tb h hK' fun w6 h => ⟨(nilS, ()), rfl, ?_⟩)
    refine lp.mk (fun t w1 => ∃ (i : Nat), @Eq Int t.1 (i : Int) ∧ i ≤ l.length ∧ Ok e (kerP k A K' :: old e :: L) w1)
      (fun t _ => Int.toNat (Int.sub l.length t.1)) ⟨0, rfl, by omega, h⟩ ?_
    clear h
    rintro ⟨(t : Int), _⟩ w7 ⟨i, (rfl : t = (i : Int)), hi, h⟩
    dsimp only
    refine cs.mk (fun hlt2 => ?_) (fun hge2 => ⟨⟨n + 1, K', ?_, hlt, hP', h⟩, ?_⟩)
    · have hlt2 : i < l.length := by have := of_decide_eq_true hlt2; omega
      refine rd h.p1 (by omega) (by omega) fun b o z hz hcz => ldI.mk hcz ?_
      rw [Int.toNat_natCast] at hz
      have hzb := hr _ (List.mem_of_getElem? hz)
      obtain ⟨f, hf, hfc⟩ := Tms.told hP' hW' hlt2
      rw [hz, Option.getD_some] at hfc
      rw [w64_in (x := z) (by omega) (by omega), w64_in (x := 2 + z) (by omega) (by omega), hw i (by omega)]
      refine call27 (state_top (s := f.state) h (by unfold KM.state; rw [show ((i + 1 : Nat) : Int) = (i : Int) + 1 from rfl, hf]; rfl) fun w8 h => ⟨(f.state, ()), rfl, ?_⟩)
      have hms : ((l.length : Int) - ((i + 1 : Nat) : Int)).toNat < ((l.length : Int) - (i : Int)).toNat := by omega
      by_cases hov : (n : Int) + 1 < z + 2
      · rw [if_pos hov] at hfc
        rw [show decide (((n : Int) + 1) ≥ (2 + z)) = false from decide_eq_false (by omega)]
        refine cs.no (by dsimp only; rw [hfc]; rfl) ?_
        refine call23 (last_top h hf fun w9 h => ⟨(f.lc, f.lv, ()), rfl, jn.mk fun J hJ => cs.no rfl (hJ _ _ (cs.no rfl ⟨⟨i + 1, rfl, hlt2, h⟩, hms⟩))⟩)
      · rw [if_neg hov] at hfc
        rw [show decide (((n : Int) + 1) ≥ (2 + z)) = true from decide_eq_true (by omega)]
        refine cs.no (by dsimp only; rw [show ((f.state : Int) != 4) = true by simpa using hfc.1]; rfl) ?_
        refine call23 (last_top h hf fun w9 h => ⟨(f.lc, f.lv, ()), rfl, jn.mk fun J hJ => cs.yes rfl (hJ _ _ (cs.no ?_ ⟨⟨i + 1, rfl, hlt2, h⟩, hms⟩))⟩)
        dsimp only
        rw [hfc.2]; rfl
    · exact w64_in (by omega) (by omega)
    · show ((261 : Int) - w64 ((n : Int) + 1 + 1)).toNat < ((261 : Int) - ((n : Int) + 1)).toNat
      rw [w64_in (by omega) (by omega)]
      omega
  have hge : n = 260 := by have := of_decide_eq_false hge; omega
  subst hge
  have hS := Tms.empty hP hr
  refine call28 (Sem_kern (s := ⟨false, 0, 1, []⟩) h (by rw [hS]; rfl) fun x w6 hx h => ⟨((0 : Int), x, (0 : Int), ()), rfl, ?_⟩)
  have hx : x.len = 0 := hx
  rw [hx]
  exact kk w6 h.drop.drop

theorem TopTimes_walk {W} {s : Sl} {l : List Int} (tb : TabE W) (h0 : ArgI .u8 W s l) : sh8 s (fun vs w' => vs = [.bool true] ∧ Ok W [old W] w') W :=
  times_walk tb (Ok.start W) h0.len (fun x hx => h0.u8 hx) (fun h hi0 hi1 k => ix_arg h0 hi0 hi1 fun b o x hx hc => k b o x hx (hc _ ⟨_, h⟩)) fun w' h => ⟨rfl, h⟩

end Go.Proofs.YtenonfkfoedfmaaGreatDoor.B

