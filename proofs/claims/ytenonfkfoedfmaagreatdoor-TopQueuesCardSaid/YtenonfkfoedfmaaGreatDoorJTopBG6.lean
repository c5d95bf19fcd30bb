/- Texts of ours, joined: Qus, QusW. -/
import Derived.Test.YtenonfkfoedfmaaGreatDoorJTopB7
import Derived.Test.YtenonfkfoedfmaaGreatDoorJTopBG1
import Derived.Test.YtenonfkfoedfmaaGreatDoorJTopBG3
set_option linter.unusedSimpArgs false
set_option linter.unusedVariables false
/- TopQueues: the plain law. -/
namespace Go.Proofs.YtenonfkfoedfmaaGreatDoor.B
open Go
set_option linter.unusedVariables false

def seqP : Nat → List Int → List (Int × Int)
  | _, [] => []
  | i, p :: r => ((i : Int) + 1, p) :: seqP (i + 1) r

theorem seqP_mem : ∀ (ps : List Int) (i : Nat) (x : Int × Int), x ∈ seqP i ps → ∃ j, ps[j]? = some x.2 ∧ x.1 = ((i + j : Nat) : Int) + 1 := by
  intro ps
  induction ps with
  | nil => intro i x h; cases h
  | cons p r ih =>
    intro i x h
    rcases List.mem_cons.1 h with rfl | h
    · exact ⟨0, rfl, rfl⟩
    · obtain ⟨j, h1, h2⟩ := ih (i + 1) x h
      exact ⟨j + 1, h1, by rw [h2, show i + 1 + j = i + (j + 1) by omega]⟩

theorem seqP_nodup : ∀ (ps : List Int) (i : Nat), (ids (seqP i ps)).Nodup := by
  intro ps
  induction ps with
  | nil => intro i; exact List.nodup_nil
  | cons p r ih =>
    intro i
    refine List.nodup_cons.2 ⟨fun hc => ?_, ih (i + 1)⟩
    obtain ⟨x, hx, he⟩ := List.mem_map.1 hc
    obtain ⟨j, -, h2⟩ := seqP_mem r (i + 1) x hx
    have he : x.1 = (i : Int) + 1 := he
    omega

theorem seqP_len : ∀ (ps : List Int) (i : Nat), (seqP i ps).length = ps.length := by
  intro ps
  induction ps with
  | nil => intro i; rfl
  | cons p r ih => intro i; rw [seqP, List.length_cons, ih, List.length_cons]

theorem add_new {l : List (Int × Int)} {i : Nat} {p : Int} (b : Bool) (h : ∀ x ∈ l, x.1 ≤ (i : Int)) (hi : i + 1 ≤ 16) (hp : 1 ≤ p ∧ p ≤ 16) : addL b l ((i : Int) + 1) p = (0, putL b l ((i : Int) + 1, p)) := by
  have hni : ((i : Int) + 1) ∉ ids l := fun hc => by
    obtain ⟨x, hx, he⟩ := List.mem_map.1 hc
    have := h x hx
    have he : x.1 = (i : Int) + 1 := he
    omega
  unfold addL
  rw [if_neg (by omega), if_neg (by rw [atI_pos]; exact hni)]

theorem rdyF_perm : ∀ (ps : List Int) (i : Nat) (l : List (Int × Int)), (∀ x ∈ l, x.1 ≤ (i : Int)) → i + ps.length ≤ 16 → (∀ p ∈ ps, 1 ≤ p ∧ p ≤ 16) → (rdyF i ps l).Perm (seqP i ps ++ l) := by
  intro ps
  induction ps with
  | nil => intro i l _ _ _; exact List.Perm.refl _
  | cons p ps ih =>
    intro i l h hl hp
    simp only [List.length_cons] at hl
    rw [rdyF, add_new true h (by omega) (hp p (List.mem_cons_self ..))]
    have hpm := putL_perm true l ((i : Int) + 1, p)
    refine (ih (i + 1) _ (fun x hx => ?_) (by omega) fun q hq => hp q (List.mem_cons_of_mem _ hq)).trans ?_
    · rcases List.mem_cons.1 (hpm.subset hx) with rfl | hx
      · show (i : Int) + 1 ≤ ((i + 1 : Nat) : Int); omega
      · have := h x hx; omega
    · exact (hpm.append_left _).trans List.perm_middle

theorem rdyF_all {ps : List Int} (hl : ps.length ≤ 16) (hp : ∀ p ∈ ps, 1 ≤ p ∧ p ≤ 16) : (rdyF 0 ps []).length = ps.length ∧ (ids (rdyF 0 ps [])).Nodup ∧ ∀ x ∈ rdyF 0 ps [], ∃ j : Nat, ps[j]? = some x.2 ∧ x.1 = (j : Int) + 1 := by
  have h := rdyF_perm ps 0 [] (by simp) (by omega) hp
  rw [List.append_nil] at h
  refine ⟨by rw [h.length_eq, seqP_len], (h.map Prod.fst).nodup_iff.2 (seqP_nodup ps 0), fun x hx => ?_⟩
  obtain ⟨j, h1, h2⟩ := seqP_mem ps 0 x (h.subset hx)
  exact ⟨j, h1, by rw [h2, Nat.zero_add]⟩

namespace Qus

def cf (b : Bool) (ps : List Int) : ConfM := ⟨1, ps.map fun x => (x, true), [(b, 0, 1)], [], [], []⟩

structure Inv (b : Bool) (R : List (Int × Int)) (i : Nat) (S : List (Int × Int)) (K : KM) : Prop where
  pl : K.pl = ⟨[], false, false⟩
  rdy : K.rdy = R.drop i
  who : K.who = ((R.drop i).head?.getD (0, 0)).1
  sems : K.sems = [⟨b, 0, 1, S⟩]
  still : Still K
  un : ∀ x ∈ R.drop i, K.un x.1 = some (unA x.2)
  pri : ∀ x ∈ R, K.mm.pri x.1 = some x.2 ∧ 1 ≤ x.1 ∧ x.1 ≤ 16

theorem start {b : Bool} {ps : List Int} (hp : ∀ p ∈ ps, 1 ≤ p ∧ p ≤ 16) (hl : ps.length ≤ 16) : ∃ K, KM.new (cf b ps) = some K ∧ Inv b (rdyF 0 ps []) 0 [] K := by
  have hn := new_gen (c := cf b ps) (ps := ps) rfl hp hl (by simp [cf])
  have hc : (genK (cf b ps) ps).choose = { genK (cf b ps) ps with who := ((genK (cf b ps) ps).rdy.head?.getD (0, 0)).1 } := if_pos rfl
  obtain ⟨-, -, hx⟩ := rdyF_all hl hp
  refine ⟨_, hn, ?_⟩
  rw [hc]
  refine ⟨rfl, rfl, rfl, rfl, (gen_still (c := cf b ps) hl).same rfl rfl, fun x hm => ?_, fun x hm => ?_⟩
  · obtain ⟨j, h1, h2⟩ := hx x hm
    show getO (ps.map unA) (x.1 - 1) = _
    rw [h2, show (j : Int) + 1 - 1 = (j : Int) by omega, getO_nat, List.getElem?_map, h1]
    rfl
  · obtain ⟨j, h1, h2⟩ := hx x hm
    have hj := (List.getElem?_eq_some_iff.1 h1).1
    rw [h2]
    exact ⟨(gen_pri (c := cf b ps) hl h1).1, by omega, by omega⟩

theorem step {b : Bool} {R S : List (Int × Int)} {i : Nat} {K : KM} {x : Int × Int} (h : Inv b R i S K) (hx : R[i]? = some x) (hn : (ids R).Nodup) :
    K.who = x.1 ∧ ∃ K', K.call 2 (KM.cSem 1 (-1)) = some ((1, 0), K') ∧ Inv b R (i + 1) (addL b S x.1 x.2).2 K' := by
  have hlt := (List.getElem?_eq_some_iff.1 hx).1
  have hd : R.drop i = x :: R.drop (i + 1) := by
    rw [List.drop_eq_getElem_cons hlt]
    rw [List.getElem?_eq_getElem hlt] at hx
    cases hx; rfl
  have hw : K.who = x.1 := by rw [h.who, hd]; rfl
  refine ⟨hw, ?_⟩
  have hxm : x ∈ R.drop i := by rw [hd]; exact List.mem_cons_self ..
  obtain ⟨hpr, p0, p1⟩ := h.pri x (List.drop_subset _ _ hxm)
  have hu : K.un K.who = some (unA x.2) := by rw [hw]; exact h.un x hxm
  have hmay : K.may 2 = 0 := by
    unfold KM.may
    rw [h.pl, show decide (K.who = 0) = false from decide_eq_false (by omega)]
    rfl
  obtain ⟨K1, hK1⟩ : ∃ K1 : KM, K1 = { K with sems := [⟨b, 0, 1, (addL b S K.who x.2).2⟩] } := ⟨_, rfl⟩
  have hs1 : Still K1 := by rw [hK1]; exact h.still.same rfl rfl
  have e1 : K1.who = K.who := by rw [hK1]
  have hu1 : K1.un K1.who = some (unA x.2) := by rw [hK1]; exact hu
  have hst := stay_ever (kind := 3) (obj := 1) hs1 hu1 rfl (by decide)
  have hc : KM.cSem 1 (-1) K = (K1.stay 3 1 (-1)).map fun K => ((1, 0), K) := by
    unfold KM.cSem
    rw [h.sems, if_neg (by simp), if_neg (by omega)]
    show Option.bind (some _) _ = _
    rw [Option.bind_some, if_neg (by simp), if_neg (by omega), (show K.mm.pri K.who = some x.2 by rw [hw]; exact hpr), Option.bind_some, hK1]
    simp
  unfold KM.call
  rw [if_neg (by rw [hmay]; decide), hc, hst]
  refine ⟨_, rfl, ?_⟩
  obtain ⟨K2, hK2⟩ : ∃ K2 : KM, K2 = ({ K1 with rdy := rmL K1.rdy K1.who } : KM).setU K1.who { unA x.2 with state := 4, asleep := false, kind := 3, obj := 1 } := ⟨_, rfl⟩
  dsimp only
  rw [← hK2]
  have eus : K2.us = K.us.set (x.1 - 1).toNat { unA x.2 with state := 4, asleep := false, kind := 3, obj := 1 } := by
    rw [hK2]
    show K1.us.set (K1.who - 1).toNat _ = _
    rw [hK1]
    show K.us.set (K.who - 1).toNat _ = _
    rw [hw]
  have epl : K2.pl = ⟨[], false, false⟩ := by rw [hK2, hK1]; exact h.pl
  have emm : K2.mm = K.mm := by rw [hK2, hK1]; rfl
  have erd : K2.rdy = R.drop (i + 1) := by
    rw [hK2]
    show rmL K1.rdy K1.who = _
    rw [hK1]
    show rmL K.rdy K.who = _
    rw [h.rdy, hw, hd, rmL_cons, if_pos rfl]
  have ech : K2.choose = { K2 with who := (K2.rdy.head?.getD (0, 0)).1 } := if_pos (by rw [epl]; rfl)
  rw [ech]
  have hst2 : Still K2 := h.still.set (n := x.1) (u := unA x.2) (u' := { unA x.2 with state := 4, asleep := false, kind := 3, obj := 1 }) eus emm (by rw [← hw]; exact hu) rfl
  refine ⟨epl, erd, ?_, ?_, hst2.same rfl rfl, fun y hy => ?_, fun y hy => ?_⟩
  · show (K2.rdy.head?.getD (0, 0)).1 = _
    rw [erd]
  · show K2.sems = _
    rw [hK2, hK1, ← hw]; rfl
  · have hne : y.1 ≠ x.1 := by
      have hnd : (ids (R.drop i)).Nodup := hn.sublist ((List.drop_sublist i R).map Prod.fst)
      rw [hd] at hnd
      have := (List.nodup_cons.1 hnd).1
      intro he
      exact this (by rw [← he]; exact List.mem_map_of_mem hy)
    have hy0 := (h.pri y (List.drop_subset _ _ hy)).2
    show K2.un y.1 = _
    unfold KM.un
    rw [eus]
    have := h.un y (by rw [hd]; exact List.mem_cons_of_mem _ hy)
    obtain ⟨q1, q2, q3⟩ := un_get this
    refine getO_of (by omega) ?_
    rw [List.getElem?_set, if_neg (by omega)]
    exact q3
  · show K2.mm.pri _ = _ ∧ _
    rw [emm]; exact h.pri y hy

end Qus

end Go.Proofs.YtenonfkfoedfmaaGreatDoor.B


/- TopQueues. -/
namespace Go.Proofs.YtenonfkfoedfmaaGreatDoor.B
open Go
set_option linter.unusedVariables false

theorem rdyF_snoc : ∀ (ps : List Int) (i : Nat) (p : Int) (l : List (Int × Int)), rdyF i (ps ++ [p]) l = (addL true (rdyF i ps l) (((i + ps.length : Nat) : Int) + 1) p).2 := by
  intro ps
  induction ps with
  | nil => intro i p l; rfl
  | cons q r ih =>
    intro i p l
    rw [List.cons_append, rdyF, rdyF, ih, List.length_cons, show i + 1 + r.length = i + (r.length + 1) by omega]

theorem al_u8' {x : Int} (h : 0 ≤ x ∧ x ≤ 255) : w64 (1 + w64 (Int.tmod x 16)) = 1 + x % 16 := by
  rw [Int.tmod_eq_emod_of_nonneg h.1, w64_in (x := x % 16) (by omega) (by omega), w64_in (by omega) (by omega)]

namespace Qus

def pr (l : List Int) : List Int := l.map fun x => 1 + x % 16

theorem ok_cf {b : Bool} {ps : List Int} (hp : ∀ p ∈ ps, 1 ≤ p ∧ p ≤ 16) (hl : 1 ≤ ps.length ∧ ps.length ≤ 16) : (cf b ps).ok = true := by
  have ht : (ps.map fun x => (x, true)).all (fun x => decide (1 ≤ x.1 ∧ x.1 ≤ 16)) = true := by
    rw [List.all_eq_true]
    intro x hx
    obtain ⟨p, hp2, rfl⟩ := List.mem_map.1 hx
    exact decide_eq_true (hp p hp2)
  unfold cf ConfM.ok
  dsimp only
  rw [ht]
  simp [poolsOk, hl]

end Qus

set_option maxHeartbeats 1000000 in
theorem queues_walk {e L w s R} {a0 : Bool} {l : List Int} (tb : TabE e) (h : Ok e (old e :: L) w) (hlen : l.length = s.len) (hr : ∀ x ∈ l, 0 ≤ x ∧ x ≤ 255)
    (rd : ∀ {w' L'} {i : Int} {f : Nat → Nat → Prop}, Ok e (old e :: L') w' → 0 ≤ i → i < s.len → (∀ b o x, l[i.toNat]? = some x → w'.cell? ⟨b, o, none⟩ = some (.int .u8 x) → f b o) → ix s i 1 f)
    (kk : ∀ w', Ok e (old e :: L) w' → R [.bool true] w') : sh16 a0 s R w := by
  unfold sh16
  refine call17 (known_top tb h fun w1 h => ⟨(true, ()), rfl, cs.no rfl ?_⟩)
  refine jn.bool (decide (s.len = 0 ∨ s.len > 15)) (fun J hJ => cs.mk (fun h1 => ?_) (fun h1 => ?_)) (cs.mk (fun hc => kk _ h) (fun hc => ?_))
  · have h1 : ((s.len : Int) == (0 : Int)) = true := h1
    rw [decide_eq_true (.inl (by simpa using h1))] at hJ
    exact hJ
  · have h1 : ((s.len : Int) == (0 : Int)) = false := h1
    have h1 : ¬ s.len = 0 := by simpa using h1
    rw [show decide (s.len = 0 ∨ s.len > 15) = decide ((s.len : Int) > 15) from decide_eq_decide.2 (by omega)] at hJ
    exact hJ
  have hc : ¬ (s.len = 0 ∨ s.len > 15) := of_decide_eq_false hc
  have hn : 1 ≤ l.length ∧ l.length ≤ 15 := by omega
  obtain ⟨ps, hps⟩ : ∃ ps, ps = Qus.pr l := ⟨_, rfl⟩
  have hpl : ps.length = l.length := by rw [hps]; simp [Qus.pr]
  have hpg : ∀ (i : Nat) (x : Int), l[i]? = some x → ps[i]? = some (1 + x % 16) := by
    intro i x hx
    rw [hps, Qus.pr, List.getElem?_map, hx]
    rfl
  have hpb : ∀ p ∈ ps, 1 ≤ p ∧ p ≤ 16 := by
    intro p hp
    rw [hps] at hp
    obtain ⟨x, hx, rfl⟩ := List.mem_map.1 hp
    omega
  refine al.mk h fun b7 w2 h => al.mk h fun c w3 h => ?_
  refine st1.mk h (by simp) fun w1 h => st1.mk h (by simp) fun w1 h => st1.mk h (by simp) fun w1 h => st1.mk h (by simp) fun w1 h => st1.mk h (by simp) fun w1 h => st1.mk h (by simp) fun w1 h => st1.mk h (by simp) fun w1 h => st1.mk h (by simp) fun w1 h => st1.mk h (by simp) fun w1 h => ?_
  have h : Ok e (pts c (cSem1 nilS ⟨some ⟨b7, 0, none⟩, 1, 1⟩) :: pts b7 (flat seC [(a0, 0, 1)]) :: old e :: L) w1 := h
  refine call43 (New_sem h (fun hx => absurd (by decide) hx) fun _ se sp w2 h => ⟨(some ⟨se, 0, none⟩, (0 : Int), ()), rfl, ?_⟩)
  refine call44 (New_order h fun qu w2 h => ⟨(some ⟨qu, 0, none⟩, ()), rfl, ?_⟩)
  refine call45 (New_ready h fun rq w2 h => ⟨(some ⟨rq, 0, none⟩, ()), rfl, ?_⟩)
  have h : Ok e (slc 2 nilS (flat taC ((ps.take 0).map fun x => (x, true))) :: rdyP rq (rdyF 0 (ps.take 0) []) :: lineP qu [.bool a0] [] :: pts se (semC sp 0 1) :: lineP sp [.bool a0] [] :: pts c (cSem1 nilS ⟨some ⟨b7, 0, none⟩, 1, 1⟩) :: pts b7 (flat seC [(a0, 0, 1)]) :: old e :: L) w2 := h.slcNil 2
  have h : Ok e (pts c (cSem1 nilS ⟨some ⟨b7, 0, none⟩, 1, 1⟩) :: slc 2 nilS (flat taC ((ps.take 0).map fun x => (x, true))) :: rdyP rq (rdyF 0 (ps.take 0) []) :: pts se (semC sp 0 1) :: lineP sp [.bool a0] [] :: lineP qu [.bool a0] [] :: pts b7 (flat seC [(a0, 0, 1)]) :: old e :: L) w2 := (h.emb (by repeat' (first | with_reducible exact Emb.same _ | exact Emb.nil _ | refine Emb.cons (by with_reducible first | exact sl0 | exact .there sl0 | exact .there sl1 | exact .there sl2 | exact .there sl3 | exact .there sl4 | exact .there sl5 | exact .there sl6 | exact .there sl7 | exact .there sl8 | exact .there sl9 | exact .there sl10 | exact .there sl11 | exact .there sl12) ?_ | refine Emb.skip ?_)))
  have hw : ∀ n : Nat, n ≤ 1000 → w64 ((n : Int) + 1) = ((n + 1 : Nat) : Int) := fun n hn => w64_in (by omega) (by omega)
  refine lp.mk (fun t w1 => ∃ (i : Nat) (x : Sl), @Eq Int t.1 (i : Int) ∧ i ≤ l.length ∧ Ok e (pts c (cSem1 x ⟨some ⟨b7, 0, none⟩, 1, 1⟩) :: slc 2 x (flat taC ((ps.take i).map fun x => (x, true))) :: rdyP rq (rdyF 0 (ps.take i) []) :: pts se (semC sp 0 1) :: lineP sp [.bool a0] [] :: lineP qu [.bool a0] [] :: pts b7 (flat seC [(a0, 0, 1)]) :: old e :: L) w1)
    (fun t _ => Int.toNat (Int.sub l.length t.1)) ⟨0, nilS, rfl, by omega, h⟩ ?_
  clear h
  rintro ⟨(t : Int), _⟩ w1 ⟨i, x, (rfl : t = (i : Int)), hi, h⟩
  dsimp only
  refine cs.mk (fun hlt => ?_) (fun hge => ?_)
  · have hlt : i < l.length := by have := of_decide_eq_true hlt; omega
    refine rd (Ok.emb (h) (.cons (A := old e) (by with_reducible first | exact sl0 | exact .there sl0 | exact .there sl1 | exact .there sl2 | exact .there sl3 | exact .there sl4 | exact .there sl5 | exact .there sl6 | exact .there sl7 | exact .there sl8 | exact .there sl9 | exact .there sl10 | exact .there sl11 | exact .there sl12) (.same _))) (by omega) (by omega) fun b o z hz hcz => ldI.mk hcz (ldS.mk (h.cell rfl) ?_)
    rw [Int.toNat_natCast] at hz
    have hzb := hr _ (List.mem_of_getElem? hz)
    rw [(al_u8' hzb), hw i (by omega)]
    refine add_task h (by simp; omega) fun x' w' h => ?_
    have h := (Ok.emb (h) (.cons (A := rdyP rq (rdyF 0 (ps.take i) [])) (by with_reducible first | exact sl0 | exact .there sl0 | exact .there sl1 | exact .there sl2 | exact .there sl3 | exact .there sl4 | exact .there sl5 | exact .there sl6 | exact .there sl7 | exact .there sl8 | exact .there sl9 | exact .there sl10 | exact .there sl11 | exact .there sl12) (.same _)))
    refine call46 (Add_ready h fun w2 h => ⟨(_, ()), rfl, ⟨i + 1, x', rfl, hlt, ?_⟩, ?_⟩)
    · have e1 : (addL true (rdyF 0 (ps.take i) []) ((i + 1 : Nat) : Int) (1 + z % 16)).2 = rdyF 0 (ps.take (i + 1)) [] := by
        rw [List.take_add_one, hpg i z hz, Option.toList_some, rdyF_snoc, List.length_take, Nat.min_eq_left (by omega), Nat.zero_add]
        rfl
      have e2 : (ps.take i).map (fun x => (x, true)) ++ [(1 + z % 16, true)] = (ps.take (i + 1)).map fun x => (x, true) := by
        rw [List.take_add_one, hpg i z hz, List.map_append]; rfl
      rw [e1] at h
      rw [← e2]
      exact (h.emb (by repeat' (first | with_reducible exact Emb.same _ | exact Emb.nil _ | refine Emb.cons (by with_reducible first | exact sl0 | exact .there sl0 | exact .there sl1 | exact .there sl2 | exact .there sl3 | exact .there sl4 | exact .there sl5 | exact .there sl6 | exact .there sl7 | exact .there sl8 | exact .there sl9 | exact .there sl10 | exact .there sl11 | exact .there sl12) ?_ | refine Emb.skip ?_)))
    · show ((l.length : Int) - ((i + 1 : Nat) : Int)).toNat < ((l.length : Int) - (i : Int)).toNat
      omega
  have hge : i = l.length := by have := of_decide_eq_false hge; omega
  subst hge
  rw [List.take_of_length_le (by omega)] at h
  obtain ⟨K0, hK0, hP⟩ := Qus.start (b := a0) hpb (by omega)
  obtain ⟨hRl, hRn, hRm⟩ := rdyF_all (ps := ps) (by omega) hpb
  obtain ⟨Q, hQ⟩ : ∃ Q, Q = rdyF 0 ps [] := ⟨_, rfl⟩
  rw [← hQ] at h hP hRl hRn hRm
  refine ldI.mk (h.cell rfl) (ldS.mk (h.cell rfl) (ldS.mk (h.cell rfl) (ldS.mk (h.cell rfl) (ldS.mk (h.cell rfl) (ldS.mk (h.cell rfl) (ldS.mk (h.cell rfl) (ldS.mk (h.cell rfl) (ldI.mk (h.cell rfl) ?_))))))))
  have h := (Ok.emb (h) (.cons (A := pts b7 (flat seC [(a0, 0, 1)])) (by with_reducible first | exact sl0 | exact .there sl0 | exact .there sl1 | exact .there sl2 | exact .there sl3 | exact .there sl4 | exact .there sl5 | exact .there sl6 | exact .there sl7 | exact .there sl8 | exact .there sl9 | exact .there sl10 | exact .there sl11 | exact .there sl12) (.same _)))
  have h := Ok.slcNew (vs := flat seC [(a0, 0, 1)]) (sz := 3) (n := 1) h rfl (flat_one seC_one)
  have h : Ok e (slc 2 x (flat taC (ps.map fun x => (x, true))) :: slc 3 ⟨some ⟨b7, 0, none⟩, 1, 1⟩ (flat seC [(a0, 0, 1)]) :: old e :: rdyP rq Q :: pts se (semC sp 0 1) :: lineP sp [.bool a0] [] :: lineP qu [.bool a0] [] :: L) w1 := (h.emb (by repeat' (first | with_reducible exact Emb.same _ | exact Emb.nil _ | refine Emb.cons (by with_reducible first | exact sl0 | exact .there sl0 | exact .there sl1 | exact .there sl2 | exact .there sl3 | exact .there sl4 | exact .there sl5 | exact .there sl6 | exact .there sl7 | exact .there sl8 | exact .there sl9 | exact .there sl10 | exact .there sl11 | exact .there sl12) ?_ | refine Emb.skip ?_)))
  refine call19 (a0 := cfV (Qus.cf a0 ps) ⟨x, ⟨some ⟨b7, 0, none⟩, 1, 1⟩, nilS, nilS, nilS⟩) (open_top tb (conf_sems 1 h) (Qus.ok_cf hpb (by omega)) hK0 fun k A w3 h => ⟨(some ⟨k, 0, none⟩, ()), rfl, cs.no rfl ?_⟩)
  have h : Ok e (rdyP rq Q :: old e :: kerP k A K0 :: pts se (semC sp 0 1) :: lineP sp [.bool a0] [] :: lineP qu [.bool a0] [] :: L) w3 := (h.emb (by repeat' (first | with_reducible exact Emb.same _ | exact Emb.nil _ | refine Emb.cons (by with_reducible first | exact sl0 | exact .there sl0 | exact .there sl1 | exact .there sl2 | exact .there sl3 | exact .there sl4 | exact .there sl5 | exact .there sl6 | exact .there sl7 | exact .there sl8 | exact .there sl9 | exact .there sl10 | exact .there sl11 | exact .there sl12) ?_ | refine Emb.skip ?_)))
  refine call47 (All_ready tb h fun ql w4 h => ⟨(ql, ()), rfl, ?_⟩)
  have h : Ok e (kerP k A K0 :: old e :: pts se (semC sp 0 1) :: lineP sp [.bool a0] [] :: lineP qu [.bool a0] [] :: slc 1 ql (ints (ids Q)) :: L) w4 := (h.emb (by repeat' (first | with_reducible exact Emb.same _ | exact Emb.nil _ | refine Emb.cons (by with_reducible first | exact sl0 | exact .there sl0 | exact .there sl1 | exact .there sl2 | exact .there sl3 | exact .there sl4 | exact .there sl5 | exact .there sl6 | exact .there sl7 | exact .there sl8 | exact .there sl9 | exact .there sl10 | exact .there sl11 | exact .there sl12) ?_ | refine Emb.skip ?_)))
  have hal := slc_ints_len (Ok.emb (h) (.cons (A := slc 1 ql (ints (ids Q))) (by with_reducible first | exact sl0 | exact .there sl0 | exact .there sl1 | exact .there sl2 | exact .there sl3 | exact .there sl4 | exact .there sl5 | exact .there sl6 | exact .there sl7 | exact .there sl8 | exact .there sl9 | exact .there sl10 | exact .there sl11 | exact .there sl12) (.same _)))
  have hil : (ids Q).length = Q.length := List.length_map ..
  refine lp.mk (fun t w1 => ∃ (i : Nat) (K : KM) (S : List (Int × Int)), @Eq Int t.1 (i : Int) ∧ i ≤ Q.length ∧ Qus.Inv a0 Q i S K ∧ okL S ∧ Ok e (kerP k A K :: old e :: pts se (semC sp 0 1) :: lineP sp [.bool a0] S :: lineP qu [.bool a0] S :: slc 1 ql (ints (ids Q)) :: L) w1)
    (fun t _ => Int.toNat (Int.sub Q.length t.1)) ⟨0, K0, [], rfl, by omega, hP, okL_nil, h⟩ ?_
  clear h hP hK0 hi
  rintro ⟨(t : Int), _⟩ w4 ⟨i, K, S, (rfl : t = (i : Int)), hi, hP, hS, h⟩
  dsimp only
  have hSl := okL_len hS
  refine cs.mk (fun hlt => ?_) (fun hge => ?_)
  · have hlt : i < Q.length := by have := of_decide_eq_true hlt; omega
    refine ix_int (Ok.emb (h) (.cons (A := slc 1 ql (ints (ids Q))) (by with_reducible first | exact sl0 | exact .there sl0 | exact .there sl1 | exact .there sl2 | exact .there sl3 | exact .there sl4 | exact .there sl5 | exact .there sl6 | exact .there sl7 | exact .there sl8 | exact .there sl9 | exact .there sl10 | exact .there sl11 | exact .there sl12) (.same _))) (by omega) (by omega) fun b o z hz hcz => ldI.mk (hcz _ ⟨_, (Ok.emb (h) (.cons (A := slc 1 ql (ints (ids Q))) (by with_reducible first | exact sl0 | exact .there sl0 | exact .there sl1 | exact .there sl2 | exact .there sl3 | exact .there sl4 | exact .there sl5 | exact .there sl6 | exact .there sl7 | exact .there sl8 | exact .there sl9 | exact .there sl10 | exact .there sl11 | exact .there sl12) (.same _)))⟩) ?_
    rw [Int.toNat_natCast] at hz
    obtain ⟨y, hy, hyz⟩ : ∃ y, Q[i]? = some y ∧ y.1 = z := by
      have : (Q.map Prod.fst)[i]? = some z := hz
      rw [List.getElem?_map] at this
      obtain ⟨y, h1, h2⟩ := Option.map_eq_some_iff.1 this
      exact ⟨y, h1, h2⟩
    obtain ⟨j, hj1, hj2⟩ := hRm y (List.mem_of_getElem? hy)
    have hjl := (List.getElem?_eq_some_iff.1 hj1).1
    rw [show w64 (z - 1) = (j : Int) by rw [← hyz, hj2]; exact (w64_in (by omega) (by omega)).trans (by omega)]
    refine rd (Ok.emb (h) (.cons (A := old e) (by with_reducible first | exact sl0 | exact .there sl0 | exact .there sl1 | exact .there sl2 | exact .there sl3 | exact .there sl4 | exact .there sl5 | exact .there sl6 | exact .there sl7 | exact .there sl8 | exact .there sl9 | exact .there sl10 | exact .there sl11 | exact .there sl12) (.same _))) (by omega) (by omega) fun b o v hv hcv => ldI.mk hcv ?_
    rw [Int.toNat_natCast] at hv
    have hvb := hr _ (List.mem_of_getElem? hv)
    have hpv := hpg j v hv
    rw [hj1] at hpv
    have hpv : y.2 = 1 + v % 16 := Option.some.inj hpv
    rw [(al_u8' hvb), ← hpv, ← hyz, hw i (by omega)]
    obtain ⟨hwho, K', hK', hP'⟩ := Qus.step hP hy hRn
    refine call21 (Running_kern h ⟨(K.who, ()), rfl, cs.no (by dsimp only; rw [hwho]; simp) ?_⟩)
    refine al.mk h fun b1 w5 h => ?_
    refine call20 (a2 := ⟨some ⟨b1, 0, none⟩, 1, 1⟩) (do_top (n := 25) (xs := [1]) (do_25 tb) (slcOf (l := [1]) h) (by simp) hK' fun w6 h => ⟨((1 : Int), (0 : Int), ()), rfl, cs.no rfl ?_⟩)
    have h := (Ok.emb (h) (.cons (A := pts se (semC sp 0 1)) (by with_reducible first | exact sl0 | exact .there sl0 | exact .there sl1 | exact .there sl2 | exact .there sl3 | exact .there sl4 | exact .there sl5 | exact .there sl6 | exact .there sl7 | exact .there sl8 | exact .there sl9 | exact .there sl10 | exact .there sl11 | exact .there sl12) (.cons (A := lineP sp [.bool a0] S) (by with_reducible first | exact sl0 | exact .there sl0 | exact .there sl1 | exact .there sl2 | exact .there sl3 | exact .there sl4 | exact .there sl5 | exact .there sl6 | exact .there sl7 | exact .there sl8 | exact .there sl9 | exact .there sl10 | exact .there sl11 | exact .there sl12) (.same _))))
    refine call48 (Wait_sem (id := y.1) (pri := y.2) h (by omega) (by decide) fun w7 h => ⟨((waitM a0 0 S y.1 y.2).ok, (waitM a0 0 S y.1 y.2).code, ()), rfl, ?_⟩)
    have hwm : waitM a0 0 S y.1 y.2 = ⟨false, (addL a0 S y.1 y.2).1, 0, (addL a0 S y.1 y.2).2⟩ := if_pos (by omega)
    rw [hwm] at h
    have h := (Ok.emb (h) (.cons (A := lineP qu [.bool a0] S) (by with_reducible first | exact sl0 | exact .there sl0 | exact .there sl1 | exact .there sl2 | exact .there sl3 | exact .there sl4 | exact .there sl5 | exact .there sl6 | exact .there sl7 | exact .there sl8 | exact .there sl9 | exact .there sl10 | exact .there sl11 | exact .there sl12) (.same _)))
    refine call49 (Add_order (id := y.1) (pri := y.2) h (by omega) fun w8 h => ⟨(_, ()), rfl, ⟨i + 1, K', (addL a0 S y.1 y.2).2, rfl, hlt, hP', okL_add hS, (h.emb (by repeat' (first | with_reducible exact Emb.same _ | exact Emb.nil _ | refine Emb.cons (by with_reducible first | exact sl0 | exact .there sl0 | exact .there sl1 | exact .there sl2 | exact .there sl3 | exact .there sl4 | exact .there sl5 | exact .there sl6 | exact .there sl7 | exact .there sl8 | exact .there sl9 | exact .there sl10 | exact .there sl11 | exact .there sl12) ?_ | refine Emb.skip ?_)))⟩, ?_⟩)
    show ((Q.length : Int) - ((i + 1 : Nat) : Int)).toNat < ((Q.length : Int) - (i : Int)).toNat
    omega
  have hge : i = Q.length := by have := of_decide_eq_false hge; omega
  refine call28 (Sem_kern (s := ⟨a0, 0, 1, S⟩) h (by rw [hP.sems]; rfl) fun x1 w6 hx1 h => ⟨((0 : Int), x1, (0 : Int), ()), rfl, ?_⟩)
  have hx1 : x1.len = S.length := hx1
  refine nn.mk (ldP.mk (by refine Ok.cellS h (by with_reducible first | exact sl0 | exact .there sl0 | exact .there sl1 | exact .there sl2 | exact .there sl3 | exact .there sl4 | exact .there sl5 | exact .there sl6 | exact .there sl7 | exact .there sl8 | exact .there sl9 | exact .there sl10 | exact .there sl11 | exact .there sl12) ?_; rfl) (nn.mk ?_))
  refine call50 (Row_order (Ok.emb (h) (.cons (A := lineP sp [.bool a0] S) (by with_reducible first | exact sl0 | exact .there sl0 | exact .there sl1 | exact .there sl2 | exact .there sl3 | exact .there sl4 | exact .there sl5 | exact .there sl6 | exact .there sl7 | exact .there sl8 | exact .there sl9 | exact .there sl10 | exact .there sl11 | exact .there sl12) (.same _))) (by omega) fun x2 w7 hx2 h => ⟨(x2, ()), rfl, ?_⟩)
  refine nn.mk ?_
  refine call50 (Row_order (Ok.emb (h) (.cons (A := lineP qu [.bool a0] S) (by with_reducible first | exact sl0 | exact .there sl0 | exact .there sl1 | exact .there sl2 | exact .there sl3 | exact .there sl4 | exact .there sl5 | exact .there sl6 | exact .there sl7 | exact .there sl8 | exact .there sl9 | exact .there sl10 | exact .there sl11 | exact .there sl12) (.same _))) (by omega) fun x3 w8 hx3 h => ⟨(x3, ()), rfl, ?_⟩)
  have h : Ok e (slc 2 x2 (prs S) :: slc 2 x3 (prs S) :: slc 1 x1 (ints (ids S)) :: old e :: L) w8 := (h.emb (by repeat' (first | with_reducible exact Emb.same _ | exact Emb.nil _ | refine Emb.cons (by with_reducible first | exact sl0 | exact .there sl0 | exact .there sl1 | exact .there sl2 | exact .there sl3 | exact .there sl4 | exact .there sl5 | exact .there sl6 | exact .there sl7 | exact .there sl8 | exact .there sl9 | exact .there sl10 | exact .there sl11 | exact .there sl12) ?_ | refine Emb.skip ?_)))
  refine jn.bool false (fun J hJ => cs.no (by dsimp only; rw [hx1, hx2]; simp) (by dsimp only; rw [hx2, hx3]; simpa using hJ)) (cs.no rfl ?_)
  refine lp.mk (fun t w1 => ∃ (n : Nat), @Eq Int t.1 (n : Int) ∧ n ≤ S.length ∧ Ok e (slc 2 x2 (prs S) :: slc 2 x3 (prs S) :: slc 1 x1 (ints (ids S)) :: old e :: L) w1)
    (fun t _ => Int.toNat (Int.sub S.length t.1)) ⟨0, rfl, by omega, h⟩ ?_
  clear h
  rintro ⟨(t : Int), _⟩ w9 ⟨n, (rfl : t = (n : Int)), hn3, h⟩
  dsimp only
  refine cs.mk (fun hlt => ?_) (fun hge => kk _ h.drop.drop.drop)
  have hlt : n < S.length := by have := of_decide_eq_true hlt; omega
  have hisl : (ids S).length = S.length := List.length_map ..
  refine dr.mk h fun w2 h => ?_
  refine jn.bool false (fun J hJ => ?_) (cs.no rfl ⟨⟨n + 1, hw n (by omega), hlt, h⟩, ?_⟩)
  · refine ix_int (Ok.emb (h) (.cons (A := slc 1 x1 (ints (ids S))) (by with_reducible first | exact sl0 | exact .there sl0 | exact .there sl1 | exact .there sl2 | exact .there sl3 | exact .there sl4 | exact .there sl5 | exact .there sl6 | exact .there sl7 | exact .there sl8 | exact .there sl9 | exact .there sl10 | exact .there sl11 | exact .there sl12) (.same _))) (by omega) (by omega) fun b0 o0 z hz hcz => ldI.mk (hcz _ ⟨_, (Ok.emb (h) (.cons (A := slc 1 x1 (ints (ids S))) (by with_reducible first | exact sl0 | exact .there sl0 | exact .there sl1 | exact .there sl2 | exact .there sl3 | exact .there sl4 | exact .there sl5 | exact .there sl6 | exact .there sl7 | exact .there sl8 | exact .there sl9 | exact .there sl10 | exact .there sl11 | exact .there sl12) (.same _)))⟩) ?_
    refine ix_pr h (by simp) (by simpa using hlt) fun b o p hp ha ho hc1 hc2 => ldI.mk (hc1 _ ⟨_, h⟩) ?_
    rw [Int.toNat_natCast] at hz hp
    have hz : (S.map Prod.fst)[n]? = some z := hz
    rw [List.getElem?_map, hp] at hz
    cases hz
    refine cs.no (by simp) ?_
    refine ix_pr h (by simp) (by simpa using hlt) fun b o p2 hp2 ha ho hc1 hc2 => ldI.mk (hc1 _ ⟨_, h⟩) (ldI.mk (hc2 _ ⟨_, h⟩) ?_)
    refine ix_pr h.p1 (by simp) (by simpa using hlt) fun b' o' p' hp' ha' ho' hc1' hc2' => ldI.mk (hc1' _ ⟨_, h.p1⟩) (ldI.mk (hc2' _ ⟨_, h.p1⟩) ?_)
    rw [hp2] at hp'
    cases hp'
    simpa using hJ
  · show ((S.length : Int) - w64 ((n : Int) + 1)).toNat < ((S.length : Int) - (n : Int)).toNat
    rw [hw n (by omega)]
    omega

theorem TopQueues_walk {W} {a0 : Bool} {s : Sl} {l : List Int} (tb : TabE W) (h0 : ArgI .u8 W s l) : sh16 a0 s (fun vs w' => vs = [.bool true] ∧ Ok W [old W] w') W :=
  queues_walk tb (Ok.start W) h0.len (fun x hx => h0.u8 hx) (fun h hi0 hi1 k => ix_arg h0 hi0 hi1 fun b o x hx hc => k b o x hx (hc _ ⟨_, h⟩)) fun w' h => ⟨rfl, h⟩

end Go.Proofs.YtenonfkfoedfmaaGreatDoor.B

