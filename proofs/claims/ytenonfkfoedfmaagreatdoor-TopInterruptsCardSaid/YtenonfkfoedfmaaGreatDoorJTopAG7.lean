/- Texts of ours, joined: IntW. -/
import Derived.Test.YtenonfkfoedfmaaGreatDoorJTopA7
import Derived.Test.YtenonfkfoedfmaaGreatDoorJTopAG1
import Derived.Test.YtenonfkfoedfmaaGreatDoorJTopAG4
set_option linter.unusedSimpArgs false
set_option linter.unusedVariables false
/- TopInterrupts. -/
namespace Go.Proofs.YtenonfkfoedfmaaGreatDoor.B
open Go
set_option linter.unusedVariables false

namespace Itr

def cf (a : Int) : ConfM := ⟨1, [(a, true), (1, true)], [], [], [], []⟩

def mm (a : Int) : MM := ⟨[⟨0, 0, 0, []⟩], [MM.mt0, ⟨a, a, 0⟩, ⟨1, 1, 0⟩] ++ List.replicate 14 MM.mt0⟩

def K1 (a : Int) (lv : List Int) : KM := ⟨⟨lv, false, false⟩, 1, 0, 0, 0, [], [(1, a)], mm a, [⟨0, 0, 0, 2, false, a, a, 0, 0, 0, 0, 0⟩, ⟨0, 0, 0, 4, true, 1, 1, 1, 0, 0, 0, 0⟩], [], [], [], 1⟩

def K2 (a : Int) (lv : List Int) (who : Int) : KM := ⟨⟨lv, false, false⟩, 1, 0, 0, 0, [], [(2, 1), (1, a)], mm a, [⟨0, 0, 0, 2, false, a, a, 0, 0, 0, 0, 0⟩, ⟨0, 0, 0, 2, false, 1, 1, 0, 0, 0, 0, 0⟩], [], [], [], who⟩

theorem cases {a : Int} (h : 2 ≤ a ∧ a ≤ 16) : a = 2 ∨ a = 3 ∨ a = 4 ∨ a = 5 ∨ a = 6 ∨ a = 7 ∨ a = 8 ∨ a = 9 ∨ a = 10 ∨ a = 11 ∨ a = 12 ∨ a = 13 ∨ a = 14 ∨ a = 15 ∨ a = 16 := by omega

theorem start {a : Int} (h : 2 ≤ a ∧ a ≤ 16) : ((KM.new (cf a)).bind fun K0 => if K0.who ≠ 2 then none else K0.call 2 KM.cSlp) = some ((1, 0), K1 a []) := by
  rcases cases h with rfl | rfl | rfl | rfl | rfl | rfl | rfl | rfl | rfl | rfl | rfl | rfl | rfl | rfl | rfl <;> kernel_rfl

theorem inn_cons (x : Int) (r : List Int) (b c : Bool) : (⟨x :: r, b, c⟩ : PlaceM).inn = true := by
  unfold PlaceM.inn
  simp

theorem no_dispatch (x : Int) (r : List Int) : (⟨x :: r, false, false⟩ : PlaceM).dispatch = false := by
  unfold PlaceM.dispatch
  rw [inn_cons]
  rfl

theorem intr_eq {a l : Int} {lv : List Int} (hl : 1 ≤ l ∧ l ≤ 15) : ∃ lv' c, (K1 a lv).intr l = (c, K1 a lv') ∧ (c = 0 ∧ lv'.length = lv.length + 1 ∨ c ≠ 0 ∧ lv' = lv) := by
  unfold KM.intr PlaceM.enter
  rw [if_neg (by omega)]
  by_cases hc : (K1 a lv).pl.locked = true ∨ (K1 a lv).pl.inn = true ∧ l ≤ (K1 a lv).pl.top
  · rw [if_pos hc]
    cases lv with
    | nil => rcases hc with hc | ⟨hc, -⟩ <;> cases hc
    | cons x r =>
      refine ⟨x :: r, -25, ?_, .inr ⟨by decide, rfl⟩⟩
      unfold KM.choose
      show (-25, if (⟨x :: r, false, false⟩ : PlaceM).dispatch = true then _ else _) = _
      rw [no_dispatch]
      rfl
  · rw [if_neg hc]
    refine ⟨lv ++ [l], 0, ?_, .inl ⟨rfl, by simp⟩⟩
    unfold KM.choose
    show ((0 : Int), if (⟨lv ++ [l], false, false⟩ : PlaceM).dispatch = true then _ else _) = _
    have hd : (⟨lv ++ [l], false, false⟩ : PlaceM).dispatch = false := by
      cases lv with
      | nil => exact no_dispatch _ _
      | cons x r => exact no_dispatch _ _
    rw [hd]
    rfl

theorem may3 (x : Int) (r : List Int) (idle : Bool) : (⟨x :: r, false, false⟩ : PlaceM).may 3 idle = 0 := by
  simp [PlaceM.may, PlaceM.ok, PlaceM.ok4, PlaceM.ok1, PlaceM.ok2, PlaceM.ok3, inn_cons]

theorem wup {a : Int} (h : 2 ≤ a ∧ a ≤ 16) (lv : List Int) : KM.cIwup 2 (K1 a lv) = some ((0, 0), K2 a lv 1) := by
  rcases cases h with rfl | rfl | rfl | rfl | rfl | rfl | rfl | rfl | rfl | rfl | rfl | rfl | rfl | rfl | rfl <;> kernel_rfl

theorem call_wup {a x : Int} {r : List Int} (h : 2 ≤ a ∧ a ≤ 16) : (K1 a (x :: r)).call 3 (KM.cIwup 2) = some ((0, 0), K2 a (x :: r) 1) := by
  unfold KM.call
  rw [if_neg (fun hc => hc (may3 x r _)), wup h]
  show some ((0, 0), (K2 a (x :: r) 1).choose) = _
  unfold KM.choose
  rw [if_neg (by show ¬ (⟨x :: r, false, false⟩ : PlaceM).dispatch = true; rw [no_dispatch]; decide)]

theorem state2 (a who : Int) (lv : List Int) (h : who = 1) : (K2 a lv who).state 2 = some 2 := by subst h; rfl

theorem exit_eq (x : Int) (r : List Int) : (⟨x :: r, false, false⟩ : PlaceM).exit = (0, ⟨(x :: r).take r.length, false, false⟩) := by
  unfold PlaceM.exit
  rw [inn_cons]
  rfl

theorem retn_eq {a x : Int} {r : List Int} : (K2 a (x :: r) 1).retn = (0, K2 a ((x :: r).take r.length) (if r.length = 0 then 2 else 1)) := by
  unfold KM.retn
  show ((⟨x :: r, false, false⟩ : PlaceM).exit.1, ({ K2 a (x :: r) 1 with pl := (⟨x :: r, false, false⟩ : PlaceM).exit.2 } : KM).choose) = _
  rw [exit_eq]
  cases r with
  | nil => rfl
  | cons y s =>
    show ((0 : Int), (K2 a (x :: (y :: s).take s.length) 1).choose) = (0, K2 a (x :: (y :: s).take s.length) (if s.length + 1 = 0 then 2 else 1))
    unfold KM.choose
    rw [if_neg (by show ¬ (⟨x :: (y :: s).take s.length, false, false⟩ : PlaceM).dispatch = true; rw [no_dispatch]; decide), if_neg (by omega)]

theorem ok_cf {a : Int} (h : 2 ≤ a ∧ a ≤ 16) : (cf a).ok = true := by
  rcases cases h with rfl | rfl | rfl | rfl | rfl | rfl | rfl | rfl | rfl | rfl | rfl | rfl | rfl | rfl | rfl <;> decide

end Itr

theorem interrupts_walk {e L w s R} {lv : List Int} {a1 : Int} (tb : TabE e) (h : Ok e (old e :: L) w) (hlen : lv.length = s.len) (hr : ∀ x ∈ lv, 0 ≤ x ∧ x ≤ 255)
    (rd : ∀ {w' L'} {i : Int} {f : Nat → Nat → Prop}, Ok e (old e :: L') w' → 0 ≤ i → i < s.len → (∀ b o x, lv[i.toNat]? = some x → w'.cell? ⟨b, o, none⟩ = some (.int .u8 x) → f b o) → ix s i 1 f)
    (h1 : 0 ≤ a1 ∧ a1 ≤ 255) (kk : ∀ w', Ok e (old e :: L) w' → R [.bool true] w') : sh13 s a1 R w := by
  unfold sh13
  refine call17 (known_top tb h fun w1 h => ⟨(true, ()), rfl, cs.no rfl ?_⟩)
  refine cs.mk (fun hc => kk _ h) (fun hc => ?_)
  have hc : ¬ ((s.len : Int) > 15) := of_decide_eq_false hc
  have e1 : w64 (2 + w64 (Int.tmod a1 15)) = 2 + a1 % 15 := by
    rw [Int.tmod_eq_emod_of_nonneg h1.1, w64_in (x := a1 % 15) (by omega) (by omega), w64_in (by omega) (by omega)]
  rw [e1]
  obtain ⟨a, ha⟩ : ∃ q, q = 2 + a1 % 15 := ⟨_, rfl⟩
  rw [← ha]
  have ha1 : 2 ≤ a ∧ a ≤ 16 := by omega
  obtain ⟨K0, hK0, hM⟩ := Option.bind_eq_some_iff.1 (Itr.start ha1)
  split at hM
  · cases hM
  next hw0 =>
  have hw0 := Classical.not_not.1 hw0
  refine al.mk h fun b0 w2 h => ?_
  refine call18 (a0 := ⟨some ⟨b0, 0, none⟩, 2, 2⟩) (tasks_top (l := [a, 1]) (slcOf (l := [a, 1]) h) (by simp) fun x w2 h => ⟨(((1 : Int), x, nilS, nilS, nilS, nilS, nilS, nilS, (0 : Int), ()), ()), rfl, ?_⟩)
  refine al.mk h fun c0 w3 h => ?_
  refine st1.mk h (by simp) fun w1 h => st1.mk h (by simp) fun w1 h => st1.mk h (by simp) fun w1 h => st1.mk h (by simp) fun w1 h => st1.mk h (by simp) fun w1 h => st1.mk h (by simp) fun w1 h => st1.mk h (by simp) fun w1 h => st1.mk h (by simp) fun w1 h => st1.mk h (by simp) fun w1 h => ?_
  refine ldI.mk (h.cell rfl) (ldS.mk (h.cell rfl) (ldS.mk (h.cell rfl) (ldS.mk (h.cell rfl) (ldS.mk (h.cell rfl) (ldS.mk (h.cell rfl) (ldS.mk (h.cell rfl) (ldS.mk (h.cell rfl) (ldI.mk (h.cell rfl) ?_))))))))
  refine call19 (a0 := cfV (Itr.cf a) ⟨x, nilS, nilS, nilS, nilS⟩) (open_top tb (conf_tasks 1 h.drop) (Itr.ok_cf ha1) hK0 fun k A w3 h => ⟨(some ⟨k, 0, none⟩, ()), rfl, ?_⟩)
  have h : Ok e (kerP k A K0 :: old e :: L) w3 := (h.emb (by repeat' (first | with_reducible exact Emb.same _ | exact Emb.nil _ | refine Emb.cons (by with_reducible first | exact sl0 | exact .there sl0 | exact .there sl1 | exact .there sl2 | exact .there sl3 | exact .there sl4 | exact .there sl5 | exact .there sl6 | exact .there sl7 | exact .there sl8 | exact .there sl9 | exact .there sl10 | exact .there sl11 | exact .there sl12) ?_ | refine Emb.skip ?_)))
  refine jn.mk fun J hJ => cs.no rfl (call21 (Running_kern h ⟨(K0.who, ()), rfl, hJ _ _ (cs.no (by simpa using hw0) ?_)⟩))
  clear hJ J
  refine call20 (a2 := nilS) (do_top (n := 12) (xs := []) (do_12 tb) (h.slcNil 1) (by simp) hM fun w5 h => ⟨((1 : Int), (0 : Int), ()), rfl, ?_⟩)
  refine call21 (Running_kern h ⟨((1 : Int), ()), rfl, cs.no rfl ?_⟩)
  refine lp.mk (fun t w1 => ∃ (i : Nat) (l : List Int), @Eq Int t.1 (l.length : Int) ∧ @Eq Int t.2.1 (i : Int) ∧ i ≤ lv.length ∧ l.length ≤ i ∧ Ok e (kerP k A (Itr.K1 a l) :: old e :: L) w1)
    (fun t _ => Int.toNat (Int.sub lv.length t.2.1)) ⟨0, [], rfl, rfl, by omega, by simp, h⟩ ?_
  clear h
  rintro ⟨(n : Int), (t : Int), _⟩ w6 ⟨i, l, (rfl : n = (l.length : Int)), (rfl : t = (i : Int)), hi, hli, h⟩
  dsimp only
  refine cs.mk (fun h2 => ?_) (fun h2 => ?_)
  · have h2 : i < lv.length := by have := of_decide_eq_true h2; omega
    refine rd h.p1 (by omega) (by omega) fun b o x hx hcell => ldI.mk hcell ?_
    have hxm := hr x (List.mem_of_getElem? hx)
    obtain ⟨f1, f2, f3⟩ := w64_mod (a := x) (m := 15) hxm.1 (by decide)
    rw [f1]
    obtain ⟨l', c, hI, hcase⟩ := Itr.intr_eq (a := a) (l := 1 + x % 15) (lv := l) (by omega)
    refine call39 (Int_kern tb h (by show l.length ≤ 100; omega) fun w7 h => ⟨(((Itr.K1 a l).intr (1 + x % 15)).1, ()), rfl, ?_⟩)
    rw [hI] at h ⊢
    have meas : ((lv.length : Int) - w64 ((i : Int) + 1)).toNat < ((lv.length : Int) - (i : Int)).toNat := by
      rw [w64_in (by omega) (by omega)]; omega
    have inc : w64 ((i : Int) + 1) = ((i + 1 : Nat) : Int) := w64_in (by omega) (by omega)
    rcases hcase with ⟨hc0, hl'⟩ | ⟨hc0, hl'⟩
    · exact cs.yes (by simpa using hc0) ⟨⟨i + 1, l', by rw [hl']; exact w64_in (by omega) (by omega), inc, by omega, by omega, h⟩, meas⟩
    · rw [hl'] at h
      exact cs.no (by simpa using hc0) ⟨⟨i + 1, l, rfl, inc, by omega, by omega, h⟩, meas⟩
  refine cs.mk (fun h3 => kk _ h.drop) (fun h3 => ?_)
  have h3 : l.length ≠ 0 := by
    have h3 : ((l.length : Int) == (0 : Int)) = false := h3
    simpa using h3
  have hl15 : l.length ≤ 15 := by omega
  obtain ⟨x, r, rfl⟩ : ∃ x r, l = x :: r := by
    cases l with
    | nil => exact absurd rfl h3
    | cons x r => exact ⟨x, r, rfl⟩
  refine al.mk h fun b1 w4 h => ?_
  refine call20 (a2 := ⟨some ⟨b1, 0, none⟩, 1, 1⟩) (do_top (n := 15) (xs := [2]) (do_15 tb) (slcOf (l := [2]) h) (by simp) (Itr.call_wup ha1) fun w5 h => ⟨((0 : Int), (0 : Int), ()), rfl, ?_⟩)
  refine jn.mk fun J1 hJ1 => cs.no rfl (call21 (Running_kern h ⟨((1 : Int), ()), rfl, hJ1 _ _ ?_⟩))
  refine jn.mk fun J2 hJ2 => cs.no rfl (call27 (state_top h (Itr.state2 a 1 _ rfl) fun w7 h => ⟨((2 : Int), ()), rfl, hJ2 _ _ (cs.no rfl ?_)⟩))
  clear hJ1 hJ2 J1 J2
  refine lp.mk (fun t w1 => ∃ (j : Nat), @Eq Int t.1 (j : Int) ∧ j ≤ (x :: r).length ∧ Ok e (kerP k A (Itr.K2 a ((x :: r).take ((x :: r).length - j)) (if j = (x :: r).length then 2 else 1)) :: old e :: L) w1)
    (fun t _ => Int.toNat (Int.sub (x :: r).length t.1)) ⟨0, rfl, by omega, ?_⟩ ?_
  · rw [Nat.sub_zero, List.take_length, if_neg (by simp)]
    exact h
  rintro ⟨(t : Int), _⟩ w8 ⟨j, (rfl : t = (j : Int)), hj, h⟩
  dsimp only
  refine cs.mk (fun h4 => ?_) (fun h4 => ?_)
  · have h4 : j < (x :: r).length := by have := of_decide_eq_true h4; omega
    rw [if_neg (by omega)] at h
    refine call21 (Running_kern h ⟨((1 : Int), ()), rfl, ?_⟩)
    obtain ⟨m, hm⟩ : ∃ m, (x :: r).length - j = m + 1 := ⟨(x :: r).length - j - 1, by omega⟩
    rw [hm, List.take_succ_cons] at h
    have hml : (r.take m).length = m := by
      rw [List.length_take]; simp only [List.length_cons] at hm; omega
    refine jn.mk fun J1 hJ1 => cs.no rfl ?_
    refine call40 (Ret_kern tb h (by show (x :: r.take m).length ≤ 100; simp only [List.length_cons] at *; omega) fun w9 h => ⟨((Itr.K2 a (x :: r.take m) 1).retn.1, ()), rfl, ?_⟩)
    rw [Itr.retn_eq] at h ⊢
    refine hJ1 _ _ (cs.no rfl ⟨⟨j + 1, w64_in (by omega) (by omega), h4, ?_⟩, ?_⟩)
    · rw [show (x :: r).length - (j + 1) = m by omega]
      rw [hml] at h
      have e7 : (x :: r.take m).take m = (x :: r).take m := by
        cases m with
        | zero => rfl
        | succ m => rw [List.take_succ_cons, List.take_succ_cons, List.take_take, Nat.min_eq_left (by omega)]
      rw [e7] at h
      by_cases hm0 : m = 0
      · rw [if_pos hm0] at h
        rw [if_pos (by omega)]
        exact h
      · rw [if_neg hm0] at h
        rw [if_neg (by omega)]
        exact h
    · show (((x :: r).length : Int) - w64 ((j : Int) + 1)).toNat < (((x :: r).length : Int) - (j : Int)).toNat
      rw [w64_in (by omega) (by omega)]
      omega
  · have h4 : j = (x :: r).length := by have := of_decide_eq_false h4; omega
    rw [if_pos h4] at h
    refine call21 (Running_kern h ⟨((2 : Int), ()), rfl, kk _ h.drop⟩)

theorem TopInterrupts_walk {W a1} {s : Sl} {lv : List Int} (tb : TabE W) (h0 : ArgI .u8 W s lv) (h1 : (Lit.int .u8 a1).wf = true) : sh13 s a1 (fun vs w' => vs = [.bool true] ∧ Ok W [old W] w') W :=
  interrupts_walk tb (Ok.start W) h0.len (fun x hx => h0.u8 hx) (fun h hi0 hi1 k => ix_arg h0 hi0 hi1 fun b o x hx hc => k b o x hx (hc _ ⟨_, h⟩)) (wf_u8 h1) fun w' h => ⟨rfl, h⟩

end Go.Proofs.YtenonfkfoedfmaaGreatDoor.B

