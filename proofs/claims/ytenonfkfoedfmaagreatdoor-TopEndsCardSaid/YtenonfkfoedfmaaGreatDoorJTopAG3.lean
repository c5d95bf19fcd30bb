/- Texts of ours, joined: InhW. -/
import Derived.Test.YtenonfkfoedfmaaGreatDoorJTopA7
import Derived.Test.YtenonfkfoedfmaaGreatDoorJTopAG1
import Derived.Test.YtenonfkfoedfmaaGreatDoorJTopAG2
set_option linter.unusedSimpArgs false
set_option linter.unusedVariables false
/- TopInherits. -/
namespace Go.Proofs.YtenonfkfoedfmaaGreatDoor.B
open Go
set_option linter.unusedVariables false

def inhC (a b : Int) : ConfM := ⟨1, [(a, true), (b, false)], [], [], [(2, 0)], []⟩

/-- the law, as plain Lean -/
def inhM (a b : Int) : Option Bool :=
  (KM.new (inhC a b)).bind fun K0 =>
  (K0.call 2 (KM.cLoc 1)).bind fun r1 =>
  (r1.2.call 1 (KM.cAct 2)).bind fun r2 =>
  if ¬ (r1.1.1 = 0 ∧ r2.1.1 = 0 ∧ r2.2.who = 2) then none else
  (r2.2.call 2 (KM.cLoc 1)).bind fun r3 =>
  (r3.2.call 1 (KM.cPri 1)).bind fun r4 =>
  if ¬ (r3.1.1 = 1 ∧ r4.2.who = 1 ∧ r4.1.2 = b) then none else
  (r4.2.call 1 (KM.cUnl 1)).bind fun r5 =>
  (r5.2.call 1 (KM.cPri 1)).bind fun r6 =>
  (r6.2.task 2).bind fun f =>
  if ¬ (1 < r6.2.mm.m.length ∧ (r6.2.mm.waiting 1).length ≤ 100) then none else
  some (decide (r5.1.1 = 0) && decide (r6.2.who = 2) && decide (r6.1.2 = a) && decide (r6.2.mm.owner 1 = 2) && decide (f.lc = 0))

theorem inhM_all : ((List.range 16).all fun a => (List.range a).all fun b => inhM (1 + (a : Int)) (1 + (b : Int)) == some true) = true := by decide +kernel

theorem inhM_true {a b : Int} (ha : 0 ≤ a ∧ a < 16) (hb : 0 ≤ b ∧ b < a) : inhM (1 + a) (1 + b) = some true := by
  have h := List.all_eq_true.1 inhM_all a.toNat (List.mem_range.2 (by omega))
  have h2 := List.all_eq_true.1 h b.toNat (List.mem_range.2 (by omega))
  rw [Int.toNat_of_nonneg ha.1, Int.toNat_of_nonneg hb.1] at h2
  simpa using h2

theorem ok_inh {a b : Int} (ha : 1 ≤ a ∧ a ≤ 16) (hb : 1 ≤ b ∧ b ≤ 16) : (inhC a b).ok = true := by
  unfold inhC
  simp only [ConfM.ok, poolsOk, Bool.and_eq_true, decide_eq_true_eq, List.all_cons, List.all_nil, List.length_cons, List.length_nil]
  refine ⟨⟨⟨⟨⟨by omega, ?_⟩, ?_⟩, ?_⟩, ?_⟩, ?_⟩ <;> first | trivial | exact ⟨ha, hb, trivial⟩ | exact ⟨rfl, trivial⟩

/-- a task of a configuration is made not active -/
theorem st_task {e : World} {L : List SP} {w : World} {s : Sl} {l : List (Int × Bool)} {x : Int × Bool} {i : Nat} {c : Bool} {g : World → Prop} (h : Ok e (slc 2 s (flat taC l) :: L) w) (hi : l[i]? = some x)
    (k : ∀ w', Ok e (slc 2 s (flat taC (l.set i (x.1, c))) :: L) w' → g w') : ix s (i : Int) 2 fun b2 o2 => st1 w b2 (o2 + 1) (.bool c) g := by
  have hlt := (List.getElem?_eq_some_iff.1 hi).1
  refine ix_flat taC_len (by decide) h (by omega) (by omega) fun b2 o2 y hy ha ho hc => ?_
  rw [Int.toNat_natCast] at hy ho
  rw [hi] at hy
  cases hy
  exact st_flat (i := i) (j := 1) (a := x) (a' := (x.1, c)) (v := .bool c) taC_len taC_one h hi (by decide) rfl ha (by rw [ho]) k

theorem conf_mtxs {e L w x m} {l : List (Int × Bool)} {ms : List (Int × Int)} (tic : Int) (h : Ok e (slc 2 x (flat taC l) :: slc 2 m (flat kdC ms) :: L) w) : Ok e (cfR ⟨tic, l, [], [], ms, []⟩ ⟨x, nilS, nilS, m, nilS⟩ L) w := by
  have h := ((h.slcNil 3).slcNil 2).slcNil 3
  have h2 : Ok e (slc 2 x (flat taC l) :: slc 3 nilS [] :: slc 2 nilS [] :: slc 2 m (flat kdC ms) :: slc 3 nilS [] :: L) w := (h.emb (by repeat' (first | with_reducible exact Emb.same _ | exact Emb.nil _ | refine Emb.cons (by with_reducible first | exact sl0 | exact .there sl0 | exact .there sl1 | exact .there sl2 | exact .there sl3 | exact .there sl4 | exact .there sl5 | exact .there sl6 | exact .there sl7 | exact .there sl8 | exact .there sl9 | exact .there sl10 | exact .there sl11 | exact .there sl12) ?_ | refine Emb.skip ?_)))
  exact h2

theorem inherits_walk {e L w a0 a1 R} (tb : TabE e) (h : Ok e (old e :: L) w) (h0 : 0 ≤ a0 ∧ a0 ≤ 255) (h1 : 0 ≤ a1 ∧ a1 ≤ 255) (kk : ∀ w', Ok e (old e :: L) w' → R [.bool true] w') : sh9 a0 a1 R w := by
  unfold sh9
  refine call17 (known_top tb h fun w1 h => ⟨(true, ()), rfl, cs.no rfl ?_⟩)
  obtain ⟨f1, f2, f3⟩ := w64_mod (a := a1) (m := 16) h1.1 (by decide)
  have e1 : w64 (2 + w64 (Int.tmod a0 14)) = 2 + a0 % 14 := by
    rw [Int.tmod_eq_emod_of_nonneg h0.1, w64_in (x := a0 % 14) (by omega) (by omega), w64_in (by omega) (by omega)]
  rw [e1, f1]
  refine cs.mk (fun hc => kk _ h) (fun hc => ?_)
  have hc := of_decide_eq_false hc
  have hM := inhM_true (a := 1 + a0 % 14) (b := a1 % 16) (by omega) (by omega)
  rw [show 1 + (1 + a0 % 14) = 2 + a0 % 14 by omega] at hM
  obtain ⟨a, ha⟩ : ∃ q, q = 2 + a0 % 14 := ⟨_, rfl⟩
  obtain ⟨b', hb⟩ : ∃ q, q = 1 + a1 % 16 := ⟨_, rfl⟩
  rw [← ha, ← hb] at hM ⊢
  have ha1 : 1 ≤ a ∧ a ≤ 16 := by omega
  have hb1 : 1 ≤ b' ∧ b' ≤ 16 := by omega
  unfold inhM at hM
  obtain ⟨K0, hK0, hM⟩ := Option.bind_eq_some_iff.1 hM
  obtain ⟨r1, hr1, hM⟩ := Option.bind_eq_some_iff.1 hM
  obtain ⟨r2, hr2, hM⟩ := Option.bind_eq_some_iff.1 hM
  split at hM
  · cases hM
  next hg1 =>
  obtain ⟨g1, g2, g3⟩ := Classical.not_not.1 hg1
  obtain ⟨r3, hr3, hM⟩ := Option.bind_eq_some_iff.1 hM
  obtain ⟨r4, hr4, hM⟩ := Option.bind_eq_some_iff.1 hM
  split at hM
  · cases hM
  next hg2 =>
  obtain ⟨g4, g5, g6⟩ := Classical.not_not.1 hg2
  obtain ⟨r5, hr5, hM⟩ := Option.bind_eq_some_iff.1 hM
  obtain ⟨r6, hr6, hM⟩ := Option.bind_eq_some_iff.1 hM
  obtain ⟨f, hf, hM⟩ := Option.bind_eq_some_iff.1 hM
  split at hM
  · cases hM
  next hg3 =>
  obtain ⟨g7, g8⟩ := Classical.not_not.1 hg3
  have hM := Option.some.inj hM
  simp only [Bool.and_eq_true, decide_eq_true_eq] at hM
  obtain ⟨⟨⟨⟨m1, m2⟩, m3⟩, m4⟩, m5⟩ := hM
  refine al.mk h fun b w2 h => ?_
  refine call18 (a0 := ⟨some ⟨b, 0, none⟩, 2, 2⟩) (tasks_top (l := [a, b']) (slcOf (l := [a, b']) h) (by simp) fun x w2 h => ⟨(((1 : Int), x, nilS, nilS, nilS, nilS, nilS, nilS, (0 : Int), ()), ()), rfl, ?_⟩)
  refine al.mk h fun c w3 h => ?_
  refine st1.mk h (by simp) fun w1 h => st1.mk h (by simp) fun w1 h => st1.mk h (by simp) fun w1 h => st1.mk h (by simp) fun w1 h => st1.mk h (by simp) fun w1 h => st1.mk h (by simp) fun w1 h => st1.mk h (by simp) fun w1 h => st1.mk h (by simp) fun w1 h => st1.mk h (by simp) fun w1 h => ?_
  refine ldS.mk (h.cell rfl) (st_task (i := 1) (x := (b', true)) (c := false) h.p1 rfl fun w4 h => ?_)
  refine al.mk h fun d w5 h => st1.mk h.p2 (by simp) fun w6 h => ?_
  refine ldI.mk (h.cell rfl) (ldS.mk (h.cell rfl) (ldS.mk (h.cell rfl) (ldS.mk (h.cell rfl) (ldS.mk (h.cell rfl) (ldS.mk (h.cell rfl) (ldS.mk (h.cell rfl) (ldS.mk (h.cell rfl) (ldI.mk (h.cell rfl) ?_))))))))
  have h : Ok e (slc 2 x (flat taC [(a, true), (b', false)]) :: slc 2 ⟨some ⟨d, 0, none⟩, 1, 1⟩ (flat kdC [(2, 0)]) :: old e :: L) w6 :=
    (Ok.slcNew (vs := flat kdC [(2, 0)]) (sz := 2) (n := 1) (h.drop : Ok e (pts d (flat kdC [(2, 0)]) :: slc 2 x (flat taC [(a, true), (b', false)]) :: old e :: L) w6) rfl (flat_one kdC_one1)).p1
  refine call19 (a0 := cfV (inhC a b') ⟨x, nilS, nilS, ⟨some ⟨d, 0, none⟩, 1, 1⟩, nilS⟩) (open_top tb (conf_mtxs 1 h) (ok_inh ha1 hb1) hK0 fun k A w3 h => ⟨(some ⟨k, 0, none⟩, ()), rfl, cs.no rfl ?_⟩)
  have h : Ok e (kerP k A K0 :: old e :: L) w3 := (h.emb (by repeat' (first | with_reducible exact Emb.same _ | exact Emb.nil _ | refine Emb.cons (by with_reducible first | exact sl0 | exact .there sl0 | exact .there sl1 | exact .there sl2 | exact .there sl3 | exact .there sl4 | exact .there sl5 | exact .there sl6 | exact .there sl7 | exact .there sl8 | exact .there sl9 | exact .there sl10 | exact .there sl11 | exact .there sl12) ?_ | refine Emb.skip ?_)))
  refine al.mk h fun b1 w4 h => ?_
  refine call20 (a2 := ⟨some ⟨b1, 0, none⟩, 1, 1⟩) (do_top (n := 43) (xs := [1]) (do_43 tb) (slcOf (l := [1]) h) (by simp) hr1 fun w5 h => ⟨(r1.1.1, r1.1.2, ()), rfl, ?_⟩)
  refine al.mk h fun b1 w4 h => ?_
  refine call20 (a2 := ⟨some ⟨b1, 0, none⟩, 1, 1⟩) (do_top (n := 1) (xs := [2]) (do_1 tb) (slcOf (l := [2]) h) (by simp) hr2 fun w5 h => ⟨(r2.1.1, r2.1.2, ()), rfl, ?_⟩)
  refine jn.mk fun J1 hJ1 => cs.no (by simpa using g1) ?_
  refine hJ1 _ _ (jn.mk fun J2 hJ2 => cs.no (by simpa using g2) (call21 (Running_kern h ⟨(r2.2.who, ()), rfl, hJ2 _ _ (cs.no (by simpa using g3) ?_)⟩)))
  clear hJ1 hJ2 J1 J2
  refine al.mk h fun b1 w4 h => ?_
  refine call20 (a2 := ⟨some ⟨b1, 0, none⟩, 1, 1⟩) (do_top (n := 43) (xs := [1]) (do_43 tb) (slcOf (l := [1]) h) (by simp) hr3 fun w5 h => ⟨(r3.1.1, r3.1.2, ()), rfl, ?_⟩)
  refine al.mk h fun b1 w4 h => ?_
  refine call20 (a2 := ⟨some ⟨b1, 0, none⟩, 1, 1⟩) (do_top (n := 7) (xs := [1]) (do_7 tb) (slcOf (l := [1]) h) (by simp) hr4 fun w5 h => ⟨(r4.1.1, r4.1.2, ()), rfl, ?_⟩)
  refine jn.mk fun J1 hJ1 => cs.no (by simpa using g4) (call21 (Running_kern h ⟨(r4.2.who, ()), rfl, hJ1 _ _ (jn.mk fun J2 hJ2 => cs.no (by simpa using g5) (hJ2 _ _ (cs.no (by simpa using g6) ?_)))⟩))
  clear hJ1 J1
  refine al.mk h fun b1 w4 h => ?_
  refine call20 (a2 := ⟨some ⟨b1, 0, none⟩, 1, 1⟩) (do_top (n := 46) (xs := [1]) (do_46 tb) (slcOf (l := [1]) h) (by simp) hr5 fun w5 h => ⟨(r5.1.1, r5.1.2, ()), rfl, ?_⟩)
  refine al.mk h fun b1 w4 h => ?_
  refine call20 (a2 := ⟨some ⟨b1, 0, none⟩, 1, 1⟩) (do_top (n := 7) (xs := [1]) (do_7 tb) (slcOf (l := [1]) h) (by simp) hr6 fun w5 h => ⟨(r6.1.1, r6.1.2, ()), rfl, ?_⟩)
  refine call29 (Mtx_kern (o := (1 : Int)) h ⟨by decide, by omega⟩ (Nat.le_trans g8 (by decide)) fun s w6 hs h => ⟨(r6.2.mm.owner 1, s, (0 : Int), ()), rfl, ?_⟩)
  refine call23 (last_top h.drop hf fun w7 h => ⟨(f.lc, f.lv, ()), rfl, ?_⟩)
  refine jn.mk fun J1 hJ1 => cs.yes (by simpa using m1) (call21 (Running_kern h ⟨(r6.2.who, ()), rfl, hJ1 _ _ (jn.mk fun J2 hJ2 => cs.yes (by simpa using m2) (hJ2 _ _ (jn.mk fun J3 hJ3 => cs.yes (by simpa using m3) (hJ3 _ _ (jn.mk fun J4 hJ4 => cs.yes (by simpa using m4) (hJ4 _ _ ?_))))))⟩))
  have fin := kk w7 h.drop
  have e9 : ((f.lc : Int) == (0 : Int)) = true := by simpa using m5
  dsimp only
  rw [e9]
  exact fin

theorem TopInherits_walk {W a0 a1} (tb : TabE W) (h0 : (Lit.int .u8 a0).wf = true) (h1 : (Lit.int .u8 a1).wf = true) : sh9 a0 a1 (fun vs w' => vs = [.bool true] ∧ Ok W [old W] w') W :=
  inherits_walk tb (Ok.start W) (wf_u8 h0) (wf_u8 h1) fun w' h => ⟨rfl, h⟩

end Go.Proofs.YtenonfkfoedfmaaGreatDoor.B

