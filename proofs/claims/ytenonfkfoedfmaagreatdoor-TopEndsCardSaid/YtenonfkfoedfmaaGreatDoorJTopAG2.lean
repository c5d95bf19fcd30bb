/- Texts of ours, joined: SelfW. -/
import Derived.Test.YtenonfkfoedfmaaGreatDoorJTopA7
import Derived.Test.YtenonfkfoedfmaaGreatDoorJTopAG1
set_option linter.unusedSimpArgs false
set_option linter.unusedVariables false
/- TopSelf. -/
namespace Go.Proofs.YtenonfkfoedfmaaGreatDoor.B
open Go
set_option linter.unusedVariables false

/-- the law, as plain Lean -/
def selfM (q lev : Int) : Option Bool :=
  (KM.new ⟨1, [(q, true)], [], [], [], []⟩).bind fun K0 =>
  (K0.call 1 KM.cTid).bind fun r1 =>
  (r1.2.call 1 (KM.cPri 0)).bind fun r2 =>
  (r2.2.call 0 cIn).bind fun r3 =>
  ((r3.2.intr lev).2.call 0 cIn).bind fun r4 =>
  (r4.2.call 3 KM.cItid).bind fun r5 =>
  (r5.2.call 1 KM.cTid).bind fun r6 =>
  if ¬ (r3.2.pl.lv.length ≤ 100 ∧ r6.2.pl.lv.length ≤ 100) then none else
  some (decide (r1.1.1 = 0) && decide (r1.1.2 = 1) && decide (r2.1.1 = 0) && decide (r2.1.2 = q) && decide (r3.1.2 = 0) && decide ((r3.2.intr lev).1 = 0) && decide (r4.1.2 = 1) && decide (r5.1.1 = 0) && decide (r5.1.2 = 1) && decide (r6.1.1 = -25))

theorem selfM_all : ((List.range 16).all fun q => (List.range 15).all fun l => selfM (1 + (q : Int)) (1 + (l : Int)) == some true) = true := by decide +kernel

theorem selfM_true {q l : Int} (hq : 0 ≤ q ∧ q < 16) (hl : 0 ≤ l ∧ l < 15) : selfM (1 + q) (1 + l) = some true := by
  have h := List.all_eq_true.1 selfM_all q.toNat (List.mem_range.2 (by omega))
  have h2 := List.all_eq_true.1 h l.toNat (List.mem_range.2 (by omega))
  rw [Int.toNat_of_nonneg hq.1, Int.toNat_of_nonneg hl.1] at h2
  simpa using h2

theorem ok_q {q : Int} (hq : 1 ≤ q ∧ q ≤ 16) : (ConfM.ok ⟨1, [(q, true)], [], [], [], []⟩) = true := by
  simp only [ConfM.ok, poolsOk, Bool.and_eq_true, decide_eq_true_eq, List.all_cons, List.all_nil, List.length_cons, List.length_nil]
  refine ⟨⟨⟨⟨⟨by omega, ?_⟩, ?_⟩, ?_⟩, ?_⟩, ?_⟩ <;> first | trivial | exact ⟨hq, trivial⟩

theorem self_walk {e L w a0 a1 R} (tb : TabE e) (h : Ok e (old e :: L) w) (h0 : 0 ≤ a0 ∧ a0 ≤ 255) (h1 : 0 ≤ a1 ∧ a1 ≤ 255) (kk : ∀ w', Ok e (old e :: L) w' → R [.bool true] w') : sh14 a0 a1 R w := by
  unfold sh14
  refine call17 (known_top tb h fun w1 h => ⟨(true, ()), rfl, cs.no rfl ?_⟩)
  obtain ⟨e1, e2, e3⟩ := w64_mod (a := a0) (m := 16) h0.1 (by decide)
  obtain ⟨f1, f2, f3⟩ := w64_mod (a := a1) (m := 15) h1.1 (by decide)
  rw [e1, f1]
  have hM := selfM_true (q := a0 % 16) (l := a1 % 15) ⟨e2, e3⟩ ⟨f2, f3⟩
  obtain ⟨q, hq⟩ : ∃ q, q = 1 + a0 % 16 := ⟨_, rfl⟩
  obtain ⟨lev, hl⟩ : ∃ q, q = 1 + a1 % 15 := ⟨_, rfl⟩
  rw [← hq, ← hl] at hM ⊢
  have hq1 : 1 ≤ q ∧ q ≤ 16 := by omega
  unfold selfM at hM
  obtain ⟨K0, hK0, hM⟩ := Option.bind_eq_some_iff.1 hM
  obtain ⟨r1, hr1, hM⟩ := Option.bind_eq_some_iff.1 hM
  obtain ⟨r2, hr2, hM⟩ := Option.bind_eq_some_iff.1 hM
  obtain ⟨r3, hr3, hM⟩ := Option.bind_eq_some_iff.1 hM
  obtain ⟨r4, hr4, hM⟩ := Option.bind_eq_some_iff.1 hM
  obtain ⟨r5, hr5, hM⟩ := Option.bind_eq_some_iff.1 hM
  obtain ⟨r6, hr6, hM⟩ := Option.bind_eq_some_iff.1 hM
  split at hM
  · cases hM
  next hlv =>
  have hlv := Classical.not_not.1 hlv
  have hM := Option.some.inj hM
  simp only [Bool.and_eq_true, decide_eq_true_eq] at hM
  obtain ⟨⟨⟨⟨⟨⟨⟨⟨⟨m1, m2⟩, m3⟩, m4⟩, m5⟩, m6⟩, m7⟩, m8⟩, m9⟩, m10⟩ := hM
  refine al.mk h fun b w2 h => ?_
  refine call18 (a0 := ⟨some ⟨b, 0, none⟩, 1, 1⟩) (tasks_top (l := [q]) (slcOf (l := [q]) h) (by simp) fun x w2 h => ⟨(((1 : Int), x, nilS, nilS, nilS, nilS, nilS, nilS, (0 : Int), ()), ()), rfl, ?_⟩)
  refine call19 (a0 := cfV ⟨1, [(q, true)], [], [], [], []⟩ ⟨x, nilS, nilS, nilS, nilS⟩) (open_top tb (conf_tasks 1 h) (ok_q hq1) hK0 fun k A w3 h => ⟨(some ⟨k, 0, none⟩, ()), rfl, cs.no rfl ?_⟩)
  have h : Ok e (kerP k A K0 :: old e :: L) w3 := (h.emb (by repeat' (first | with_reducible exact Emb.same _ | exact Emb.nil _ | refine Emb.cons (by with_reducible first | exact sl0 | exact .there sl0 | exact .there sl1 | exact .there sl2 | exact .there sl3 | exact .there sl4 | exact .there sl5 | exact .there sl6 | exact .there sl7 | exact .there sl8 | exact .there sl9 | exact .there sl10 | exact .there sl11 | exact .there sl12) ?_ | refine Emb.skip ?_)))
  refine call20 (a2 := nilS) (do_top (n := 10) (xs := []) (do_10 tb) (h.slcNil 1) (by simp) hr1 fun w5 h => ⟨(r1.1.1, r1.1.2, ()), rfl, ?_⟩)
  refine al.mk h fun b1 w4 h => ?_
  refine call20 (a2 := ⟨some ⟨b1, 0, none⟩, 1, 1⟩) (do_top (n := 7) (xs := [0]) (do_7 tb) (slcOf (l := [0]) h) (by simp) hr2 fun w5 h => ⟨(r2.1.1, r2.1.2, ()), rfl, ?_⟩)
  refine call20 (a2 := nilS) (do_top (n := 61) (xs := []) (do_61 tb) (h.slcNil 1) (by simp) hr3 fun w5 h => ⟨(r3.1.1, r3.1.2, ()), rfl, ?_⟩)
  refine call39 (Int_kern tb h hlv.1 fun w5 h => ⟨((r3.2.intr lev).1, ()), rfl, ?_⟩)
  refine call20 (a2 := nilS) (do_top (n := 61) (xs := []) (do_61 tb) (h.slcNil 1) (by simp) hr4 fun w5 h => ⟨(r4.1.1, r4.1.2, ()), rfl, ?_⟩)
  refine call20 (a2 := nilS) (do_top (n := 11) (xs := []) (do_11 tb) (h.slcNil 1) (by simp) hr5 fun w5 h => ⟨(r5.1.1, r5.1.2, ()), rfl, ?_⟩)
  refine call20 (a2 := nilS) (do_top (n := 10) (xs := []) (do_10 tb) (h.slcNil 1) (by simp) hr6 fun w5 h => ⟨(r6.1.1, r6.1.2, ()), rfl, ?_⟩)
  refine call40 (Ret_kern tb h hlv.2 fun w6 h => ⟨(r6.2.retn.1, ()), rfl, ?_⟩)
  have fin := kk w6 h.drop
  refine jn.mk fun J1 hJ1 => cs.yes (by simpa using m1) (hJ1 _ _ (jn.mk fun J2 hJ2 => cs.yes (by simpa using m2) (hJ2 _ _ (jn.mk fun J3 hJ3 => cs.yes (by simpa using m3) (hJ3 _ _ (jn.mk fun J4 hJ4 => cs.yes (by simpa using m4) (hJ4 _ _ (jn.mk fun J5 hJ5 => cs.yes (by simpa using m5) (hJ5 _ _ (jn.mk fun J6 hJ6 => cs.yes (by simpa using m6) (hJ6 _ _ (jn.mk fun J7 hJ7 => cs.yes (by simpa using m7) (hJ7 _ _ (jn.mk fun J8 hJ8 => cs.yes (by simpa using m8) (hJ8 _ _ (jn.mk fun J9 hJ9 => cs.yes (by simpa using m9) (hJ9 _ _ ?_)))))))))))))))))
  have e9 : ((r6.1.1 : Int) == ((-25) : Int)) = true := by simpa using m10
  dsimp only
  rw [e9]
  exact fin

theorem TopSelf_walk {W a0 a1} (tb : TabE W) (h0 : (Lit.int .u8 a0).wf = true) (h1 : (Lit.int .u8 a1).wf = true) : sh14 a0 a1 (fun vs w' => vs = [.bool true] ∧ Ok W [old W] w') W :=
  self_walk tb (Ok.start W) (wf_u8 h0) (wf_u8 h1) fun w' h => ⟨rfl, h⟩

end Go.Proofs.YtenonfkfoedfmaaGreatDoor.B

