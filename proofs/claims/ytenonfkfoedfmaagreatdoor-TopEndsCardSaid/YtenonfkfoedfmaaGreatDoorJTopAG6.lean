/- Texts of ours, joined: Grp5, EndW. -/
import Derived.Test.YtenonfkfoedfmaaGreatDoorJTopA7
import Derived.Test.YtenonfkfoedfmaaGreatDoorJTopAG1
import Derived.Test.YtenonfkfoedfmaaGreatDoorJTopAG2
import Derived.Test.YtenonfkfoedfmaaGreatDoorJTopAG3
set_option linter.unusedSimpArgs false
set_option linter.unusedVariables false
/- A task's priority is changed. -/
namespace Go.Proofs.YtenonfkfoedfmaaGreatDoor.B
open Go
set_option linter.unusedVariables false

def chgM (n pri : Int) (K : KM) : Option ((Int × Int) × KM) := (K.un n).bind fun u =>
  if pri < 0 ∨ pri > 16 then some ((-17, 0), K)
  else if u.state = 16 then some ((-41, 0), K)
  else (K.mm.setBase n (if pri = 0 then u.base else pri)).bind fun b =>
    if b.1 ≠ 0 then some ((b.1, 0), { K with mm := b.2 })
    else (({ K with mm := b.2 } : KM).settle).bind fun K => (K.mm.pri n).map fun p => ((0, 0), { K with rdy := (chgL true K.rdy n p).2 })

theorem change_kern {e w L k A K n pri r R} (h : Ok e (kerP k A K :: L) w) (hm : chgM n pri K = some r) (kk : ∀ w', Ok e (kerP k A r.2 :: L) w' → R [.int .i64 r.1.1] w') : sh139 (some ⟨k, 0, none⟩) n pri R w := by
  obtain ⟨u, hu, hm⟩ := Option.bind_eq_some_iff.1 hm
  unfold sh139
  refine jn.bool (decide (pri < 0 ∨ pri > 16)) (fun J hJ => cs.mk (fun hc => ?_) (fun hc => ?_)) (cs.mk (fun hc => ?_) (fun hc => ?_))
  · have hc := of_decide_eq_true hc
    rw [decide_eq_true (.inl hc)] at hJ; exact hJ
  · have hc := of_decide_eq_false hc
    rw [show decide (pri < 0 ∨ pri > 16) = decide (pri > 16) from decide_eq_decide.2 (by omega)] at hJ; exact hJ
  · rw [if_pos (of_decide_eq_true hc)] at hm
    cases hm
    exact kk w h
  rw [if_neg (of_decide_eq_false hc)] at hm
  obtain ⟨t, H, ho, h, back, read⟩ := ker_un h hu
  have fin : ∀ w' L', Ok e (pts k (kC A K) :: pts (A.ub (n - 1).toNat) (unC t u) :: pts t (tcC u) :: H :: kR A K L') w' → Ok e (kerP k A K :: L') w' := fun w' L' h => by
    have h := back K u e _ w' ho rfl h
    rwa [setU_same hu] at h
  refine nn.mk (ldS.mk (h.cell rfl) (read e _ w _ ((Ok.emb (h) (.cons (A := H) (by with_reducible first | exact sl0 | exact .there sl0 | exact .there sl1 | exact .there sl2 | exact .there sl3 | exact .there sl4 | exact .there sl5 | exact .there sl6 | exact .there sl7 | exact .there sl8 | exact .there sl9 | exact .there sl10 | exact .there sl11 | exact .there sl12) (.same _)))) fun b2 o2 hc => ldP.mk hc (nn.mk (ldP.mk (h.p1.cell rfl) ?_))))
  refine is_step (u := u) (x := 16) ((Ok.emb (h) (.cons (A := pts t (tcC u)) (by with_reducible first | exact sl0 | exact .there sl0 | exact .there sl1 | exact .there sl2 | exact .there sl3 | exact .there sl4 | exact .there sl5 | exact .there sl6 | exact .there sl7 | exact .there sl8 | exact .there sl9 | exact .there sl10 | exact .there sl11 | exact .there sl12) (.same _)))) fun w1 h1 => cs.mk (fun hc => ?_) (fun hc => ?_)
  · have hc : (16 : Int) = u.state := by simpa using hc
    rw [if_pos hc.symm] at hm
    cases hm
    exact kk w1 (fin w1 _ (Ok.emb (h1) (by repeat' (first | with_reducible exact Emb.same _ | exact Emb.nil _ | refine Emb.cons (by with_reducible first | exact sl0 | exact .there sl0 | exact .there sl1 | exact .there sl2 | exact .there sl3 | exact .there sl4 | exact .there sl5 | exact .there sl6 | exact .there sl7 | exact .there sl8 | exact .there sl9 | exact .there sl10 | exact .there sl11 | exact .there sl12) ?_ | refine Emb.skip ?_))))
  have hc : ¬ (16 : Int) = u.state := by simpa using hc
  rw [if_neg (fun hx => hc hx.symm)] at hm
  obtain ⟨q, hq⟩ : ∃ q : Int, q = if pri = 0 then u.base else pri := ⟨_, rfl⟩
  rw [← hq] at hm
  obtain ⟨b, hb, hm⟩ := Option.bind_eq_some_iff.1 hm
  have h : Ok e (pts k (kC A K) :: pts (A.ub (n - 1).toNat) (unC t u) :: pts t (tcC u) :: H :: kR A K L) w1 := (Ok.emb (h1) (by repeat' (first | with_reducible exact Emb.same _ | exact Emb.nil _ | refine Emb.cons (by with_reducible first | exact sl0 | exact .there sl0 | exact .there sl1 | exact .there sl2 | exact .there sl3 | exact .there sl4 | exact .there sl5 | exact .there sl6 | exact .there sl7 | exact .there sl8 | exact .there sl9 | exact .there sl10 | exact .there sl11 | exact .there sl12) ?_ | refine Emb.skip ?_)))
  refine jn.at (t := (q, ())) (fun w => Ok e (pts k (kC A K) :: pts (A.ub (n - 1).toNat) (unC t u) :: pts t (tcC u) :: H :: kR A K L) w) (fun J hJ => cs.mk (fun h3 => ?_) (fun h3 => ?_)) (fun w2 h => ?_)
  · have h3 : pri = 0 := by simpa using h3
    have hq2 : q = u.base := by rw [hq, if_pos h3]
    rw [hq2] at hJ
    exact nn.mk (ldS.mk (h.cell rfl) (read e _ w1 _ ((Ok.emb (h) (.cons (A := H) (by with_reducible first | exact sl0 | exact .there sl0 | exact .there sl1 | exact .there sl2 | exact .there sl3 | exact .there sl4 | exact .there sl5 | exact .there sl6 | exact .there sl7 | exact .there sl8 | exact .there sl9 | exact .there sl10 | exact .there sl11 | exact .there sl12) (.same _)))) fun b2 o2 hc => ldP.mk hc (nn.mk (ldI.mk (h.p1.cell rfl) (hJ w1 h)))))
  · have h3 : ¬ pri = 0 := by simpa using h3
    have hq2 : q = pri := by rw [hq, if_neg h3]
    rw [hq2] at hJ
    exact hJ w1 h
  refine nn.mk (ldP.mk (h.cell rfl) ?_)
  have hml := setBase_len hb
  refine call31 (SetBase_mtx ((Ok.emb (h) (.cons (A := mmP A.lk K.mm) (by with_reducible first | exact sl0 | exact .there sl0 | exact .there sl1 | exact .there sl2 | exact .there sl3 | exact .there sl4 | exact .there sl5 | exact .there sl6 | exact .there sl7 | exact .there sl8 | exact .there sl9 | exact .there sl10 | exact .there sl11 | exact .there sl12) (.same _)))) hb fun w3 h => ⟨(b.1, ()), rfl, ?_⟩)
  have h : Ok e (pts k (kC A { K with mm := b.2 }) :: pts (A.ub (n - 1).toNat) (unC t u) :: pts t (tcC u) :: H :: kR A { K with mm := b.2 } L) w3 := by
    have h : Ok e (pts k (kC A K) :: pts (A.ub (n - 1).toNat) (unC t u) :: pts t (tcC u) :: H :: kR A { K with mm := b.2 } L) w3 := (h.emb (by repeat' (first | with_reducible exact Emb.same _ | exact Emb.nil _ | refine Emb.cons (by with_reducible first | exact sl0 | exact .there sl0 | exact .there sl1 | exact .there sl2 | exact .there sl3 | exact .there sl4 | exact .there sl5 | exact .there sl6 | exact .there sl7 | exact .there sl8 | exact .there sl9 | exact .there sl10 | exact .there sl11 | exact .there sl12) ?_ | refine Emb.skip ?_)))
    unfold kC at h ⊢
    rw [← hml] at h
    exact h
  have h := back { K with mm := b.2 } u e L w3 ⟨ho.t0, ho.t1, ho.us, ho.sems, ho.datas, ho.pools⟩ rfl h
  rw [setU_same (K := { K with mm := b.2 }) hu] at h
  refine cs.mk (fun h3 => ?_) (fun h3 => ?_)
  · have h3 : b.1 ≠ 0 := by simpa using h3
    rw [if_pos h3] at hm
    cases hm
    exact kk w3 h
  have h3 : ¬ b.1 ≠ 0 := by simpa using h3
  rw [if_neg h3] at hm
  obtain ⟨K1, hK1, hm⟩ := Option.bind_eq_some_iff.1 hm
  obtain ⟨p, hp, rfl⟩ := Option.map_eq_some_iff.1 hm
  refine call56 (settle_kern h hK1 fun w4 h => ⟨(), rfl, dr.mk h fun w5 h => ?_⟩)
  obtain ⟨ho, h⟩ := kerE h
  refine nn.mk (ldP.mk (h.cell rfl) (nn.mk (ldP.mk (h.cell rfl) ?_)))
  refine call35 (Pri_mtx ((Ok.emb (h) (.cons (A := mmP A.lk K1.mm) (by with_reducible first | exact sl0 | exact .there sl0 | exact .there sl1 | exact .there sl2 | exact .there sl3 | exact .there sl4 | exact .there sl5 | exact .there sl6 | exact .there sl7 | exact .there sl8 | exact .there sl9 | exact .there sl10 | exact .there sl11 | exact .there sl12) (.same _)))) hp ⟨(p, ()), rfl, h.cell rfl, ?_⟩)
  refine call117 (Change_ready (p := p) ((Ok.emb (h) (.cons (A := rdyP A.rq K1.rdy) (by with_reducible first | exact sl0 | exact .there sl0 | exact .there sl1 | exact .there sl2 | exact .there sl3 | exact .there sl4 | exact .there sl5 | exact .there sl6 | exact .there sl7 | exact .there sl8 | exact .there sl9 | exact .there sl10 | exact .there sl11 | exact .there sl12) (.same _)))) fun w6 h => ⟨((chgL true K1.rdy n p).1, ()), rfl, kk w6 ?_⟩)
  exact kerI (A := A) (K := { K1 with rdy := (chgL true K1.rdy n p).2 }) ⟨ho.t0, ho.t1, ho.us, ho.sems, ho.datas, ho.pools⟩ (h.emb (by repeat' (first | with_reducible exact Emb.same _ | exact Emb.nil _ | refine Emb.cons (by with_reducible first | exact sl0 | exact .there sl0 | exact .there sl1 | exact .there sl2 | exact .there sl3 | exact .there sl4 | exact .there sl5 | exact .there sl6 | exact .there sl7 | exact .there sl8 | exact .there sl9 | exact .there sl10 | exact .there sl11 | exact .there sl12) ?_ | refine Emb.skip ?_)))

end Go.Proofs.YtenonfkfoedfmaaGreatDoor.B


/- TopEnds. -/
namespace Go.Proofs.YtenonfkfoedfmaaGreatDoor.B
open Go
set_option linter.unusedVariables false

theorem chgM_val {n pri : Int} {K : KM} {r} (h : chgM n pri K = some r) : r.1.2 = 0 := by
  obtain ⟨u, -, h⟩ := Option.bind_eq_some_iff.1 h
  split at h
  · cases h; rfl
  split at h
  · cases h; rfl
  obtain ⟨b, -, h⟩ := Option.bind_eq_some_iff.1 h
  split at h
  · cases h; rfl
  obtain ⟨K1, -, h⟩ := Option.bind_eq_some_iff.1 h
  obtain ⟨p, -, rfl⟩ := Option.map_eq_some_iff.1 h
  rfl

theorem tasks_6 {e k A K r x0 x1 x2 x3} (hm : KM.cChg x0 x1 K = some r) : GrpC e k A K r (sh79 (some ⟨k, 0, none⟩) (((6 : Nat) : Int), x0, x1, x2, x3, ())) := by
  intro L w R h kk
  unfold KM.cChg KM.byTask at hm
  refine tasks_pre h (n := 6) rfl (by decide) (by decide) (by decide) (by decide) (fun hz w' h => ?_) (fun hz b d w' h => ?_)
  · rw [if_pos (show K.named x0 true = 0 from hz)] at hm
    cases hm
    exact kk w' h
  · rw [if_neg (show ¬ K.named x0 true = 0 from hz)] at hm
    have hv : nmd K 6 1 x0 = K.named x0 true := rfl
    rw [hv]
    generalize K.named x0 true = v at hm
    have hm : chgM v x1 K = some r := hm
    unfold tasksR
    refine ldI.mk (h.p1.cell rfl) ?_
    (repeat (first | ((with_reducible refine cs.yes ?_ ?_); · rfl) | ((with_reducible refine cs.no ?_ ?_); · rfl) | refine jn.mk fun J hJ => ?_ | with_reducible apply_assumption -exfalso -symm))
    refine ⟨by decide, by decide, ldI.mk (h.p1.cell rfl) ?_⟩
    refine call139 (change_kern h.p2 hm fun w3 h => ⟨(r.1.1, ()), rfl, ?_⟩)
    refine fin_code h.p1 fun w4 h => ?_
    have := kk w4 h.p1.drop
    rw [chgM_val hm] at this
    exact this

theorem do_6 {e} (tb : TabE e) : DoC e 6 1 KM.cChg := by
  intro k A K r L w x0 x1 x2 x3 R h hm kk
  exact Do_kern (n := 6) tb rfl (by decide) h hm (fun r hr => .inl ⟨by decide, tasks_6 hr⟩) kk

def endC : ConfM := ⟨1, [(3, true), (8, true)], [], [], [(0, 0)], []⟩

/-- the law, as plain Lean -/
def endM (b : Int) : Option Bool :=
  (KM.new endC).bind fun K0 =>
  (K0.call 2 (KM.cLoc 1)).bind fun r1 =>
  (r1.2.call 2 (KM.cDly 0)).bind fun r2 =>
  (r2.2.call 2 (KM.cLoc 1)).bind fun r3 =>
  if ¬ (r3.1.1 = 1 ∧ r3.2.who = 0) then none else
  r3.2.tick.bind fun K4 =>
  if ¬ (K4.who = 1) then none else
  (K4.call 1 (KM.cChg 0 b)).bind fun r5 =>
  (r5.2.call 4 KM.cExt).bind fun r6 =>
  (r6.2.task 1).bind fun f => (r6.2.task 2).bind fun g =>
  if ¬ (1 < r6.2.mm.m.length ∧ (r6.2.mm.waiting 1).length = 0) then none else
  some (decide (r6.1.1 = 0) && decide (r6.2.mm.owner 1 = 2) && decide (f.state = 16) && decide (f.pri = 3) && decide (f.base = 3) && decide (g.lc = 0) && decide (r6.2.who = 2))

theorem endM_all : ((List.range 16).all fun b => endM (1 + (b : Int)) == some true) = true := by decide +kernel

theorem endM_true {b : Int} (hb : 0 ≤ b ∧ b < 16) : endM (1 + b) = some true := by
  have h := List.all_eq_true.1 endM_all b.toNat (List.mem_range.2 (by omega))
  rw [Int.toNat_of_nonneg hb.1] at h
  simpa using h

theorem ends_walk {e L w a0 R} (tb : TabE e) (h : Ok e (old e :: L) w) (h0 : 0 ≤ a0 ∧ a0 ≤ 255) (kk : ∀ w', Ok e (old e :: L) w' → R [.bool true] w') : sh10 a0 R w := by
  unfold sh10
  refine call17 (known_top tb h fun w1 h => ⟨(true, ()), rfl, cs.no rfl ?_⟩)
  obtain ⟨e1, e2, e3⟩ := w64_mod (a := a0) (m := 16) h0.1 (by decide)
  rw [e1]
  have hM := endM_true ⟨e2, e3⟩
  generalize 1 + a0 % 16 = q at hM ⊢
  unfold endM at hM
  obtain ⟨K0, hK0, hM⟩ := Option.bind_eq_some_iff.1 hM
  obtain ⟨r1, hr1, hM⟩ := Option.bind_eq_some_iff.1 hM
  obtain ⟨r2, hr2, hM⟩ := Option.bind_eq_some_iff.1 hM
  obtain ⟨r3, hr3, hM⟩ := Option.bind_eq_some_iff.1 hM
  split at hM
  · cases hM
  next hg1 =>
  obtain ⟨g1, g2⟩ := Classical.not_not.1 hg1
  obtain ⟨K4, hK4, hM⟩ := Option.bind_eq_some_iff.1 hM
  split at hM
  · cases hM
  next hg2 =>
  have g3 := Classical.not_not.1 hg2
  obtain ⟨r5, hr5, hM⟩ := Option.bind_eq_some_iff.1 hM
  obtain ⟨r6, hr6, hM⟩ := Option.bind_eq_some_iff.1 hM
  obtain ⟨f, hf, hM⟩ := Option.bind_eq_some_iff.1 hM
  obtain ⟨g, hg, hM⟩ := Option.bind_eq_some_iff.1 hM
  split at hM
  · cases hM
  next hg3 =>
  obtain ⟨g7, g8⟩ := Classical.not_not.1 hg3
  have hM := Option.some.inj hM
  simp only [Bool.and_eq_true, decide_eq_true_eq] at hM
  obtain ⟨⟨⟨⟨⟨⟨m1, m2⟩, m3⟩, m4⟩, m5⟩, m6⟩, m7⟩ := hM
  refine al.mk h fun b w2 h => ?_
  refine call18 (a0 := ⟨some ⟨b, 0, none⟩, 2, 2⟩) (tasks_top (l := [3, 8]) (slcOf (l := [3, 8]) h) (by simp) fun x w2 h => ⟨(((1 : Int), x, nilS, nilS, nilS, nilS, nilS, nilS, (0 : Int), ()), ()), rfl, ?_⟩)
  refine al.mk h fun c w3 h => ?_
  refine st1.mk h (by simp) fun w1 h => st1.mk h (by simp) fun w1 h => st1.mk h (by simp) fun w1 h => st1.mk h (by simp) fun w1 h => st1.mk h (by simp) fun w1 h => st1.mk h (by simp) fun w1 h => st1.mk h (by simp) fun w1 h => st1.mk h (by simp) fun w1 h => st1.mk h (by simp) fun w1 h => ?_
  refine al.mk h fun d w5 h => st1.mk h.p1 (by simp) fun w6 h => ?_
  refine ldI.mk (h.cell rfl) (ldS.mk (h.cell rfl) (ldS.mk (h.cell rfl) (ldS.mk (h.cell rfl) (ldS.mk (h.cell rfl) (ldS.mk (h.cell rfl) (ldS.mk (h.cell rfl) (ldS.mk (h.cell rfl) (ldI.mk (h.cell rfl) ?_))))))))
  have h : Ok e (slc 2 x (flat taC [(3, true), (8, true)]) :: slc 2 ⟨some ⟨d, 0, none⟩, 1, 1⟩ (flat kdC [(0, 0)]) :: old e :: L) w6 :=
    (Ok.slcNew (vs := flat kdC [(0, 0)]) (sz := 2) (n := 1) (h.drop : Ok e (pts d (flat kdC [(0, 0)]) :: slc 2 x (flat taC [(3, true), (8, true)]) :: old e :: L) w6) rfl (flat_one kdC_one1)).p1
  refine call19 (a0 := cfV endC ⟨x, nilS, nilS, ⟨some ⟨d, 0, none⟩, 1, 1⟩, nilS⟩) (open_top tb (conf_mtxs 1 h) (by decide) hK0 fun k A w3 h => ⟨(some ⟨k, 0, none⟩, ()), rfl, cs.no rfl ?_⟩)
  have h : Ok e (kerP k A K0 :: old e :: L) w3 := (h.emb (by repeat' (first | with_reducible exact Emb.same _ | exact Emb.nil _ | refine Emb.cons (by with_reducible first | exact sl0 | exact .there sl0 | exact .there sl1 | exact .there sl2 | exact .there sl3 | exact .there sl4 | exact .there sl5 | exact .there sl6 | exact .there sl7 | exact .there sl8 | exact .there sl9 | exact .there sl10 | exact .there sl11 | exact .there sl12) ?_ | refine Emb.skip ?_)))
  refine al.mk h fun b1 w4 h => ?_
  refine call20 (a2 := ⟨some ⟨b1, 0, none⟩, 1, 1⟩) (do_top (n := 43) (xs := [1]) (do_43 tb) (slcOf (l := [1]) h) (by simp) hr1 fun w5 h => ⟨(r1.1.1, r1.1.2, ()), rfl, ?_⟩)
  refine al.mk h fun b1 w4 h => ?_
  refine call20 (a2 := ⟨some ⟨b1, 0, none⟩, 1, 1⟩) (do_top (n := 22) (xs := [0]) (do_22 tb) (slcOf (l := [0]) h) (by simp) hr2 fun w5 h => ⟨(r2.1.1, r2.1.2, ()), rfl, ?_⟩)
  refine al.mk h fun b1 w4 h => ?_
  refine call20 (a2 := ⟨some ⟨b1, 0, none⟩, 1, 1⟩) (do_top (n := 43) (xs := [1]) (do_43 tb) (slcOf (l := [1]) h) (by simp) hr3 fun w5 h => ⟨(r3.1.1, r3.1.2, ()), rfl, ?_⟩)
  refine jn.mk fun J1 hJ1 => cs.no (by simpa using g1) (call21 (Running_kern h ⟨(r3.2.who, ()), rfl, hJ1 _ _ (cs.no (by simpa using g2) ?_)⟩))
  clear hJ1 J1
  refine call22 (Tick_kern tb h hK4 fun w6 h => ⟨(nilS, ()), rfl, ?_⟩)
  refine call21 (Running_kern h ⟨(K4.who, ()), rfl, cs.no (by simpa using g3) ?_⟩)
  refine al.mk h fun b1 w4 h => ?_
  refine call20 (a2 := ⟨some ⟨b1, 0, none⟩, 2, 2⟩) (do_top (n := 6) (xs := [0, q]) (do_6 tb) (slcOf (l := [0, q]) h) (by simp) hr5 fun w5 h => ⟨(r5.1.1, r5.1.2, ()), rfl, ?_⟩)
  refine call20 (a2 := nilS) (do_top (n := 4) (xs := []) (do_4 tb) (h.slcNil 1) (by simp) hr6 fun w5 h => ⟨(r6.1.1, r6.1.2, ()), rfl, ?_⟩)
  refine call29 (Mtx_kern (o := (1 : Int)) h ⟨by decide, by omega⟩ (by rw [g8]; decide) fun s w6 hs h => ⟨(r6.2.mm.owner 1, s, (0 : Int), ()), rfl, ?_⟩)
  refine call24 (Task_kern h.drop hf fun w1 h => ⟨((f.state, f.pri, f.base, (0 : Int), f.kind, f.obj, f.lc, f.lv, ()), (f.acts, f.wups, f.susps, ()), (0 : Int), ()), rfl, ?_⟩)
  refine al.mk h fun b2 w1 h => al.mk h fun d2 w1 h => ?_
  have h := h.p1
  refine st1.mk h (by simp) fun w1 h => st1.mk h (by simp) fun w1 h => st1.mk h (by simp) fun w1 h => st1.mk h (by simp) fun w1 h => st1.mk h (by simp) fun w1 h => st1.mk h (by simp) fun w1 h => st1.mk h (by simp) fun w1 h => st1.mk h (by simp) fun w1 h => ?_
  refine st1.mk h.p1 (by simp) fun w1 h => st1.mk h (by simp) fun w1 h => st1.mk h (by simp) fun w1 h => ?_
  have h := h.p1
  have h : Ok e (kerP k A r6.2 :: pts b2 [.int .i64 f.state, .int .i64 f.pri, .int .i64 f.base, .int .i64 0, .int .i64 f.kind, .int .i64 f.obj, .int .i64 f.lc, .int .i64 f.lv] :: old e :: L) w1 := by
    have h2 := h.p1.drop.p1
    exact h2
  refine call23 (last_top h hg fun w7 h => ⟨(g.lc, g.lv, ()), rfl, ?_⟩)
  have hsl : ((s.len : Int) == (0 : Int)) = true := by rw [hs, g8]; rfl
  refine jn.mk fun J1 hJ1 => cs.yes (by simpa using m1) (hJ1 _ _ ?_)
  refine jn.mk fun J2 hJ2 => cs.yes (by simpa using m2) (hJ2 _ _ ?_)
  refine jn.mk fun J3 hJ3 => cs.yes hsl (ldI.mk (h.p1.cell rfl) (hJ3 _ _ ?_))
  refine jn.mk fun J4 hJ4 => cs.yes (by simpa using m3) (ldI.mk (h.p1.cell rfl) (hJ4 _ _ ?_))
  refine jn.mk fun J5 hJ5 => cs.yes (by simpa using m4) (ldI.mk (h.p1.cell rfl) (hJ5 _ _ ?_))
  refine jn.mk fun J6 hJ6 => cs.yes (by simpa using m5) (hJ6 _ _ ?_)
  refine jn.mk fun J7 hJ7 => cs.yes (by simpa using m6) ?_
  refine call21 (Running_kern h ⟨(r6.2.who, ()), rfl, hJ7 _ _ ?_⟩)
  have fin := kk w7 h.drop.drop
  have e9 : ((r6.2.who : Int) == (2 : Int)) = true := by simpa using m7
  dsimp only
  rw [e9]
  exact fin

theorem TopEnds_walk {W a0} (tb : TabE W) (h0 : (Lit.int .u8 a0).wf = true) : sh10 a0 (fun vs w' => vs = [.bool true] ∧ Ok W [old W] w') W :=
  ends_walk tb (Ok.start W) (wf_u8 h0) fun w' h => ⟨rfl, h⟩

end Go.Proofs.YtenonfkfoedfmaaGreatDoor.B

