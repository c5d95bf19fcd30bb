/- Texts of ours, joined: Kil, Grp14, KilW. -/
import Derived.Test.YtenonfkfoedfmaaGreatDoorJTopA7
import Derived.Test.YtenonfkfoedfmaaGreatDoorJTopAG1
import Derived.Test.YtenonfkfoedfmaaGreatDoorJTopAG2
import Derived.Test.YtenonfkfoedfmaaGreatDoorJTopAG3
import Derived.Test.YtenonfkfoedfmaaGreatDoorJTopAG4
set_option linter.unusedSimpArgs false
set_option linter.unusedVariables false
/- TopKills: the plain law. -/
namespace Go.Proofs.YtenonfkfoedfmaaGreatDoor.B
open Go
set_option linter.unusedVariables false

namespace Kil

def cf : ConfM := ⟨1, [(5, true), (1, false)], [], [], [], []⟩

def mm : MM := ⟨[⟨0, 0, 0, []⟩], [MM.mt0, ⟨5, 5, 0⟩, ⟨1, 1, 0⟩] ++ List.replicate 14 MM.mt0⟩

def u1 : Un := ⟨0, 0, 0, 2, false, 5, 5, 0, 0, 0, 0, 0⟩

/-- the second task is Dormant; so many ticks went by -/
def KE (up last : Int) : KM := ⟨⟨[], false, false⟩, 1, up, 0, last, [], [(1, 5)], mm, [u1, ⟨0, 0, 0, 16, false, 1, 1, 0, 0, 0, 0, 0⟩], [], [], [], 1⟩

/-- it runs -/
def KR : KM := ⟨⟨[], false, false⟩, 1, 0, 0, 0, [], [(2, 1), (1, 5)], mm, [u1, ⟨0, 0, 0, 2, false, 1, 1, 0, 0, 0, 0, 0⟩], [], [], [], 2⟩

/-- it sleeps, waits for a time, is suspended -/
def KS : KM := ⟨⟨[], false, false⟩, 1, 0, 0, 0, [], [(1, 5)], mm, [u1, ⟨0, 0, 0, 4, true, 1, 1, 1, 0, 0, 0, 0⟩], [], [], [], 1⟩

def KW : KM := ⟨⟨[], false, false⟩, 1, 0, 0, 1, [⟨51, 1, 2⟩], [(1, 5)], mm, [u1, ⟨0, 0, 0, 4, false, 1, 1, 2, 0, 1, 0, 0⟩], [], [], [], 1⟩

def KU : KM := ⟨⟨[], false, false⟩, 1, 0, 0, 0, [], [(1, 5)], mm, [u1, ⟨0, 0, 1, 8, false, 1, 1, 0, 0, 0, 0, 0⟩], [], [], [], 1⟩

theorem start : KM.new cf = some (KE 0 0) := by kernel_rfl

theorem ter2 (up last : Int) : (KE up last).call 1 (KM.cTer 2) = some ((-41, 0), KE up last) := by kernel_rfl

theorem ter1 : (KE 0 0).call 1 (KM.cTer 1) = some ((-28, 0), KE 0 0) := by kernel_rfl

theorem ter0 : (KE 0 0).call 1 (KM.cTer 0) = some ((-18, 0), KE 0 0) := by kernel_rfl

theorem act : (KE 0 0).call 1 (KM.cAct 2) = some ((0, 0), KR) := by kernel_rfl

theorem slp : KR.call 2 KM.cSlp = some ((1, 0), KS) := by kernel_rfl

theorem dly : KR.call 2 (KM.cDly 50) = some ((1, 0), KW) := by kernel_rfl

theorem sus : KR.call 1 (KM.cSus 0) = some ((0, 0), KU) := by kernel_rfl

theorem terS : KS.call 1 (KM.cTer 2) = some ((0, 0), KE 0 0) := by kernel_rfl

theorem terW : KW.call 1 (KM.cTer 2) = some ((0, 0), KE 0 1) := by kernel_rfl

theorem terU : KU.call 1 (KM.cTer 2) = some ((0, 0), KE 0 0) := by kernel_rfl

theorem task (up last : Int) : (KE up last).task 2 = some ⟨16, 1, 1, 0, 0, 0, 0, 0, 0, 0⟩ := rfl

theorem tick {up last : Int} (h : 0 ≤ up ∧ up ≤ 1000) : (KE up last).tick = some (KE (up + 1) last) := by
  rw [tick_of (K := KE up last) ⟨h.1, by show up ≤ 2 ^ 40; omega⟩]
  rfl

end Kil

end Go.Proofs.YtenonfkfoedfmaaGreatDoor.B


/- Calls 5 and 19: a task is ended by another one, is suspended. -/
namespace Go.Proofs.YtenonfkfoedfmaaGreatDoor.B
open Go
set_option linter.unusedVariables false

theorem one_5 {e k A K v u r x0 x1 x2 x3} (hu : K.un v = some u) (hm : (if v = K.who then some ((-28, 0), K) else if u.state = 16 then some ((-41, 0), K) else (K.over v).map fun K => ((0, 0), K)) = some r) :
    OneC e k A K v r fun a => sh140 (some ⟨k, 0, none⟩) (((5 : Nat) : Int), x0, x1, x2, x3, ()) v a := by
  intro L w R t h hc kk
  obtain ⟨H, ho, h, back⟩ := open_t h hu hc
  have fin : ∀ w' L', Ok e (pts k (kC A K) :: pts (A.ub (v - 1).toNat) (unC t u) :: pts t (tcC u) :: H :: kR A K L') w' → Ok e (kerP k A K :: L') w' := fun w' L' h => by
    have h := back K u e _ w' ho rfl h
    rwa [setU_same hu] at h
  unfold sh140
  refine al.mk h fun b5 w3 h => al.mk h fun d5 w4 h => ldI.mk (h.p1.cell rfl) ?_
  (repeat (first | ((with_reducible refine cs.yes ?_ ?_); · rfl) | ((with_reducible refine cs.no ?_ ?_); · rfl) | refine jn.mk fun J hJ => ?_ | with_reducible apply_assumption -exfalso -symm))
  have h := (Ok.emb (h) (.cons (A := pts k (kC A K)) (by with_reducible first | exact sl0 | exact .there sl0 | exact .there sl1 | exact .there sl2 | exact .there sl3 | exact .there sl4 | exact .there sl5 | exact .there sl6 | exact .there sl7 | exact .there sl8 | exact .there sl9 | exact .there sl10 | exact .there sl11 | exact .there sl12) (.same _)))
  refine nn.mk (ldI.mk (h.cell rfl) (cs.mk (fun hw => ?_) (fun hw => ?_)))
  · have hw : v = K.who := by simpa using hw
    rw [if_pos hw] at hm
    cases hm
    exact fin_code ((Ok.emb (h) (.cons (A := pts d5 [.int .i64 0, .int .i64 0]) (by with_reducible first | exact sl0 | exact .there sl0 | exact .there sl1 | exact .there sl2 | exact .there sl3 | exact .there sl4 | exact .there sl5 | exact .there sl6 | exact .there sl7 | exact .there sl8 | exact .there sl9 | exact .there sl10 | exact .there sl11 | exact .there sl12) (.same _)))) fun w6 h => kk w6 (fin w6 _ (h.emb (by repeat' (first | with_reducible exact Emb.same _ | exact Emb.nil _ | refine Emb.cons (by with_reducible first | exact sl0 | exact .there sl0 | exact .there sl1 | exact .there sl2 | exact .there sl3 | exact .there sl4 | exact .there sl5 | exact .there sl6 | exact .there sl7 | exact .there sl8 | exact .there sl9 | exact .there sl10 | exact .there sl11 | exact .there sl12) ?_ | refine Emb.skip ?_))))
  have hw : ¬ v = K.who := by simpa using hw
  rw [if_neg hw] at hm
  refine is_step (u := u) (x := 16) ((Ok.emb (h) (.cons (A := pts t (tcC u)) (by with_reducible first | exact sl0 | exact .there sl0 | exact .there sl1 | exact .there sl2 | exact .there sl3 | exact .there sl4 | exact .there sl5 | exact .there sl6 | exact .there sl7 | exact .there sl8 | exact .there sl9 | exact .there sl10 | exact .there sl11 | exact .there sl12) (.same _)))) fun w5 h1 => cs.mk (fun hc => ?_) (fun hc => ?_)
  · have hc : (16 : Int) = u.state := by simpa using hc
    rw [if_pos hc.symm] at hm
    cases hm
    exact fin_code ((Ok.emb (h1) (.cons (A := pts d5 [.int .i64 0, .int .i64 0]) (by with_reducible first | exact sl0 | exact .there sl0 | exact .there sl1 | exact .there sl2 | exact .there sl3 | exact .there sl4 | exact .there sl5 | exact .there sl6 | exact .there sl7 | exact .there sl8 | exact .there sl9 | exact .there sl10 | exact .there sl11 | exact .there sl12) (.same _)))) fun w6 h => kk w6 (fin w6 _ (h.emb (by repeat' (first | with_reducible exact Emb.same _ | exact Emb.nil _ | refine Emb.cons (by with_reducible first | exact sl0 | exact .there sl0 | exact .there sl1 | exact .there sl2 | exact .there sl3 | exact .there sl4 | exact .there sl5 | exact .there sl6 | exact .there sl7 | exact .there sl8 | exact .there sl9 | exact .there sl10 | exact .there sl11 | exact .there sl12) ?_ | refine Emb.skip ?_))))
  · have hc : ¬ (16 : Int) = u.state := by simpa using hc
    rw [if_neg (fun hx => hc hx.symm)] at hm
    obtain ⟨K', hK, rfl⟩ := Option.map_eq_some_iff.1 hm
    have h := fin w5 (pts d5 [.int .i64 0, .int .i64 0] :: pts b5 [.int .i64 ((5 : Nat) : Int), .int .i64 x0, .int .i64 x1, .int .i64 x2, .int .i64 x3] :: old e :: L) (by have h := h1; exact (h.emb (by repeat' (first | with_reducible exact Emb.same _ | exact Emb.nil _ | refine Emb.cons (by with_reducible first | exact sl0 | exact .there sl0 | exact .there sl1 | exact .there sl2 | exact .there sl3 | exact .there sl4 | exact .there sl5 | exact .there sl6 | exact .there sl7 | exact .there sl8 | exact .there sl9 | exact .there sl10 | exact .there sl11 | exact .there sl12) ?_ | refine Emb.skip ?_))))
    refine call133 (over_kern h hK fun w6 h => ⟨(), rfl, ?_⟩)
    exact fin_code h.p1 fun w7 h => kk w7 h.p1.drop

theorem tasks_5 {e k A K r x0 x1 x2 x3} (hm : KM.cTer x0 K = some r) : GrpC e k A K r (sh79 (some ⟨k, 0, none⟩) (((5 : Nat) : Int), x0, x1, x2, x3, ())) := by
  intro L w R h kk
  unfold KM.cTer KM.byTask at hm
  refine tasks_pre h (n := 5) rfl (by decide) (by decide) (by decide) (by decide) (fun hz w' h => ?_) (fun hz b d w' h => ?_)
  · rw [if_pos (show K.named x0 false = 0 from hz)] at hm
    cases hm
    exact kk w' h
  · rw [if_neg (show ¬ K.named x0 false = 0 from hz)] at hm
    have hv : nmd K 5 1 x0 = K.named x0 false := rfl
    rw [hv]
    generalize K.named x0 false = v at hm
    obtain ⟨u, hu, hm⟩ := Option.bind_eq_some_iff.1 hm
    unfold tasksR
    refine ldI.mk (h.p1.cell rfl) ?_
    (repeat (first | ((with_reducible refine cs.yes ?_ ?_); · rfl) | ((with_reducible refine cs.no ?_ ?_); · rfl) | refine jn.mk fun J hJ => ?_ | with_reducible apply_assumption -exfalso -symm))
    exact one_pre h hu (one_5 hu hm) kk

theorem one_19 {e k A K v u r x0 x1 x2 x3} (hu : K.un v = some u)
    (hm : (if ¬ (0 ≤ u.susps ∧ u.susps ≤ 7) then none
      else if v = K.who ∧ K.pl.disabled = true then some ((-25, 0), K)
      else if u.state = 16 then some ((-41, 0), K)
      else if u.susps ≥ 7 then some ((-43, 0), K)
      else some ((0, 0), { K.setU v { u with susps := u.susps + 1, state := if u.state = 2 then 8 else if u.state = 4 then 12 else u.state } with rdy := rmL K.rdy v })) = some r) :
    OneC e k A K v r fun a => sh140 (some ⟨k, 0, none⟩) (((19 : Nat) : Int), x0, x1, x2, x3, ()) v a := by
  intro L w R t h hc kk
  obtain ⟨H, ho, h, back⟩ := open_t h hu hc
  split at hm
  · cases hm
  next hb =>
  have hb := Classical.not_not.1 hb
  have fin : ∀ w' L', Ok e (pts k (kC A K) :: pts (A.ub (v - 1).toNat) (unC t u) :: pts t (tcC u) :: H :: kR A K L') w' → Ok e (kerP k A K :: L') w' := fun w' L' h => by
    have h := back K u e _ w' ho rfl h
    rwa [setU_same hu] at h
  unfold sh140
  refine al.mk h fun b5 w3 h => al.mk h fun d5 w4 h => ldI.mk (h.p1.cell rfl) ?_
  (repeat (first | ((with_reducible refine cs.yes ?_ ?_); · rfl) | ((with_reducible refine cs.no ?_ ?_); · rfl) | refine jn.mk fun J hJ => ?_ | with_reducible apply_assumption -exfalso -symm))
  have h := (Ok.emb (h) (.cons (A := pts k (kC A K)) (by with_reducible first | exact sl0 | exact .there sl0 | exact .there sl1 | exact .there sl2 | exact .there sl3 | exact .there sl4 | exact .there sl5 | exact .there sl6 | exact .there sl7 | exact .there sl8 | exact .there sl9 | exact .there sl10 | exact .there sl11 | exact .there sl12) (.same _)))
  refine nn.mk (ldI.mk (h.cell rfl) (jn.bool (decide (v = K.who ∧ K.pl.disabled = true)) (fun J hJ => cs.mk (fun hw => ?_) (fun hw => ?_)) (cs.mk (fun hw => ?_) (fun hw => ?_))))
  · have hw : v = K.who := by simpa using hw
    refine nn.mk (ldP.mk (h.cell rfl) (nn.mk ?_))
    refine call166 (Disabled_ctx ((Ok.emb (h) (.cons (A := placeP A.pl K.pl) (by with_reducible first | exact sl0 | exact .there sl0 | exact .there sl1 | exact .there sl2 | exact .there sl3 | exact .there sl4 | exact .there sl5 | exact .there sl6 | exact .there sl7 | exact .there sl8 | exact .there sl9 | exact .there sl10 | exact .there sl11 | exact .there sl12) (.same _)))) ⟨(K.pl.disabled, ()), rfl, ?_⟩)
    rw [show decide (v = K.who ∧ K.pl.disabled = true) = K.pl.disabled from by simp [hw]] at hJ
    exact hJ
  · have hw : ¬ v = K.who := by simpa using hw
    rw [show decide (v = K.who ∧ K.pl.disabled = true) = false from decide_eq_false fun hc => hw hc.1] at hJ
    exact hJ
  · have hw := of_decide_eq_true hw
    rw [if_pos hw] at hm
    cases hm
    exact fin_code ((Ok.emb (h) (.cons (A := pts d5 [.int .i64 0, .int .i64 0]) (by with_reducible first | exact sl0 | exact .there sl0 | exact .there sl1 | exact .there sl2 | exact .there sl3 | exact .there sl4 | exact .there sl5 | exact .there sl6 | exact .there sl7 | exact .there sl8 | exact .there sl9 | exact .there sl10 | exact .there sl11 | exact .there sl12) (.same _)))) fun w6 h => kk w6 (fin w6 _ (h.emb (by repeat' (first | with_reducible exact Emb.same _ | exact Emb.nil _ | refine Emb.cons (by with_reducible first | exact sl0 | exact .there sl0 | exact .there sl1 | exact .there sl2 | exact .there sl3 | exact .there sl4 | exact .there sl5 | exact .there sl6 | exact .there sl7 | exact .there sl8 | exact .there sl9 | exact .there sl10 | exact .there sl11 | exact .there sl12) ?_ | refine Emb.skip ?_))))
  have hw := of_decide_eq_false hw
  rw [if_neg hw] at hm
  refine call211 (Suspend_tcb ((Ok.emb (h) (.cons (A := pts t (tcC u)) (by with_reducible first | exact sl0 | exact .there sl0 | exact .there sl1 | exact .there sl2 | exact .there sl3 | exact .there sl4 | exact .there sl5 | exact .there sl6 | exact .there sl7 | exact .there sl8 | exact .there sl9 | exact .there sl10 | exact .there sl11 | exact .there sl12) (.same _)))) hb.1 (fun h1 w5 h => ⟨((-41 : Int), ()), rfl, jn.mk fun J hJ => cs.no rfl (hJ _ _ ?_)⟩) (fun h1 h2 w5 h => ⟨((-43 : Int), ()), rfl, jn.mk fun J hJ => cs.no rfl (hJ _ _ ?_)⟩) (fun h1 h2 w5 h => ⟨((0 : Int), ()), rfl, jn.mk fun J hJ => cs.yes rfl ?_⟩))
  · rw [if_pos h1] at hm
    cases hm
    exact fin_code ((Ok.emb (h) (.cons (A := pts d5 [.int .i64 0, .int .i64 0]) (by with_reducible first | exact sl0 | exact .there sl0 | exact .there sl1 | exact .there sl2 | exact .there sl3 | exact .there sl4 | exact .there sl5 | exact .there sl6 | exact .there sl7 | exact .there sl8 | exact .there sl9 | exact .there sl10 | exact .there sl11 | exact .there sl12) (.same _)))) fun w6 h => kk w6 (fin w6 _ (h.emb (by repeat' (first | with_reducible exact Emb.same _ | exact Emb.nil _ | refine Emb.cons (by with_reducible first | exact sl0 | exact .there sl0 | exact .there sl1 | exact .there sl2 | exact .there sl3 | exact .there sl4 | exact .there sl5 | exact .there sl6 | exact .there sl7 | exact .there sl8 | exact .there sl9 | exact .there sl10 | exact .there sl11 | exact .there sl12) ?_ | refine Emb.skip ?_))))
  · rw [if_neg h1, if_pos h2] at hm
    cases hm
    exact fin_code ((Ok.emb (h) (.cons (A := pts d5 [.int .i64 0, .int .i64 0]) (by with_reducible first | exact sl0 | exact .there sl0 | exact .there sl1 | exact .there sl2 | exact .there sl3 | exact .there sl4 | exact .there sl5 | exact .there sl6 | exact .there sl7 | exact .there sl8 | exact .there sl9 | exact .there sl10 | exact .there sl11 | exact .there sl12) (.same _)))) fun w6 h => kk w6 (fin w6 _ (h.emb (by repeat' (first | with_reducible exact Emb.same _ | exact Emb.nil _ | refine Emb.cons (by with_reducible first | exact sl0 | exact .there sl0 | exact .there sl1 | exact .there sl2 | exact .there sl3 | exact .there sl4 | exact .there sl5 | exact .there sl6 | exact .there sl7 | exact .there sl8 | exact .there sl9 | exact .there sl10 | exact .there sl11 | exact .there sl12) ?_ | refine Emb.skip ?_))))
  · rw [if_neg h1, if_neg h2] at hm
    cases hm
    have h := (Ok.emb (h) (.cons (A := pts k (kC A K)) (by with_reducible first | exact sl0 | exact .there sl0 | exact .there sl1 | exact .there sl2 | exact .there sl3 | exact .there sl4 | exact .there sl5 | exact .there sl6 | exact .there sl7 | exact .there sl8 | exact .there sl9 | exact .there sl10 | exact .there sl11 | exact .there sl12) (.same _)))
    refine nn.mk (ldP.mk (h.cell rfl) ?_)
    refine call197 (Remove_ready (n := v) ((Ok.emb (h) (.cons (A := rdyP A.rq K.rdy) (by with_reducible first | exact sl0 | exact .there sl0 | exact .there sl1 | exact .there sl2 | exact .there sl3 | exact .there sl4 | exact .there sl5 | exact .there sl6 | exact .there sl7 | exact .there sl8 | exact .there sl9 | exact .there sl10 | exact .there sl11 | exact .there sl12) (.same _)))) fun w6 h => ⟨(_, ()), rfl, hJ _ _ ?_⟩)
    have h := back { K with rdy := rmL K.rdy v } { u with susps := u.susps + 1, state := if u.state = 2 then 8 else if u.state = 4 then 12 else u.state } e (pts d5 [.int .i64 0, .int .i64 0] :: pts b5 [.int .i64 ((19 : Nat) : Int), .int .i64 x0, .int .i64 x1, .int .i64 x2, .int .i64 x3] :: old e :: L) w6 ⟨ho.t0, ho.t1, ho.us, ho.sems, ho.datas, ho.pools⟩ rfl (h.emb (by repeat' (first | with_reducible exact Emb.same _ | exact Emb.nil _ | refine Emb.cons (by with_reducible first | exact sl0 | exact .there sl0 | exact .there sl1 | exact .there sl2 | exact .there sl3 | exact .there sl4 | exact .there sl5 | exact .there sl6 | exact .there sl7 | exact .there sl8 | exact .there sl9 | exact .there sl10 | exact .there sl11 | exact .there sl12) ?_ | refine Emb.skip ?_)))
    exact fin_code h.p1 fun w7 h => kk w7 h.p1.drop

theorem tasks_19 {e k A K r x0 x1 x2 x3} (hm : KM.cSus x0 K = some r) : GrpC e k A K r (sh79 (some ⟨k, 0, none⟩) (((19 : Nat) : Int), x0, x1, x2, x3, ())) := by
  intro L w R h kk
  unfold KM.cSus KM.byTask at hm
  refine tasks_pre h (n := 19) rfl (by decide) (by decide) (by decide) (by decide) (fun hz w' h => ?_) (fun hz b d w' h => ?_)
  · rw [if_pos (show K.named x0 true = 0 from hz)] at hm
    cases hm
    exact kk w' h
  · rw [if_neg (show ¬ K.named x0 true = 0 from hz)] at hm
    have hv : nmd K 19 1 x0 = K.named x0 true := rfl
    rw [hv]
    generalize K.named x0 true = v at hm
    obtain ⟨u, hu, hm⟩ := Option.bind_eq_some_iff.1 hm
    unfold tasksR
    refine ldI.mk (h.p1.cell rfl) ?_
    (repeat (first | ((with_reducible refine cs.yes ?_ ?_); · rfl) | ((with_reducible refine cs.no ?_ ?_); · rfl) | refine jn.mk fun J hJ => ?_ | with_reducible apply_assumption -exfalso -symm))
    exact one_pre h hu (one_19 hu hm) kk

theorem do_5 {e} (tb : TabE e) : DoC e 5 1 fun x0 _ => KM.cTer x0 := by
  intro k A K r L w x0 x1 x2 x3 R h hm kk
  exact Do_kern (n := 5) tb rfl (by decide) h hm (fun r hr => .inl ⟨by decide, tasks_5 hr⟩) kk

theorem do_19 {e} (tb : TabE e) : DoC e 19 1 fun x0 _ => KM.cSus x0 := by
  intro k A K r L w x0 x1 x2 x3 R h hm kk
  exact Do_kern (n := 19) tb rfl (by decide) h hm (fun r hr => .inl ⟨by decide, tasks_19 hr⟩) kk

end Go.Proofs.YtenonfkfoedfmaaGreatDoor.B


/- TopKills. -/
namespace Go.Proofs.YtenonfkfoedfmaaGreatDoor.B
open Go
set_option linter.unusedVariables false

theorem Any_tcb {e w L R} (h : Ok e L w) (k : ∀ w', Ok e L w' → R [.bool false] w') : sh25 ((0 : Int), (0 : Int), (0 : Int), ()) R w := by
  unfold sh25
  refine al.mk h fun b w1 h => ldI.mk (h.cell rfl) (ldI.mk (h.cell rfl) (ldI.mk (h.cell rfl) ?_))
  exact k w1 h.drop

theorem kills_walk {e L w a0 R} (tb : TabE e) (h : Ok e (old e :: L) w) (h0 : 0 ≤ a0 ∧ a0 ≤ 255) (kk : ∀ w', Ok e (old e :: L) w' → R [.bool true] w') : sh6 a0 R w := by
  unfold sh6
  refine call17 (known_top tb h fun w1 h => ⟨(true, ()), rfl, cs.no rfl ?_⟩)
  rw [Int.tmod_eq_emod_of_nonneg h0.1]
  refine al.mk h fun b w2 h => ?_
  refine call18 (a0 := ⟨some ⟨b, 0, none⟩, 2, 2⟩) (tasks_top (l := [5, 1]) (slcOf (l := [5, 1]) h) (by simp) fun x w2 h => ⟨(((1 : Int), x, nilS, nilS, nilS, nilS, nilS, nilS, (0 : Int), ()), ()), rfl, ?_⟩)
  refine al.mk h fun c w3 h => ?_
  refine st1.mk h (by simp) fun w1 h => st1.mk h (by simp) fun w1 h => st1.mk h (by simp) fun w1 h => st1.mk h (by simp) fun w1 h => st1.mk h (by simp) fun w1 h => st1.mk h (by simp) fun w1 h => st1.mk h (by simp) fun w1 h => st1.mk h (by simp) fun w1 h => st1.mk h (by simp) fun w1 h => ?_
  refine ldS.mk (h.cell rfl) (st_task (i := 1) (x := (1, true)) (c := false) h.p1 rfl fun w4 h => ?_)
  have h := h.p1
  refine ldI.mk (h.cell rfl) (ldS.mk (h.cell rfl) (ldS.mk (h.cell rfl) (ldS.mk (h.cell rfl) (ldS.mk (h.cell rfl) (ldS.mk (h.cell rfl) (ldS.mk (h.cell rfl) (ldS.mk (h.cell rfl) (ldI.mk (h.cell rfl) ?_))))))))
  refine call19 (a0 := cfV Kil.cf ⟨x, nilS, nilS, nilS, nilS⟩) (open_top tb (conf_tasks 1 h.drop) (by decide) Kil.start fun k A w3 h => ⟨(some ⟨k, 0, none⟩, ()), rfl, cs.no rfl ?_⟩)
  have h : Ok e (kerP k A (Kil.KE 0 0) :: old e :: L) w3 := (h.emb (by repeat' (first | with_reducible exact Emb.same _ | exact Emb.nil _ | refine Emb.cons (by with_reducible first | exact sl0 | exact .there sl0 | exact .there sl1 | exact .there sl2 | exact .there sl3 | exact .there sl4 | exact .there sl5 | exact .there sl6 | exact .there sl7 | exact .there sl8 | exact .there sl9 | exact .there sl10 | exact .there sl11 | exact .there sl12) ?_ | refine Emb.skip ?_)))
  refine al.mk h fun b1 w4 h => ?_
  refine call20 (a2 := ⟨some ⟨b1, 0, none⟩, 1, 1⟩) (do_top (n := 5) (xs := [2]) (do_5 tb) (slcOf (l := [2]) h) (by simp) (Kil.ter2 0 0) fun w5 h => ⟨((-41 : Int), (0 : Int), ()), rfl, ?_⟩)
  refine al.mk h fun b1 w4 h => ?_
  refine call20 (a2 := ⟨some ⟨b1, 0, none⟩, 1, 1⟩) (do_top (n := 5) (xs := [1]) (do_5 tb) (slcOf (l := [1]) h) (by simp) Kil.ter1 fun w5 h => ⟨((-28 : Int), (0 : Int), ()), rfl, ?_⟩)
  refine al.mk h fun b1 w4 h => ?_
  refine call20 (a2 := ⟨some ⟨b1, 0, none⟩, 1, 1⟩) (do_top (n := 5) (xs := [0]) (do_5 tb) (slcOf (l := [0]) h) (by simp) Kil.ter0 fun w5 h => ⟨((-18 : Int), (0 : Int), ()), rfl, ?_⟩)
  refine jn.mk fun J1 hJ1 => cs.no rfl (hJ1 _ _ (jn.mk fun J2 hJ2 => cs.no rfl (hJ2 _ _ (cs.no rfl ?_))))
  clear hJ1 hJ2 J1 J2
  refine al.mk h fun b1 w4 h => ?_
  refine call20 (a2 := ⟨some ⟨b1, 0, none⟩, 1, 1⟩) (do_top (n := 1) (xs := [2]) (do_1 tb) (slcOf (l := [2]) h) (by simp) Kil.act fun w5 h => ⟨((0 : Int), (0 : Int), ()), rfl, ?_⟩)
  refine jn.at (t := ()) (fun w' => ∃ K last, K.who = 1 ∧ K.call 1 (KM.cTer 2) = some ((0, 0), Kil.KE 0 last) ∧ Ok e (kerP k A K :: old e :: L) w') (fun J hJ => ?_) ?_
  · refine cs.mk (fun hc => ?_) (fun hc => ?_)
    · refine call20 (a2 := nilS) (do_top (n := 12) (xs := []) (do_12 tb) (h.slcNil 1) (by simp) Kil.slp fun w5 h => ⟨((1 : Int), (0 : Int), ()), rfl, hJ _ ⟨_, 0, rfl, Kil.terS, h⟩⟩)
    · refine jn.at (t := ()) (fun w' => ∃ K last, K.who = 1 ∧ K.call 1 (KM.cTer 2) = some ((0, 0), Kil.KE 0 last) ∧ Ok e (kerP k A K :: old e :: L) w') (fun J2 hJ2 => ?_) (fun w' h => hJ w' h)
      refine cs.mk (fun hc => al.mk h fun b1 w4 h => ?_) (fun hc => al.mk h fun b1 w4 h => ?_)
      · refine call20 (a2 := ⟨some ⟨b1, 0, none⟩, 1, 1⟩) (do_top (n := 22) (xs := [50]) (do_22 tb) (slcOf (l := [50]) h) (by simp) Kil.dly fun w5 h => ⟨((1 : Int), (0 : Int), ()), rfl, hJ2 _ ⟨_, 1, rfl, Kil.terW, h⟩⟩)
      · refine call20 (a2 := ⟨some ⟨b1, 0, none⟩, 1, 1⟩) (do_top (n := 19) (xs := [0]) (do_19 tb) (slcOf (l := [0]) h) (by simp) Kil.sus fun w5 h => ⟨((0 : Int), (0 : Int), ()), rfl, hJ2 _ ⟨_, 0, rfl, Kil.terU, h⟩⟩)
  clear h
  rintro w6 ⟨K, last, hw, hM, h⟩
  refine call21 (Running_kern h ⟨(K.who, ()), rfl, cs.no (by simpa using hw) ?_⟩)
  refine al.mk h fun b1 w4 h => ?_
  refine call20 (a2 := ⟨some ⟨b1, 0, none⟩, 1, 1⟩) (do_top (n := 5) (xs := [2]) (do_5 tb) (slcOf (l := [2]) h) (by simp) hM fun w5 h => ⟨((0 : Int), (0 : Int), ()), rfl, ?_⟩)
  refine al.mk h fun b1 w4 h => ?_
  refine call20 (a2 := ⟨some ⟨b1, 0, none⟩, 1, 1⟩) (do_top (n := 5) (xs := [2]) (do_5 tb) (slcOf (l := [2]) h) (by simp) (Kil.ter2 0 last) fun w5 h => ⟨((-41 : Int), (0 : Int), ()), rfl, ?_⟩)
  refine call24 (Task_kern h (Kil.task 0 last) fun w1 h => ⟨(((16 : Int), (1 : Int), (1 : Int), (0 : Int), (0 : Int), (0 : Int), (0 : Int), (0 : Int), ()), ((0 : Int), (0 : Int), (0 : Int), ()), (0 : Int), ()), rfl, ?_⟩)
  refine al.mk h fun f w1 h => al.mk h fun g w1 h => ?_
  have h := h.p1
  refine st1.mk h (by simp) fun w1 h => st1.mk h (by simp) fun w1 h => st1.mk h (by simp) fun w1 h => st1.mk h (by simp) fun w1 h => st1.mk h (by simp) fun w1 h => st1.mk h (by simp) fun w1 h => st1.mk h (by simp) fun w1 h => st1.mk h (by simp) fun w1 h => ?_
  refine st1.mk h.p1 (by simp) fun w1 h => st1.mk h (by simp) fun w1 h => st1.mk h (by simp) fun w1 h => ?_
  have h := (Ok.emb (h) (.cons (A := kerP k A (Kil.KE 0 last)) (by with_reducible first | exact sl0 | exact .there sl0 | exact .there sl1 | exact .there sl2 | exact .there sl3 | exact .there sl4 | exact .there sl5 | exact .there sl6 | exact .there sl7 | exact .there sl8 | exact .there sl9 | exact .there sl10 | exact .there sl11 | exact .there sl12) (.cons (A := old e) (by with_reducible first | exact sl0 | exact .there sl0 | exact .there sl1 | exact .there sl2 | exact .there sl3 | exact .there sl4 | exact .there sl5 | exact .there sl6 | exact .there sl7 | exact .there sl8 | exact .there sl9 | exact .there sl10 | exact .there sl11 | exact .there sl12) (.same _))))
  refine lp.mk (fun t w1 => ∃ i : Nat, @Eq Int t.1 (i : Int) ∧ i ≤ 60 ∧ Ok e (kerP k A (Kil.KE (i : Int) last) :: old e :: pts g [.int .i64 0, .int .i64 0, .int .i64 0] :: pts f [.int .i64 16, .int .i64 1, .int .i64 1, .int .i64 0, .int .i64 0, .int .i64 0, .int .i64 0, .int .i64 0] :: L) w1) (fun t _ => Int.toNat (Int.sub 60 t.1)) ⟨0, rfl, by omega, h⟩ ?_
  clear h
  rintro ⟨(t : Int), _⟩ w1 ⟨i, (rfl : t = (i : Int)), hi, h⟩
  dsimp only
  refine cs.mk (fun h2 => ?_) (fun h2 => ?_)
  · have h2 : (i : Int) < 60 := of_decide_eq_true h2
    refine call22 (Tick_kern tb h (Kil.tick ⟨by omega, by omega⟩) fun w2 h => ⟨(nilS, ()), rfl, ⟨i + 1, w64_in (by omega) (by omega), by omega, h⟩, ?_⟩)
    show (60 - w64 ((i : Int) + 1)).toNat < (60 - (i : Int)).toNat
    rw [w64_in (by omega) (by omega)]; omega
  · refine jn.mk fun J1 hJ1 => cs.yes rfl (hJ1 _ _ ?_)
    refine jn.mk fun J2 hJ2 => cs.yes rfl (ldI.mk (h.p3.cell rfl) (hJ2 _ _ ?_))
    refine jn.mk fun J3 hJ3 => cs.yes rfl (ldI.mk (h.p3.cell rfl) (hJ3 _ _ ?_))
    refine jn.mk fun J4 hJ4 => cs.yes rfl (ldI.mk (h.p2.cell rfl) (ldI.mk (h.p2.cell rfl) (ldI.mk (h.p2.cell rfl) ?_)))
    refine call25 (a0 := ((0 : Int), (0 : Int), (0 : Int), ())) (Any_tcb h fun w9 h => ⟨(false, ()), rfl, hJ4 _ _ ?_⟩)
    refine jn.mk fun J5 hJ5 => cs.yes rfl (call21 (Running_kern h ⟨((1 : Int), ()), rfl, hJ5 _ _ ?_⟩))
    have h := (Ok.emb (h) (.cons (A := pts f [.int .i64 16, .int .i64 1, .int .i64 1, .int .i64 0, .int .i64 0, .int .i64 0, .int .i64 0, .int .i64 0]) (by with_reducible first | exact sl0 | exact .there sl0 | exact .there sl1 | exact .there sl2 | exact .there sl3 | exact .there sl4 | exact .there sl5 | exact .there sl6 | exact .there sl7 | exact .there sl8 | exact .there sl9 | exact .there sl10 | exact .there sl11 | exact .there sl12) (.cons (A := pts g [.int .i64 0, .int .i64 0, .int .i64 0]) (by with_reducible first | exact sl0 | exact .there sl0 | exact .there sl1 | exact .there sl2 | exact .there sl3 | exact .there sl4 | exact .there sl5 | exact .there sl6 | exact .there sl7 | exact .there sl8 | exact .there sl9 | exact .there sl10 | exact .there sl11 | exact .there sl12) (.same _))))
    exact kk w9 h.drop.drop.drop

theorem TopKills_walk {W a0} (tb : TabE W) (h0 : (Lit.int .u8 a0).wf = true) : sh6 a0 (fun vs w' => vs = [.bool true] ∧ Ok W [old W] w') W :=
  kills_walk tb (Ok.start W) (wf_u8 h0) fun w' h => ⟨rfl, h⟩

end Go.Proofs.YtenonfkfoedfmaaGreatDoor.B

