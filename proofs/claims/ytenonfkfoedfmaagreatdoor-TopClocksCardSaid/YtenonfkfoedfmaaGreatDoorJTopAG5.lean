/- Texts of ours, joined: Grp6, ClkW. -/
import Derived.Test.YtenonfkfoedfmaaGreatDoorJTopA7
import Derived.Test.YtenonfkfoedfmaaGreatDoorJTopAG1
set_option linter.unusedSimpArgs false
set_option linter.unusedVariables false
/- Calls of the time. -/
namespace Go.Proofs.YtenonfkfoedfmaaGreatDoor.B
open Go
set_option linter.unusedVariables false

def cSetT (v : Int) (K : KM) : Option ((Int × Int) × KM) :=
  if v < 0 ∨ v ≥ 281474976710656 then some ((-17, 0), K)
  else if 0 ≤ K.up ∧ K.up ≤ 2 ^ 40 then some ((0, 0), { K with tb := (v - K.up) % 281474976710656 }) else none

def nowM (K : KM) : Option Int := if 0 ≤ K.up ∧ K.up ≤ 2 ^ 40 ∧ 0 ≤ K.tb ∧ K.tb < 281474976710656 then some ((K.tb + K.up) % 281474976710656) else none

def cGetT (K : KM) : Option ((Int × Int) × KM) := (nowM K).map fun t => ((0, t), K)

theorem w64_u48 {x : Int} (h : 0 ≤ x ∧ x < 281474976710656) : w64 x = x := w64_in (by omega) (by omega)

theorem time_51 {e k A K r x0 x1 x2 x3} (hm : cSetT x0 K = some r) : GrpC e k A K r (sh85 (some ⟨k, 0, none⟩) (((51 : Nat) : Int), x0, x1, x2, x3, ())) := by
  intro L w R h kk
  unfold cSetT at hm
  unfold sh85
  refine al.mk h fun b w1 h => al.mk h fun d w2 h => ⟨by decide, by decide, ldI.mk (h.p1.cell rfl) (ldI.mk (h.p1.cell rfl) (cs.yes rfl ⟨by decide, by decide, ldI.mk (h.p1.cell rfl) ?_⟩))⟩
  refine jn.bool (decide (x0 < 0 ∨ x0 ≥ 281474976710656)) (fun J hJ => cs.mk (fun hc => ?_) (fun hc => ?_)) (cs.mk (fun hc => ?_) (fun hc => ?_))
  · have hc := of_decide_eq_true hc
    rw [decide_eq_true (.inl hc)] at hJ; exact hJ
  · have hc : ¬ x0 < 0 := of_decide_eq_false hc
    refine ⟨by decide, by decide, ldI.mk (h.p1.cell rfl) ?_⟩
    rw [show decide (x0 < 0 ∨ x0 ≥ 281474976710656) = decide (x0 ≥ 281474976710656) from decide_eq_decide.2 (by omega)] at hJ; exact hJ
  · rw [if_pos (of_decide_eq_true hc)] at hm
    cases hm
    exact fin_code h fun w4 h => kk w4 h.drop
  have hc := of_decide_eq_false hc
  rw [if_neg hc] at hm
  split at hm
  · next hu =>
    cases hm
    obtain ⟨ho, h2⟩ := kerE h.p2
    obtain ⟨c, t, h3⟩ := hnE ((Ok.emb (h2) (.cons (A := hnP A.hn K.tic K.up K.tb K.last K.ents) (by with_reducible first | exact sl0 | exact .there sl0 | exact .there sl1 | exact .there sl2 | exact .there sl3 | exact .there sl4 | exact .there sl5 | exact .there sl6 | exact .there sl7 | exact .there sl8 | exact .there sl9 | exact .there sl10 | exact .there sl11 | exact .there sl12) (.same _))))
    refine dr.mk h3 fun w3 h3 => nn.mk (ldP.mk ((Ok.emb (h3) (.cons (A := pts k (kC A K)) (by with_reducible first | exact sl0 | exact .there sl0 | exact .there sl1 | exact .there sl2 | exact .there sl3 | exact .there sl4 | exact .there sl5 | exact .there sl6 | exact .there sl7 | exact .there sl8 | exact .there sl9 | exact .there sl10 | exact .there sl11 | exact .there sl12) (.same _))).cell rfl) (nn.mk (ldP.mk (h3.cell rfl) ⟨by decide, by decide, ldI.mk ((Ok.emb (h3) (.cons (A := pts b [.int .i64 ((51 : Nat) : Int), .int .i64 x0, .int .i64 x1, .int .i64 x2, .int .i64 x3]) (by with_reducible first | exact sl0 | exact .there sl0 | exact .there sl1 | exact .there sl2 | exact .there sl3 | exact .there sl4 | exact .there sl5 | exact .there sl6 | exact .there sl7 | exact .there sl8 | exact .there sl9 | exact .there sl10 | exact .there sl11 | exact .there sl12) (.same _))).cell rfl) ?_⟩)))
    rw [u64_in (x := x0) (by omega) (by omega)]
    refine call159 (Set_clock ((Ok.emb (h3) (.cons (A := pts c [.pointer (some ⟨t, 0, none⟩), .int .u64 K.tic, .int .u64 K.up, .int .u64 K.tb]) (by with_reducible first | exact sl0 | exact .there sl0 | exact .there sl1 | exact .there sl2 | exact .there sl3 | exact .there sl4 | exact .there sl5 | exact .there sl6 | exact .there sl7 | exact .there sl8 | exact .there sl9 | exact .there sl10 | exact .there sl11 | exact .there sl12) (.same _)))) hu (by omega) fun w4 h => ⟨(), rfl, ?_⟩)
    have h := hnI (b := A.hn) (c := c) (t := t) (tic := K.tic) (up := K.up) (tb := (x0 - K.up) % 281474976710656) (last := K.last) (l := K.ents) (h.emb (by repeat' (first | with_reducible exact Emb.same _ | exact Emb.nil _ | refine Emb.cons (by with_reducible first | exact sl0 | exact .there sl0 | exact .there sl1 | exact .there sl2 | exact .there sl3 | exact .there sl4 | exact .there sl5 | exact .there sl6 | exact .there sl7 | exact .there sl8 | exact .there sl9 | exact .there sl10 | exact .there sl11 | exact .there sl12) ?_ | refine Emb.skip ?_)))
    have h := kerI (A := A) (K := { K with tb := (x0 - K.up) % 281474976710656 }) (L := pts d [.int .i64 0, .int .i64 0] :: pts b [.int .i64 ((51 : Nat) : Int), .int .i64 x0, .int .i64 x1, .int .i64 x2, .int .i64 x3] :: old e :: L) ⟨ho.t0, ho.t1, ho.us, ho.sems, ho.datas, ho.pools⟩ (h.emb (by repeat' (first | with_reducible exact Emb.same _ | exact Emb.nil _ | refine Emb.cons (by with_reducible first | exact sl0 | exact .there sl0 | exact .there sl1 | exact .there sl2 | exact .there sl3 | exact .there sl4 | exact .there sl5 | exact .there sl6 | exact .there sl7 | exact .there sl8 | exact .there sl9 | exact .there sl10 | exact .there sl11 | exact .there sl12) ?_ | refine Emb.skip ?_)))
    exact fin_code ((Ok.emb (h) (.cons (A := pts d [.int .i64 0, .int .i64 0]) (by with_reducible first | exact sl0 | exact .there sl0 | exact .there sl1 | exact .there sl2 | exact .there sl3 | exact .there sl4 | exact .there sl5 | exact .there sl6 | exact .there sl7 | exact .there sl8 | exact .there sl9 | exact .there sl10 | exact .there sl11 | exact .there sl12) (.same _)))) fun w4 h => kk w4 (h.emb (by repeat' (first | with_reducible exact Emb.same _ | exact Emb.nil _ | refine Emb.cons (by with_reducible first | exact sl0 | exact .there sl0 | exact .there sl1 | exact .there sl2 | exact .there sl3 | exact .there sl4 | exact .there sl5 | exact .there sl6 | exact .there sl7 | exact .there sl8 | exact .there sl9 | exact .there sl10 | exact .there sl11 | exact .there sl12) ?_ | refine Emb.skip ?_)))
  · cases hm

theorem time_52 {e k A K r x0 x1 x2 x3} (hm : cGetT K = some r) : GrpC e k A K r (sh85 (some ⟨k, 0, none⟩) (((52 : Nat) : Int), x0, x1, x2, x3, ())) := by
  intro L w R h kk
  obtain ⟨v, hv, rfl⟩ := Option.map_eq_some_iff.1 hm
  unfold nowM at hv
  split at hv
  · next hu =>
    have hv := Option.some.inj hv
    unfold sh85
    refine al.mk h fun b w1 h => al.mk h fun d w2 h => ⟨by decide, by decide, ldI.mk (h.p1.cell rfl) (ldI.mk (h.p1.cell rfl) (cs.no rfl (cs.yes rfl ?_)))⟩
    obtain ⟨ho, h2⟩ := kerE h.p2
    obtain ⟨c, t, h3⟩ := hnE ((Ok.emb (h2) (.cons (A := hnP A.hn K.tic K.up K.tb K.last K.ents) (by with_reducible first | exact sl0 | exact .there sl0 | exact .there sl1 | exact .there sl2 | exact .there sl3 | exact .there sl4 | exact .there sl5 | exact .there sl6 | exact .there sl7 | exact .there sl8 | exact .there sl9 | exact .there sl10 | exact .there sl11 | exact .there sl12) (.same _))))
    refine nn.mk (ldP.mk ((Ok.emb (h3) (.cons (A := pts k (kC A K)) (by with_reducible first | exact sl0 | exact .there sl0 | exact .there sl1 | exact .there sl2 | exact .there sl3 | exact .there sl4 | exact .there sl5 | exact .there sl6 | exact .there sl7 | exact .there sl8 | exact .there sl9 | exact .there sl10 | exact .there sl11 | exact .there sl12) (.same _))).cell rfl) (nn.mk (ldP.mk (h3.cell rfl) ?_)))
    refine call58 (Now_cyc ((Ok.emb (h3) (.cons (A := pts c [.pointer (some ⟨t, 0, none⟩), .int .u64 K.tic, .int .u64 K.up, .int .u64 K.tb]) (by with_reducible first | exact sl0 | exact .there sl0 | exact .there sl1 | exact .there sl2 | exact .there sl3 | exact .there sl4 | exact .there sl5 | exact .there sl6 | exact .there sl7 | exact .there sl8 | exact .there sl9 | exact .there sl10 | exact .there sl11 | exact .there sl12) (.same _)))) ⟨hu.1, hu.2.1⟩ hu.2.2 fun w4 h => ⟨(v, ()), by rw [← hv]; rfl, ?_⟩)
    have hb := Int.emod_nonneg (K.tb + K.up) (show (281474976710656 : Int) ≠ 0 by decide)
    have hb2 := Int.emod_lt_of_pos (K.tb + K.up) (show (0 : Int) < 281474976710656 by decide)
    rw [hv] at hb hb2
    have hw : w64 v = v := w64_u48 ⟨hb, hb2⟩
    dsimp only
    rw [hw]
    have h := hnI (b := A.hn) (c := c) (t := t) (tic := K.tic) (up := K.up) (tb := K.tb) (last := K.last) (l := K.ents) (h.emb (by repeat' (first | with_reducible exact Emb.same _ | exact Emb.nil _ | refine Emb.cons (by with_reducible first | exact sl0 | exact .there sl0 | exact .there sl1 | exact .there sl2 | exact .there sl3 | exact .there sl4 | exact .there sl5 | exact .there sl6 | exact .there sl7 | exact .there sl8 | exact .there sl9 | exact .there sl10 | exact .there sl11 | exact .there sl12) ?_ | refine Emb.skip ?_)))
    have h := kerI (A := A) (K := K) (L := pts d [.int .i64 0, .int .i64 0] :: pts b [.int .i64 ((52 : Nat) : Int), .int .i64 x0, .int .i64 x1, .int .i64 x2, .int .i64 x3] :: old e :: L) ho (h.emb (by repeat' (first | with_reducible exact Emb.same _ | exact Emb.nil _ | refine Emb.cons (by with_reducible first | exact sl0 | exact .there sl0 | exact .there sl1 | exact .there sl2 | exact .there sl3 | exact .there sl4 | exact .there sl5 | exact .there sl6 | exact .there sl7 | exact .there sl8 | exact .there sl9 | exact .there sl10 | exact .there sl11 | exact .there sl12) ?_ | refine Emb.skip ?_)))
    exact fin_val ((Ok.emb (h) (.cons (A := pts d [.int .i64 0, .int .i64 0]) (by with_reducible first | exact sl0 | exact .there sl0 | exact .there sl1 | exact .there sl2 | exact .there sl3 | exact .there sl4 | exact .there sl5 | exact .there sl6 | exact .there sl7 | exact .there sl8 | exact .there sl9 | exact .there sl10 | exact .there sl11 | exact .there sl12) (.same _)))) fun w4 h => kk w4 (h.emb (by repeat' (first | with_reducible exact Emb.same _ | exact Emb.nil _ | refine Emb.cons (by with_reducible first | exact sl0 | exact .there sl0 | exact .there sl1 | exact .there sl2 | exact .there sl3 | exact .there sl4 | exact .there sl5 | exact .there sl6 | exact .there sl7 | exact .there sl8 | exact .there sl9 | exact .there sl10 | exact .there sl11 | exact .there sl12) ?_ | refine Emb.skip ?_)))
  · cases hv

theorem Now_kern {e w L k A K v R} (h : Ok e (kerP k A K :: L) w) (hv : nowM K = some v) (kk : ∀ w', Ok e (kerP k A K :: L) w' → R [.int .u64 v] w') : sh26 (some ⟨k, 0, none⟩) R w := by
  unfold nowM at hv
  split at hv
  · next hu =>
    have hv := Option.some.inj hv
    unfold sh26
    obtain ⟨ho, h2⟩ := kerE h
    obtain ⟨c, t, h3⟩ := hnE ((Ok.emb (h2) (.cons (A := hnP A.hn K.tic K.up K.tb K.last K.ents) (by with_reducible first | exact sl0 | exact .there sl0 | exact .there sl1 | exact .there sl2 | exact .there sl3 | exact .there sl4 | exact .there sl5 | exact .there sl6 | exact .there sl7 | exact .there sl8 | exact .there sl9 | exact .there sl10 | exact .there sl11 | exact .there sl12) (.same _))))
    refine nn.mk (ldP.mk ((Ok.emb (h3) (.cons (A := pts k (kC A K)) (by with_reducible first | exact sl0 | exact .there sl0 | exact .there sl1 | exact .there sl2 | exact .there sl3 | exact .there sl4 | exact .there sl5 | exact .there sl6 | exact .there sl7 | exact .there sl8 | exact .there sl9 | exact .there sl10 | exact .there sl11 | exact .there sl12) (.same _))).cell rfl) (nn.mk (ldP.mk (h3.cell rfl) ?_)))
    refine call58 (Now_cyc ((Ok.emb (h3) (.cons (A := pts c [.pointer (some ⟨t, 0, none⟩), .int .u64 K.tic, .int .u64 K.up, .int .u64 K.tb]) (by with_reducible first | exact sl0 | exact .there sl0 | exact .there sl1 | exact .there sl2 | exact .there sl3 | exact .there sl4 | exact .there sl5 | exact .there sl6 | exact .there sl7 | exact .there sl8 | exact .there sl9 | exact .there sl10 | exact .there sl11 | exact .there sl12) (.same _)))) ⟨hu.1, hu.2.1⟩ hu.2.2 fun w4 h => ⟨(v, ()), by rw [← hv]; rfl, ?_⟩)
    have h := hnI (b := A.hn) (c := c) (t := t) (tic := K.tic) (up := K.up) (tb := K.tb) (last := K.last) (l := K.ents) (h.emb (by repeat' (first | with_reducible exact Emb.same _ | exact Emb.nil _ | refine Emb.cons (by with_reducible first | exact sl0 | exact .there sl0 | exact .there sl1 | exact .there sl2 | exact .there sl3 | exact .there sl4 | exact .there sl5 | exact .there sl6 | exact .there sl7 | exact .there sl8 | exact .there sl9 | exact .there sl10 | exact .there sl11 | exact .there sl12) ?_ | refine Emb.skip ?_)))
    exact kk w4 (kerI (A := A) (K := K) (L := L) ho (h.emb (by repeat' (first | with_reducible exact Emb.same _ | exact Emb.nil _ | refine Emb.cons (by with_reducible first | exact sl0 | exact .there sl0 | exact .there sl1 | exact .there sl2 | exact .there sl3 | exact .there sl4 | exact .there sl5 | exact .there sl6 | exact .there sl7 | exact .there sl8 | exact .there sl9 | exact .there sl10 | exact .there sl11 | exact .there sl12) ?_ | refine Emb.skip ?_))))
  · cases hv

theorem do_51 {e} (tb : TabE e) : DoC e 51 1 fun x0 _ => cSetT x0 := by
  intro k A K r L w x0 x1 x2 x3 R h hm kk
  exact Do_kern (n := 51) tb rfl (by decide) h hm (fun r hr => .inr (.inr (.inr (.inr (.inr (.inr (.inl ⟨by decide, by decide, time_51 hr⟩))))))) kk

theorem do_52 {e} (tb : TabE e) : DoC e 52 1 fun _ _ => cGetT := by
  intro k A K r L w x0 x1 x2 x3 R h hm kk
  exact Do_kern (n := 52) tb rfl (by decide) h hm (fun r hr => .inr (.inr (.inr (.inr (.inr (.inr (.inl ⟨by decide, by decide, time_52 hr⟩))))))) kk

end Go.Proofs.YtenonfkfoedfmaaGreatDoor.B


/- TopClocks. -/
namespace Go.Proofs.YtenonfkfoedfmaaGreatDoor.B
open Go
set_option linter.unusedVariables false

namespace Clk

def mmC : MM := ((((MM.new []).setBase 1 5).bind fun b => b.2.setBase 2 1).getD (0, MM.new [])).2

def cf : ConfM := ⟨1, [(5, true), (1, true)], [], [], [], []⟩

def KC (up tb : Int) : KM := ⟨⟨[], false, false⟩, 1, up, tb, 1, [⟨300, 1, 2⟩], [(1, 5)], mmC, [⟨0, 0, 0, 2, false, 5, 5, 0, 0, 0, 0, 0⟩, ⟨0, 0, 0, 4, false, 1, 1, 2, 0, 1, 0, 0⟩], [], [], [], 1⟩

theorem start : ((KM.new cf).bind fun K0 => K0.call 2 (KM.cDly 299)) = some ((1, 0), KC 0 0) := by kernel_rfl

theorem tick {up tb : Int} (h : 0 ≤ up ∧ up < 299) : (KC up tb).tick = some (KC (up + 1) tb) := by
  rw [tick_of (K := KC up tb) ⟨h.1, by show up ≤ 2 ^ 40; omega⟩]
  have h1 : dueE (up + 1) [⟨300, 1, 2⟩] = [] := due_no (by show up + 1 < 300; omega)
  have h2 : restE (up + 1) [⟨300, 1, 2⟩] = [⟨300, 1, 2⟩] := rest_no (by show up + 1 < 300; omega)
  show Option.map KM.choose (KM.tickL ((dueE (up + 1) [⟨300, 1, 2⟩]).map Ent.arg) { KC up tb with up := up + 1, ents := restE (up + 1) [⟨300, 1, 2⟩] }) = _
  rw [h1, h2]
  rfl

theorem set {up tb v : Int} (h : 0 ≤ up ∧ up < 299) (hv : 0 ≤ v ∧ v < 281474976710656) : (KC up tb).call 1 (cSetT v) = some ((0, 0), KC up ((v - up) % 281474976710656)) := by
  unfold KM.call
  rw [if_neg (fun h => h rfl)]
  unfold cSetT
  rw [if_neg (by omega), if_pos (show 0 ≤ (KC up tb).up ∧ (KC up tb).up ≤ 2 ^ 40 from ⟨h.1, by show up ≤ 2 ^ 40; omega⟩)]
  rfl

theorem now {up tb : Int} (h : 0 ≤ up ∧ up < 299) (ht : 0 ≤ tb ∧ tb < 281474976710656) : nowM (KC up tb) = some ((tb + up) % 281474976710656) := by
  unfold nowM
  rw [if_pos (show 0 ≤ (KC up tb).up ∧ (KC up tb).up ≤ 2 ^ 40 ∧ 0 ≤ (KC up tb).tb ∧ (KC up tb).tb < 281474976710656 from ⟨h.1, by show up ≤ 2 ^ 40; omega, ht.1, ht.2⟩)]
  rfl

theorem get {up tb : Int} (h : 0 ≤ up ∧ up < 299) (ht : 0 ≤ tb ∧ tb < 281474976710656) : (KC up tb).call 1 cGetT = some ((0, (tb + up) % 281474976710656), KC up tb) := by
  unfold KM.call
  rw [if_neg (fun h => h rfl)]
  unfold cGetT
  rw [now h ht]
  rfl

theorem state (up tb : Int) : (KC up tb).state 2 = some 4 := rfl

end Clk

/-- ticks in a loop -/
theorem clk_ticks {e w L k A} {f : World → Prop} {n : Int} {u0 tb : Int} (tbE : TabE e) (h : Ok e (kerP k A (Clk.KC u0 tb) :: old e :: L) w) (hn : 0 ≤ n ∧ n < 100) (hu : 0 ≤ u0 ∧ u0 < 100)
    (kk : ∀ w', Ok e (kerP k A (Clk.KC (u0 + n) tb) :: old e :: L) w' → f w') :
    lp [kI] w ((0 : Int), ()) fun (t33 : Int × Unit) J34 w35 => cs (decide ((t33.1 : Int) < n)) (cl Pg 22 [pV k] [kS] w35 fun (r36 : Sl × Unit) w37 => J34 (w64 (t33.1 + 1), ()) w37) (f w35) := by
  refine lp.mk (fun t w1 => ∃ i : Nat, @Eq Int t.1 (i : Int) ∧ (i : Int) ≤ n ∧ Ok e (kerP k A (Clk.KC (u0 + i) tb) :: old e :: L) w1) (fun t _ => Int.toNat (Int.sub n t.1)) ⟨0, rfl, hn.1, by rw [show u0 + ((0 : Nat) : Int) = u0 from Int.add_zero u0]; exact h⟩ ?_
  rintro ⟨(t : Int), _⟩ w1 ⟨i, (rfl : t = (i : Int)), hi, h⟩
  dsimp only
  refine cs.mk (fun h2 => ?_) (fun h2 => ?_)
  · have h2 : (i : Int) < n := of_decide_eq_true h2
    refine call22 (Tick_kern tbE h (Clk.tick ⟨by omega, by omega⟩) fun w2 h => ⟨(nilS, ()), rfl, ⟨i + 1, w64_in (by omega) (by omega), by omega, ?_⟩, ?_⟩)
    · rw [show u0 + ((i + 1 : Nat) : Int) = u0 + (i : Int) + 1 by omega]; exact h
    · show (n - w64 ((i : Int) + 1)).toNat < (n - (i : Int)).toNat
      rw [w64_in (by omega) (by omega)]; omega
  · have h2 : (i : Int) = n := by have := of_decide_eq_false h2; omega
    rw [h2] at h
    exact kk w1 h

theorem clocks_walk {e w L a0 a1 a2 R} (tb : TabE e) (h : Ok e (old e :: L) w) (h0 : 0 ≤ a0 ∧ a0 ≤ 18446744073709551615) (h1 : 0 ≤ a1 ∧ a1 ≤ 255) (h2 : 0 ≤ a2 ∧ a2 ≤ 255) (kk : ∀ w', Ok e (old e :: L) w' → R [.bool true] w') : sh7 a0 a1 a2 R w := by
  unfold sh7
  refine call17 (known_top tb h fun w1 h => ⟨(true, ()), rfl, cs.no rfl ?_⟩)
  have e1 : w64 (Int.tmod a1 100) = a1 % 100 := by rw [Int.tmod_eq_emod_of_nonneg h1.1, w64_in (by omega) (by omega)]
  have e2 : w64 (Int.tmod a2 100) = a2 % 100 := by rw [Int.tmod_eq_emod_of_nonneg h2.1, w64_in (by omega) (by omega)]
  have e0 : w64 (Int.tmod a0 281474976710656) = a0 % 281474976710656 := by rw [Int.tmod_eq_emod_of_nonneg h0.1, w64_in (by omega) (by omega)]
  rw [e0, e1, e2]
  obtain ⟨v, hv⟩ : ∃ v, v = a0 % 281474976710656 := ⟨_, rfl⟩
  obtain ⟨b, hb⟩ : ∃ v, v = a1 % 100 := ⟨_, rfl⟩
  obtain ⟨c, hc⟩ : ∃ v, v = a2 % 100 := ⟨_, rfl⟩
  rw [← hv, ← hb, ← hc]
  have hv1 : 0 ≤ v ∧ v < 281474976710656 := by omega
  have hb1 : 0 ≤ b ∧ b < 100 := by omega
  have hc1 : 0 ≤ c ∧ c < 100 := by omega
  obtain ⟨K0, hK0, hr1⟩ := Option.bind_eq_some_iff.1 Clk.start
  refine al.mk h fun b0 w2 h => ?_
  refine call18 (a0 := ⟨some ⟨b0, 0, none⟩, 2, 2⟩) (tasks_top (l := [5, 1]) (slcOf (l := [5, 1]) h) (by simp) fun x w2 h => ⟨(((1 : Int), x, nilS, nilS, nilS, nilS, nilS, nilS, (0 : Int), ()), ()), rfl, ?_⟩)
  refine al.mk h fun c0 w3 h => ?_
  refine st1.mk h (by simp) fun w1 h => st1.mk h (by simp) fun w1 h => st1.mk h (by simp) fun w1 h => st1.mk h (by simp) fun w1 h => st1.mk h (by simp) fun w1 h => st1.mk h (by simp) fun w1 h => st1.mk h (by simp) fun w1 h => st1.mk h (by simp) fun w1 h => st1.mk h (by simp) fun w1 h => ?_
  refine ldI.mk (h.cell rfl) (ldS.mk (h.cell rfl) (ldS.mk (h.cell rfl) (ldS.mk (h.cell rfl) (ldS.mk (h.cell rfl) (ldS.mk (h.cell rfl) (ldS.mk (h.cell rfl) (ldS.mk (h.cell rfl) (ldI.mk (h.cell rfl) ?_))))))))
  refine call19 (a0 := cfV Clk.cf ⟨x, nilS, nilS, nilS, nilS⟩) (open_top tb (conf_tasks 1 h.drop) (by decide) hK0 fun k A w3 h => ⟨(some ⟨k, 0, none⟩, ()), rfl, cs.no rfl ?_⟩)
  have h : Ok e (kerP k A K0 :: old e :: L) w3 := (h.emb (by repeat' (first | with_reducible exact Emb.same _ | exact Emb.nil _ | refine Emb.cons (by with_reducible first | exact sl0 | exact .there sl0 | exact .there sl1 | exact .there sl2 | exact .there sl3 | exact .there sl4 | exact .there sl5 | exact .there sl6 | exact .there sl7 | exact .there sl8 | exact .there sl9 | exact .there sl10 | exact .there sl11 | exact .there sl12) ?_ | refine Emb.skip ?_)))
  refine al.mk h fun b1 w4 h => ?_
  refine call20 (a2 := ⟨some ⟨b1, 0, none⟩, 1, 1⟩) (do_top (n := 22) (xs := [299]) (do_22 tb) (slcOf (l := [299]) h) (by simp) hr1 fun w5 h => ⟨((1 : Int), (0 : Int), ()), rfl, ?_⟩)
  refine clk_ticks tb h hb1 (by decide) fun w6 h => ?_
  rw [Int.zero_add] at h
  refine al.mk h fun b1 w4 h => ?_
  refine call20 (a2 := ⟨some ⟨b1, 0, none⟩, 1, 1⟩) (do_top (n := 51) (xs := [v]) (do_51 tb) (slcOf (l := [v]) h) (by simp) (Clk.set ⟨hb1.1, by omega⟩ hv1) fun w5 h => ⟨((0 : Int), (0 : Int), ()), rfl, ?_⟩)
  refine clk_ticks tb h hc1 hb1 fun w6 h => ?_
  have ht : 0 ≤ (v - b) % 281474976710656 ∧ (v - b) % 281474976710656 < 281474976710656 := by omega
  have hn : ((v - b) % 281474976710656 + (b + c)) % 281474976710656 = (v + c) % 281474976710656 := by omega
  have hg := Clk.get (up := b + c) ⟨by omega, by omega⟩ ht
  have hw := Clk.now (up := b + c) ⟨by omega, by omega⟩ ht
  rw [hn] at hg hw
  obtain ⟨z, hz⟩ : ∃ z, z = (v + c) % 281474976710656 := ⟨_, rfl⟩
  have hz1 : 0 ≤ z ∧ z < 281474976710656 := by omega
  have e5 : Int.tmod (w64 (v + c)) 281474976710656 = z := by rw [w64_in (by omega) (by omega), Int.tmod_eq_emod_of_nonneg (by omega), hz]
  have e6 : IntKind.u64.wrap z = z := u64_in (by omega) (by omega)
  rw [← hz] at hg hw
  refine call20 (a2 := nilS) (do_top (n := 52) (xs := []) (do_52 tb) (h.slcNil 1) (by simp) hg fun w7 h => ⟨((0 : Int), z, ()), rfl, ?_⟩)
  dsimp only
  rw [e5, e6]
  refine jn.mk fun J1 hJ1 => cs.yes rfl (hJ1 _ _ ?_)
  refine jn.mk fun J2 hJ2 => cs.yes rfl (hJ2 _ _ ?_)
  refine jn.mk fun J3 hJ3 => cs.yes (by simp) (call26 (Now_kern h hw fun w8 h => ⟨(z, ()), rfl, hJ3 _ _ ?_⟩))
  refine jn.mk fun J4 hJ4 => cs.yes (by simp) (call21 (Running_kern h ⟨((1 : Int), ()), rfl, hJ4 _ _ ?_⟩))
  refine jn.mk fun J5 hJ5 => cs.yes rfl (call27 (state_top h (Clk.state _ _) fun w9 h => ⟨((4 : Int), ()), rfl, hJ5 _ _ ?_⟩))
  exact kk w9 h.drop

theorem wf_u64 {x : Int} (h : (Lit.int .u64 x).wf = true) : 0 ≤ x ∧ x ≤ 18446744073709551615 := by simpa [Lit.wf, IntKind.min, IntKind.max, IntKind.signed, IntKind.bits] using h

theorem TopClocks_walk {W a0 a1 a2} (tb : TabE W) (h0 : (Lit.int .u64 a0).wf = true) (h1 : (Lit.int .u8 a1).wf = true) (h2 : (Lit.int .u8 a2).wf = true) : sh7 a0 a1 a2 (fun vs w' => vs = [.bool true] ∧ Ok W [old W] w') W :=
  clocks_walk tb (Ok.start W) (wf_u64 h0) (wf_u8 h1) (wf_u8 h2) fun w' h => ⟨rfl, h⟩

end Go.Proofs.YtenonfkfoedfmaaGreatDoor.B

