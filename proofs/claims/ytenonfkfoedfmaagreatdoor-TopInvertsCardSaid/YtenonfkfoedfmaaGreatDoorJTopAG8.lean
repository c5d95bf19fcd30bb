/- Texts of ours, joined: InvW, InvW2. -/
import Derived.Test.YtenonfkfoedfmaaGreatDoorJTopA7
import Derived.Test.YtenonfkfoedfmaaGreatDoorJTopAG1
import Derived.Test.YtenonfkfoedfmaaGreatDoorJTopAG2
import Derived.Test.YtenonfkfoedfmaaGreatDoorJTopAG3
set_option linter.unusedSimpArgs false
set_option linter.unusedVariables false
/- TopInverts. -/
namespace Go.Proofs.YtenonfkfoedfmaaGreatDoor.B
open Go
set_option linter.unusedVariables false

/-- the law, as plain Lean: the kernel of three tasks and a mutex -/
def invM (a b h : Int) (inh : Bool) : Option Bool :=
  (KM.new ⟨1, [(a, true), (b, false), (h, false)], [], [], [(if inh = true then 2 else 1, 0)], []⟩).bind fun K0 =>
  (K0.call 2 (KM.cLoc 1)).bind fun r1 =>
  (r1.2.call 1 (KM.cAct 3)).bind fun r2 =>
  (r2.2.call 2 (KM.cLoc 1)).bind fun r3 =>
  (r3.2.call 1 (KM.cAct 2)).bind fun r4 => some (decide (r4.2.who = if inh = true then 1 else 2))

/-- all priorities -/
def invAll (inh : Bool) : Bool := (List.range 16).all fun a => (List.range a).all fun b => (List.range b).all fun h => invM (1 + (a : Int)) (1 + (b : Int)) (1 + (h : Int)) inh == some true

theorem invAll_f : invAll false = true := by decide +kernel

theorem invAll_t : invAll true = true := by decide +kernel

end Go.Proofs.YtenonfkfoedfmaaGreatDoor.B


/- TopInverts: the walk. -/
namespace Go.Proofs.YtenonfkfoedfmaaGreatDoor.B
open Go
set_option linter.unusedVariables false

theorem invM_true {a b h : Int} {inh : Bool} (ha : 0 ≤ a ∧ a < 16) (hb : 0 ≤ b ∧ b < a) (hh : 0 ≤ h ∧ h < b) : invM (1 + a) (1 + b) (1 + h) inh = some true := by
  have h0 : invAll inh = true := by cases inh; exact invAll_f; exact invAll_t
  have h1 := List.all_eq_true.1 h0 a.toNat (List.mem_range.2 (by omega))
  have h2 := List.all_eq_true.1 h1 b.toNat (List.mem_range.2 (by omega))
  have h3 := List.all_eq_true.1 h2 h.toNat (List.mem_range.2 (by omega))
  rw [Int.toNat_of_nonneg ha.1, Int.toNat_of_nonneg hb.1, Int.toNat_of_nonneg hh.1] at h3
  simpa using h3

def invC (a b h : Int) (inh : Bool) : ConfM := ⟨1, [(a, true), (b, false), (h, false)], [], [], [(if inh = true then 2 else 1, 0)], []⟩

theorem ok_inv {a b h : Int} {inh : Bool} (ha : 1 ≤ a ∧ a ≤ 16) (hb : 1 ≤ b ∧ b ≤ 16) (hh : 1 ≤ h ∧ h ≤ 16) : (invC a b h inh).ok = true := by
  unfold invC
  simp only [ConfM.ok, poolsOk, Bool.and_eq_true, decide_eq_true_eq, List.all_cons, List.all_nil, List.length_cons, List.length_nil]
  refine ⟨⟨⟨⟨⟨by omega, ?_⟩, ?_⟩, ?_⟩, ?_⟩, ?_⟩ <;> first | trivial | exact ⟨ha, hb, hh, trivial⟩ | (cases inh <;> exact ⟨rfl, trivial⟩)

theorem inverts_walk {e L w a0 a1 a2 a3 R} (tb : TabE e) (h : Ok e (old e :: L) w) (h0 : 0 ≤ a0 ∧ a0 ≤ 255) (h1 : 0 ≤ a1 ∧ a1 ≤ 255) (h2 : 0 ≤ a2 ∧ a2 ≤ 255) (kk : ∀ w', Ok e (old e :: L) w' → R [.bool true] w') : sh4 a0 a1 a2 a3 R w := by
  unfold sh4
  refine call17 (known_top tb h fun w1 h => ⟨(true, ()), rfl, cs.no rfl ?_⟩)
  obtain ⟨e1, e2, e3⟩ := w64_mod (a := a0) (m := 16) h0.1 (by decide)
  obtain ⟨f1, f2, f3⟩ := w64_mod (a := a1) (m := 16) h1.1 (by decide)
  obtain ⟨g1, g2, g3⟩ := w64_mod (a := a2) (m := 16) h2.1 (by decide)
  rw [e1, f1, g1]
  refine jn.bool (decide (a2 % 16 < a1 % 16 ∧ a1 % 16 < a0 % 16)) (fun J hJ => cs.mk (fun hc => ?_) (fun hc => ?_)) (cs.mk (fun hc => kk _ h) (fun hc => ?_))
  · have hc := of_decide_eq_true hc
    rw [show decide (1 + a1 % 16 < 1 + a0 % 16) = decide (a2 % 16 < a1 % 16 ∧ a1 % 16 < a0 % 16) from decide_eq_decide.2 (by omega)]
    exact hJ
  · have hc := of_decide_eq_false hc
    rw [decide_eq_false (by omega)] at hJ
    exact hJ
  have hc : a2 % 16 < a1 % 16 ∧ a1 % 16 < a0 % 16 := by simpa using hc
  have hM := invM_true (a := a0 % 16) (b := a1 % 16) (h := a2 % 16) (inh := a3) ⟨e2, e3⟩ ⟨f2, hc.2⟩ ⟨g2, hc.1⟩
  obtain ⟨a, ha⟩ : ∃ q, q = 1 + a0 % 16 := ⟨_, rfl⟩
  obtain ⟨b', hb⟩ : ∃ q, q = 1 + a1 % 16 := ⟨_, rfl⟩
  obtain ⟨c', hc'⟩ : ∃ q, q = 1 + a2 % 16 := ⟨_, rfl⟩
  rw [← ha, ← hb, ← hc'] at hM ⊢
  have ha1 : 1 ≤ a ∧ a ≤ 16 := by omega
  have hb1 : 1 ≤ b' ∧ b' ≤ 16 := by omega
  have hc1 : 1 ≤ c' ∧ c' ≤ 16 := by omega
  unfold invM at hM
  obtain ⟨K0, hK0, hM⟩ := Option.bind_eq_some_iff.1 hM
  obtain ⟨r1, hr1, hM⟩ := Option.bind_eq_some_iff.1 hM
  obtain ⟨r2, hr2, hM⟩ := Option.bind_eq_some_iff.1 hM
  obtain ⟨r3, hr3, hM⟩ := Option.bind_eq_some_iff.1 hM
  obtain ⟨r4, hr4, hM⟩ := Option.bind_eq_some_iff.1 hM
  have hM := of_decide_eq_true (Option.some.inj hM)
  refine al.mk h fun b w2 h => ?_
  refine call18 (a0 := ⟨some ⟨b, 0, none⟩, 3, 3⟩) (tasks_top (l := [a, b', c']) (slcOf (l := [a, b', c']) h) (by simp) fun x w2 h => ⟨(((1 : Int), x, nilS, nilS, nilS, nilS, nilS, nilS, (0 : Int), ()), ()), rfl, ?_⟩)
  refine al.mk h fun c w3 h => ?_
  refine st1.mk h (by simp) fun w1 h => st1.mk h (by simp) fun w1 h => st1.mk h (by simp) fun w1 h => st1.mk h (by simp) fun w1 h => st1.mk h (by simp) fun w1 h => st1.mk h (by simp) fun w1 h => st1.mk h (by simp) fun w1 h => st1.mk h (by simp) fun w1 h => st1.mk h (by simp) fun w1 h => ?_
  refine ldS.mk (h.cell rfl) (st_task (i := 1) (x := (b', true)) (c := false) h.p1 rfl fun w4 h => ?_)
  refine ldS.mk (h.p1.cell rfl) (st_task (i := 2) (x := (c', true)) (c := false) h rfl fun w4 h => ?_)
  refine al.mk h fun d w5 h => st1.mk h.p2 (by simp) fun w6 h => ?_
  have h : Ok e (pts c [.int .i64 1, vS x, vS nilS, vS nilS, vS nilS, vS ⟨some ⟨d, 0, none⟩, 1, 1⟩, vS nilS, vS nilS, .int .i64 0] :: pts d [.int .i64 1, .int .i64 0] :: slc 2 x (flat taC [(a, true), (b', false), (c', false)]) :: old e :: L) w6 := h
  refine jn.at (t := ()) (fun w6 => Ok e (pts c [.int .i64 1, vS x, vS nilS, vS nilS, vS nilS, vS ⟨some ⟨d, 0, none⟩, 1, 1⟩, vS nilS, vS nilS, .int .i64 0] :: pts d [.int .i64 (if a3 = true then 2 else 1), .int .i64 0] :: slc 2 x (flat taC [(a, true), (b', false), (c', false)]) :: old e :: L) w6) (fun J hJ => cs.mk (fun h3 => ?_) (fun h3 => ?_)) (fun w6 h => ?_)
  · refine ldS.mk (h.cell rfl) ⟨d, 0, rfl, by decide, (show (0 : Int) < ((1 : Nat) : Int) by decide), st1.mk h.p1 (by simp) fun w7 h => hJ w7 ?_⟩
    rw [if_pos h3]
    exact h.p1
  · refine hJ w6 ?_
    rw [if_neg (by rw [h3]; decide)]
    exact h
  refine ldI.mk (h.cell rfl) (ldS.mk (h.cell rfl) (ldS.mk (h.cell rfl) (ldS.mk (h.cell rfl) (ldS.mk (h.cell rfl) (ldS.mk (h.cell rfl) (ldS.mk (h.cell rfl) (ldS.mk (h.cell rfl) (ldI.mk (h.cell rfl) ?_))))))))
  have h : Ok e (slc 2 x (flat taC [(a, true), (b', false), (c', false)]) :: slc 2 ⟨some ⟨d, 0, none⟩, 1, 1⟩ (flat kdC [((if a3 = true then 2 else 1 : Int), (0 : Int))]) :: old e :: L) w6 :=
    (Ok.slcNew (vs := flat kdC [((if a3 = true then 2 else 1 : Int), (0 : Int))]) (sz := 2) (n := 1) (h.drop : Ok e (pts d (flat kdC [((if a3 = true then 2 else 1 : Int), (0 : Int))]) :: slc 2 x (flat taC [(a, true), (b', false), (c', false)]) :: old e :: L) w6) rfl (flat_one kdC_one1)).p1
  refine call19 (a0 := cfV (invC a b' c' a3) ⟨x, nilS, nilS, ⟨some ⟨d, 0, none⟩, 1, 1⟩, nilS⟩) (open_top tb (conf_mtxs 1 h) (ok_inv ha1 hb1 hc1) hK0 fun k A w3 h => ⟨(some ⟨k, 0, none⟩, ()), rfl, cs.no rfl ?_⟩)
  have h : Ok e (kerP k A K0 :: old e :: L) w3 := (h.emb (by repeat' (first | with_reducible exact Emb.same _ | exact Emb.nil _ | refine Emb.cons (by with_reducible first | exact sl0 | exact .there sl0 | exact .there sl1 | exact .there sl2 | exact .there sl3 | exact .there sl4 | exact .there sl5 | exact .there sl6 | exact .there sl7 | exact .there sl8 | exact .there sl9 | exact .there sl10 | exact .there sl11 | exact .there sl12) ?_ | refine Emb.skip ?_)))
  refine al.mk h fun b1 w4 h => ?_
  refine call20 (a2 := ⟨some ⟨b1, 0, none⟩, 1, 1⟩) (do_top (n := 43) (xs := [1]) (do_43 tb) (slcOf (l := [1]) h) (by simp) hr1 fun w5 h => ⟨(r1.1.1, r1.1.2, ()), rfl, ?_⟩)
  refine al.mk h fun b1 w4 h => ?_
  refine call20 (a2 := ⟨some ⟨b1, 0, none⟩, 1, 1⟩) (do_top (n := 1) (xs := [3]) (do_1 tb) (slcOf (l := [3]) h) (by simp) hr2 fun w5 h => ⟨(r2.1.1, r2.1.2, ()), rfl, ?_⟩)
  refine al.mk h fun b1 w4 h => ?_
  refine call20 (a2 := ⟨some ⟨b1, 0, none⟩, 1, 1⟩) (do_top (n := 43) (xs := [1]) (do_43 tb) (slcOf (l := [1]) h) (by simp) hr3 fun w5 h => ⟨(r3.1.1, r3.1.2, ()), rfl, ?_⟩)
  refine al.mk h fun b1 w4 h => ?_
  refine call20 (a2 := ⟨some ⟨b1, 0, none⟩, 1, 1⟩) (do_top (n := 1) (xs := [2]) (do_1 tb) (slcOf (l := [2]) h) (by simp) hr4 fun w5 h => ⟨(r4.1.1, r4.1.2, ()), rfl, ?_⟩)
  refine cs.mk (fun h3 => call21 (Running_kern h ⟨(r4.2.who, ()), rfl, ?_⟩)) (fun h3 => call21 (Running_kern h ⟨(r4.2.who, ()), rfl, ?_⟩))
  · rw [if_pos h3] at hM
    dsimp only
    rw [hM]
    exact kk _ h.drop
  · rw [if_neg (by rw [h3]; decide)] at hM
    dsimp only
    rw [hM]
    exact kk _ h.drop

theorem TopInverts_walk {W a0 a1 a2 a3} (tb : TabE W) (h0 : (Lit.int .u8 a0).wf = true) (h1 : (Lit.int .u8 a1).wf = true) (h2 : (Lit.int .u8 a2).wf = true) : sh4 a0 a1 a2 a3 (fun vs w' => vs = [.bool true] ∧ Ok W [old W] w') W :=
  inverts_walk tb (Ok.start W) (wf_u8 h0) (wf_u8 h1) (wf_u8 h2) fun w' h => ⟨rfl, h⟩

end Go.Proofs.YtenonfkfoedfmaaGreatDoor.B

