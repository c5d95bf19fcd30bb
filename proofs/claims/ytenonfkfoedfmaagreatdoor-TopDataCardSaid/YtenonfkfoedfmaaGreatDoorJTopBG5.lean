/- Texts of ours, joined: Grp12, Dta, Grp13, DatW. -/
import Derived.Test.YtenonfkfoedfmaaGreatDoorJTopB7
import Derived.Test.YtenonfkfoedfmaaGreatDoorJTopBG2
set_option linter.unusedSimpArgs false
set_option linter.unusedVariables false
/- Calls of data queues. -/
namespace Go.Proofs.YtenonfkfoedfmaaGreatDoor.B
open Go
set_option linter.unusedVariables false

def cTsd (o x : Int) (K : KM) : Option ((Int × Int) × KM) :=
  if ¬ (1 ≤ o ∧ o ≤ K.datas.length) then some ((-18, 0), K)
  else (getO K.datas (o - 1)).bind fun p => (KM.woken x [(p.q.trySend p.room x).1.2] { K with datas := K.datas.set (o - 1).toNat { p with q := (p.q.trySend p.room x).2 } }).map fun K => (if (p.q.trySend p.room x).1.1 = true then (0, 0) else (-50, 0), K)

def cTrc (o : Int) (K : KM) : Option ((Int × Int) × KM) :=
  if ¬ (1 ≤ o ∧ o ≤ K.datas.length) then some ((-18, 0), K)
  else (getO K.datas (o - 1)).bind fun p => (KM.woken 0 [p.q.tryRecv.1.2.2] { K with datas := K.datas.set (o - 1).toNat { p with q := p.q.tryRecv.2 } }).map fun K => (if p.q.tryRecv.1.2.1 = true then (0, p.q.tryRecv.1.1) else (-50, 0), K)

theorem data_35 {e k A K r x0 x1 x2 x3} (hm : cTsd x0 x1 K = some r) : GrpC e k A K r (sh82 (some ⟨k, 0, none⟩) (((35 : Nat) : Int), x0, x1, x2, x3, ())) := by
  intro L w R h kk
  unfold cTsd at hm
  unfold sh82
  refine al.mk h fun b w1 h => al.mk h fun d w2 h => ⟨by decide, by decide, ldI.mk (h.p1.cell rfl) ?_⟩
  obtain ⟨ho, h2⟩ := kerE h.p2
  have hsl := ptrs_len ((Ok.emb (h2) (.cons (A := datasP A.ds K.datas) (by with_reducible first | exact sl0 | exact .there sl0 | exact .there sl1 | exact .there sl2 | exact .there sl3 | exact .there sl4 | exact .there sl5 | exact .there sl6 | exact .there sl7 | exact .there sl8 | exact .there sl9 | exact .there sl10 | exact .there sl11 | exact .there sl12) (.same _))))
  have hs8 := ho.datas
  refine nn.mk (ldS.mk (h2.cell rfl) ?_)
  have hin := clO_in (x := x0) (n := (K.datas.length : Int)) (by omega)
  have hcl := clO_le (x := x0)
  refine call149 (a1 := clO x0) ?_
  unfold sh149
  by_cases hb : 1 ≤ x0 ∧ x0 ≤ K.datas.length
  · rw [if_neg (fun hx => hx hb)] at hm
    have hx : clO x0 = x0 := clO_eq (by omega)
    rw [hx]
    refine jn.bool false (fun J hJ => cs.no (decide_eq_false (by omega)) ?_) (cs.no rfl ?_)
    · rw [show decide ((x0 : Int) > ((A.ds.len : Int) : Int)) = false from decide_eq_false (by simp at hsl; omega)]
      exact hJ
    obtain ⟨i, hi⟩ : ∃ i : Nat, x0 - 1 = (i : Int) := ⟨(x0 - 1).toNat, by omega⟩
    have hil : i < K.datas.length := by omega
    have hg : getO K.datas (x0 - 1) = some K.datas[i] := by rw [hi, getO_nat]; exact List.getElem?_eq_getElem hil
    rw [hg] at hm
    generalize hs : K.datas[i] = s at hm
    have hsi : K.datas[i]? = some s := by rw [List.getElem?_eq_getElem hil, hs]
    obtain ⟨q, H, h3, back, read⟩ := ptrs_open ((Ok.emb (h2) (.cons (A := datasP A.ds K.datas) (by with_reducible first | exact sl0 | exact .there sl0 | exact .there sl1 | exact .there sl2 | exact .there sl3 | exact .there sl4 | exact .there sl5 | exact .there sl6 | exact .there sl7 | exact .there sl8 | exact .there sl9 | exact .there sl10 | exact .there sl11 | exact .there sl12) (.same _)))) hsi
    rw [show (x0 - 1).toNat = i by omega, Option.bind_some] at hm
    have close : ∀ w' s', Ok e (datQ q s' :: H :: pts k (kC A K) :: unitsP A.ub A.us K.us :: semsP A.ss K.sems :: flgP A.fs :: poolsP A.ps K.pools :: mmP A.lk K.mm :: placeP A.pl K.pl :: hnP A.hn K.tic K.up K.tb K.last K.ents :: rdyP A.rq K.rdy :: pts d [.int .i64 0, .int .i64 0] :: pts b [.int .i64 ((35 : Nat) : Int), .int .i64 x0, .int .i64 x1, .int .i64 x2, .int .i64 x3] :: old e :: L) w' →
        Ok e (pts d [.int .i64 0, .int .i64 0] :: kerP k A { K with datas := K.datas.set i s' } :: pts b [.int .i64 ((35 : Nat) : Int), .int .i64 x0, .int .i64 x1, .int .i64 x2, .int .i64 x3] :: old e :: L) w' := fun w' s' h => by
      have h := back s' e _ w' h
      have h : Ok e (datasP A.ds (K.datas.set i s') :: pts k (kC A K) :: unitsP A.ub A.us K.us :: semsP A.ss K.sems :: flgP A.fs :: poolsP A.ps K.pools :: mmP A.lk K.mm :: placeP A.pl K.pl :: hnP A.hn K.tic K.up K.tb K.last K.ents :: rdyP A.rq K.rdy :: pts d [.int .i64 0, .int .i64 0] :: pts b [.int .i64 ((35 : Nat) : Int), .int .i64 x0, .int .i64 x1, .int .i64 x2, .int .i64 x3] :: old e :: L) w' := h
      exact (kerI (A := A) (K := { K with datas := K.datas.set i s' }) (L := pts d [.int .i64 0, .int .i64 0] :: pts b [.int .i64 ((35 : Nat) : Int), .int .i64 x0, .int .i64 x1, .int .i64 x2, .int .i64 x3] :: old e :: L) ⟨ho.t0, ho.t1, ho.us, ho.sems, (by show (K.datas.set i s').length ≤ 8; rw [List.length_set]; exact ho.datas), ho.pools⟩ (h.emb (by repeat' (first | with_reducible exact Emb.same _ | exact Emb.nil _ | refine Emb.cons (by with_reducible first | exact sl0 | exact .there sl0 | exact .there sl1 | exact .there sl2 | exact .there sl3 | exact .there sl4 | exact .there sl5 | exact .there sl6 | exact .there sl7 | exact .there sl8 | exact .there sl9 | exact .there sl10 | exact .there sl11 | exact .there sl12) ?_ | refine Emb.skip ?_)))).p1
    have h : Ok e (datQ q s :: H :: pts k (kC A K) :: unitsP A.ub A.us K.us :: semsP A.ss K.sems :: flgP A.fs :: poolsP A.ps K.pools :: mmP A.lk K.mm :: placeP A.pl K.pl :: hnP A.hn K.tic K.up K.tb K.last K.ents :: rdyP A.rq K.rdy :: pts d [.int .i64 0, .int .i64 0] :: pts b [.int .i64 ((35 : Nat) : Int), .int .i64 x0, .int .i64 x1, .int .i64 x2, .int .i64 x3] :: old e :: L) w2 := (Ok.emb (h3) (by repeat' (first | with_reducible exact Emb.same _ | exact Emb.nil _ | refine Emb.cons (by with_reducible first | exact sl0 | exact .there sl0 | exact .there sl1 | exact .there sl2 | exact .there sl3 | exact .there sl4 | exact .there sl5 | exact .there sl6 | exact .there sl7 | exact .there sl8 | exact .there sl9 | exact .there sl10 | exact .there sl11 | exact .there sl12) ?_ | refine Emb.skip ?_)))
    clear h2 h3
    rw [w64_in (by omega) (by omega)]
    refine read e _ w2 (x0 - 1) _ h.p1 (by rw [hi]; simp) fun b2 o2 hc => ldP.mk hc ⟨(some ⟨q, 0, none⟩, true, ()), rfl, ?_⟩
    refine ldI.mk (by refine Ok.cellS h (by with_reducible first | exact sl0 | exact .there sl0 | exact .there sl1 | exact .there sl2 | exact .there sl3 | exact .there sl4 | exact .there sl5 | exact .there sl6 | exact .there sl7 | exact .there sl8 | exact .there sl9 | exact .there sl10 | exact .there sl11 | exact .there sl12) ?_; rfl) (ldI.mk (by refine Ok.cellS h (by with_reducible first | exact sl0 | exact .there sl0 | exact .there sl1 | exact .there sl2 | exact .there sl3 | exact .there sl4 | exact .there sl5 | exact .there sl6 | exact .there sl7 | exact .there sl8 | exact .there sl9 | exact .there sl10 | exact .there sl11 | exact .there sl12) ?_; rfl) (ldI.mk (by refine Ok.cellS h (by with_reducible first | exact sl0 | exact .there sl0 | exact .there sl1 | exact .there sl2 | exact .there sl3 | exact .there sl4 | exact .there sl5 | exact .there sl6 | exact .there sl7 | exact .there sl8 | exact .there sl9 | exact .there sl10 | exact .there sl11 | exact .there sl12) ?_; rfl) (ldI.mk (by refine Ok.cellS h (by with_reducible first | exact sl0 | exact .there sl0 | exact .there sl1 | exact .there sl2 | exact .there sl3 | exact .there sl4 | exact .there sl5 | exact .there sl6 | exact .there sl7 | exact .there sl8 | exact .there sl9 | exact .there sl10 | exact .there sl11 | exact .there sl12) ?_; rfl) (ldI.mk (by refine Ok.cellS h (by with_reducible first | exact sl0 | exact .there sl0 | exact .there sl1 | exact .there sl2 | exact .there sl3 | exact .there sl4 | exact .there sl5 | exact .there sl6 | exact .there sl7 | exact .there sl8 | exact .there sl9 | exact .there sl10 | exact .there sl11 | exact .there sl12) ?_; rfl) ?_))))
    refine call141 (a0 := (((35 : Nat) : Int), x0, x1, x2, x3, ())) (timeout_zero h fun w3 h => ⟨((0 : Int), ()), rfl, ldI.mk (by refine Ok.cellS h (by with_reducible first | exact sl0 | exact .there sl0 | exact .there sl1 | exact .there sl2 | exact .there sl3 | exact .there sl4 | exact .there sl5 | exact .there sl6 | exact .there sl7 | exact .there sl8 | exact .there sl9 | exact .there sl10 | exact .there sl11 | exact .there sl12) ?_; rfl) ?_⟩)
    refine jn.mk fun J1 hJ1 => cs.no rfl (hJ1 _ _ (ldI.mk (by refine Ok.cellS h (by with_reducible first | exact sl0 | exact .there sl0 | exact .there sl1 | exact .there sl2 | exact .there sl3 | exact .there sl4 | exact .there sl5 | exact .there sl6 | exact .there sl7 | exact .there sl8 | exact .there sl9 | exact .there sl10 | exact .there sl11 | exact .there sl12) ?_; rfl) (jn.mk fun J2 hJ2 => cs.no rfl (hJ2 _ _ (cs.no rfl ?_)))))
    clear hJ1 hJ2 J1 J2
    refine call136 (late_kern ⟨(true, ()), rfl, cs.no rfl (ldI.mk (by refine Ok.cellS h (by with_reducible first | exact sl0 | exact .there sl0 | exact .there sl1 | exact .there sl2 | exact .there sl3 | exact .there sl4 | exact .there sl5 | exact .there sl6 | exact .there sl7 | exact .there sl8 | exact .there sl9 | exact .there sl10 | exact .there sl11 | exact .there sl12) ?_; rfl) ?_)⟩)
    refine jn.mk fun J1 hJ1 => cs.no rfl (ldI.mk (by refine Ok.cellS h (by with_reducible first | exact sl0 | exact .there sl0 | exact .there sl1 | exact .there sl2 | exact .there sl3 | exact .there sl4 | exact .there sl5 | exact .there sl6 | exact .there sl7 | exact .there sl8 | exact .there sl9 | exact .there sl10 | exact .there sl11 | exact .there sl12) ?_; rfl) (hJ1 _ _ (cs.no rfl (ldI.mk (by refine Ok.cellS h (by with_reducible first | exact sl0 | exact .there sl0 | exact .there sl1 | exact .there sl2 | exact .there sl3 | exact .there sl4 | exact .there sl5 | exact .there sl6 | exact .there sl7 | exact .there sl8 | exact .there sl9 | exact .there sl10 | exact .there sl11 | exact .there sl12) ?_; rfl) (cs.yes rfl ⟨by decide, by decide, ldI.mk (by refine Ok.cellS h (by with_reducible first | exact sl0 | exact .there sl0 | exact .there sl1 | exact .there sl2 | exact .there sl3 | exact .there sl4 | exact .there sl5 | exact .there sl6 | exact .there sl7 | exact .there sl8 | exact .there sl9 | exact .there sl10 | exact .there sl11 | exact .there sl12) ?_; rfl) ?_⟩)))))
    clear hJ1 J1
    obtain ⟨m1, h⟩ := h.pureE
    obtain ⟨K', hK, rfl⟩ := Option.map_eq_some_iff.1 hm
    refine call151 (TrySend_dtq h m1 fun w4 h => ⟨((s.q.trySend s.room x1).1.1, (s.q.trySend s.room x1).1.2, ()), rfl, by decide, by decide, ldI.mk (by refine Ok.cellS h (by with_reducible first | exact sl0 | exact .there sl0 | exact .there sl1 | exact .there sl2 | exact .there sl3 | exact .there sl4 | exact .there sl5 | exact .there sl6 | exact .there sl7 | exact .there sl8 | exact .there sl9 | exact .there sl10 | exact .there sl11 | exact .there sl12) ?_; rfl) ?_⟩)
    have h := h.imp (B := datQ q { s with q := (s.q.trySend s.room x1).2 }) fun k hk => ⟨trySend_ok m1, hk⟩
    have h := close w4 _ h
    refine al.mk h fun f w5 h => ?_
    have h : Ok e (slc 1 ⟨some ⟨f, 0, none⟩, 1, 1⟩ (ints [(s.q.trySend s.room x1).1.2]) :: pts d [.int .i64 0, .int .i64 0] :: kerP k A { K with datas := K.datas.set i { s with q := (s.q.trySend s.room x1).2 } } :: pts b [.int .i64 ((35 : Nat) : Int), .int .i64 x0, .int .i64 x1, .int .i64 x2, .int .i64 x3] :: old e :: L) w5 := slcOf (l := [(s.q.trySend s.room x1).1.2]) h
    refine call143 (a2 := ⟨some ⟨f, 0, none⟩, 1, 1⟩) (woken_kern (l := [(s.q.trySend s.room x1).1.2]) ((Ok.emb (h) (.cons (A := kerP k A { K with datas := K.datas.set i { s with q := (s.q.trySend s.room x1).2 } }) (by with_reducible first | exact sl0 | exact .there sl0 | exact .there sl1 | exact .there sl2 | exact .there sl3 | exact .there sl4 | exact .there sl5 | exact .there sl6 | exact .there sl7 | exact .there sl8 | exact .there sl9 | exact .there sl10 | exact .there sl11 | exact .there sl12) (.cons (A := slc 1 ⟨some ⟨f, 0, none⟩, 1, 1⟩ (ints [(s.q.trySend s.room x1).1.2])) (by with_reducible first | exact sl0 | exact .there sl0 | exact .there sl1 | exact .there sl2 | exact .there sl3 | exact .there sl4 | exact .there sl5 | exact .there sl6 | exact .there sl7 | exact .there sl8 | exact .there sl9 | exact .there sl10 | exact .there sl11 | exact .there sl12) (.same _))))) (by simp) hK fun w6 h => ⟨(), rfl, ?_⟩)
    refine cs.mk (fun h5 => ?_) (fun h5 => cs.yes rfl ?_)
    · have h5 : (s.q.trySend s.room x1).1.1 = true := h5
      rw [if_pos h5] at kk
      exact fin_code ((Ok.emb (h) (.cons (A := pts d [.int .i64 0, .int .i64 0]) (by with_reducible first | exact sl0 | exact .there sl0 | exact .there sl1 | exact .there sl2 | exact .there sl3 | exact .there sl4 | exact .there sl5 | exact .there sl6 | exact .there sl7 | exact .there sl8 | exact .there sl9 | exact .there sl10 | exact .there sl11 | exact .there sl12) (.same _)))) fun w6 h => kk w6 (h.emb (by repeat' (first | with_reducible exact Emb.same _ | exact Emb.nil _ | refine Emb.cons (by with_reducible first | exact sl0 | exact .there sl0 | exact .there sl1 | exact .there sl2 | exact .there sl3 | exact .there sl4 | exact .there sl5 | exact .there sl6 | exact .there sl7 | exact .there sl8 | exact .there sl9 | exact .there sl10 | exact .there sl11 | exact .there sl12) ?_ | refine Emb.skip ?_)))
    · have h5 : (s.q.trySend s.room x1).1.1 = false := h5
      rw [if_neg (by rw [h5]; decide)] at kk
      exact fin_code ((Ok.emb (h) (.cons (A := pts d [.int .i64 0, .int .i64 0]) (by with_reducible first | exact sl0 | exact .there sl0 | exact .there sl1 | exact .there sl2 | exact .there sl3 | exact .there sl4 | exact .there sl5 | exact .there sl6 | exact .there sl7 | exact .there sl8 | exact .there sl9 | exact .there sl10 | exact .there sl11 | exact .there sl12) (.same _)))) fun w6 h => kk w6 (h.emb (by repeat' (first | with_reducible exact Emb.same _ | exact Emb.nil _ | refine Emb.cons (by with_reducible first | exact sl0 | exact .there sl0 | exact .there sl1 | exact .there sl2 | exact .there sl3 | exact .there sl4 | exact .there sl5 | exact .there sl6 | exact .there sl7 | exact .there sl8 | exact .there sl9 | exact .there sl10 | exact .there sl11 | exact .there sl12) ?_ | refine Emb.skip ?_)))
  · rw [if_pos hb] at hm
    cases hm
    refine jn.bool true (fun J hJ => cs.mk (fun _ => hJ) (fun hc => ?_)) (cs.yes rfl ⟨(none, false, ()), rfl, ?_⟩)
    · have hc : ¬ clO x0 < 1 := of_decide_eq_false hc
      rw [show decide ((clO x0 : Int) > ((A.ds.len : Int) : Int)) = true from decide_eq_true (by simp at hsl; omega)]
      exact hJ
    refine ldI.mk (h.p1.cell rfl) (ldI.mk (h.p1.cell rfl) (ldI.mk (h.p1.cell rfl) (ldI.mk (h.p1.cell rfl) (ldI.mk (h.p1.cell rfl) ?_))))
    refine call141 (a0 := (((35 : Nat) : Int), x0, x1, x2, x3, ())) (timeout_zero h fun w3 h => ⟨((0 : Int), ()), rfl, ldI.mk (h.p1.cell rfl) ?_⟩)
    refine jn.mk fun J1 hJ1 => cs.no rfl (hJ1 _ _ (ldI.mk (h.p1.cell rfl) (jn.mk fun J2 hJ2 => cs.no rfl (hJ2 _ _ (cs.yes rfl ?_)))))
    exact fin_code h fun w4 h => kk w4 h.drop

end Go.Proofs.YtenonfkfoedfmaaGreatDoor.B


/- TopData: the plain law. -/
namespace Go.Proofs.YtenonfkfoedfmaaGreatDoor.B
open Go
set_option linter.unusedVariables false

namespace Dta

def cf (r : Int) : ConfM := ⟨1, [(1, true), (2, true)], [], [(false, r)], [], []⟩

def mm : MM := ⟨[⟨0, 0, 0, []⟩], [MM.mt0, ⟨1, 1, 0⟩, ⟨2, 2, 0⟩] ++ List.replicate 14 MM.mt0⟩

def KD (r : Int) (D : List Int) : KM := ⟨⟨[], false, false⟩, 1, 0, 0, 0, [], [(1, 1), (2, 2)], mm, [⟨0, 0, 0, 2, false, 1, 1, 0, 0, 0, 0, 0⟩, ⟨0, 0, 0, 2, false, 2, 2, 0, 0, 0, 0, 0⟩], [], [⟨false, r, ⟨[], [], D, fun _ => 0⟩⟩], [], 1⟩

theorem start (r : Int) : KM.new (cf r) = some (KD r []) := by kernel_rfl

theorem send (r d : Int) (D : List Int) : (KD r D).call 1 (cTsd 1 d) = some (if (D.length : Int) ≥ r then ((-50, 0), KD r D) else ((0, 0), KD r (D ++ [d]))) := by
  unfold KM.call
  rw [if_neg (fun h => h rfl)]
  unfold cTsd
  rw [if_neg (by show ¬ ¬ ((1 : Int) ≤ 1 ∧ (1 : Int) ≤ 1); decide)]
  show Option.map _ (Option.map _ (KM.woken d [(DQ.trySend r ⟨[], [], D, fun _ => 0⟩ d).1.2] { KD r D with datas := [⟨false, r, (DQ.trySend r ⟨[], [], D, fun _ => 0⟩ d).2⟩] })) = _
  by_cases h : (D.length : Int) ≥ r
  · have ht : DQ.trySend r ⟨[], [], D, fun _ => 0⟩ d = ((false, 0), ⟨[], [], D, fun _ => 0⟩) := if_pos h
    rw [ht, if_pos h]
    rfl
  · have ht : DQ.trySend r ⟨[], [], D, fun _ => 0⟩ d = ((true, 0), ⟨[], [], D ++ [d], fun _ => 0⟩) := if_neg h
    rw [ht, if_neg h]
    rfl

theorem recv_cons (r d : Int) (D : List Int) : (KD r (d :: D)).call 1 (cTrc 1) = some ((0, d), KD r D) := rfl

theorem recv_nil (r : Int) : (KD r []).call 1 (cTrc 1) = some ((-50, 0), KD r []) := rfl

theorem ok_cf {r : Int} (h : 0 ≤ r ∧ r ≤ 8) : (cf r).ok = true := by
  have : r = 0 ∨ r = 1 ∨ r = 2 ∨ r = 3 ∨ r = 4 ∨ r = 5 ∨ r = 6 ∨ r = 7 ∨ r = 8 := by omega
  rcases this with rfl | rfl | rfl | rfl | rfl | rfl | rfl | rfl | rfl <;> decide

end Dta

end Go.Proofs.YtenonfkfoedfmaaGreatDoor.B


/- Calls of data queues: a datum is received. -/
namespace Go.Proofs.YtenonfkfoedfmaaGreatDoor.B
open Go
set_option linter.unusedVariables false

theorem data_41 {e k A K r x0 x1 x2 x3} (hm : cTrc x0 K = some r) : GrpC e k A K r (sh82 (some ⟨k, 0, none⟩) (((41 : Nat) : Int), x0, x1, x2, x3, ())) := by
  intro L w R h kk
  unfold cTrc at hm
  unfold sh82
  refine al.mk h fun b w1 h => al.mk h fun d w2 h => ⟨by decide, by decide, ldI.mk (h.p1.cell rfl) ?_⟩
  obtain ⟨ho, h2⟩ := kerE h.p2
  have hsl := ptrs_len ((Ok.emb (h2) (.cons (A := datasP A.ds K.datas) (by with_reducible first | exact sl0 | exact .there sl0 | exact .there sl1 | exact .there sl2 | exact .there sl3 | exact .there sl4 | exact .there sl5 | exact .there sl6 | exact .there sl7 | exact .there sl8 | exact .there sl9 | exact .there sl10 | exact .there sl11 | exact .there sl12) (.same _))))
  have hs8 := ho.datas
  refine nn.mk (ldS.mk (h2.cell rfl) ?_)
  have hin := clO_in (x := x0) (n := (K.datas.length : Int)) (by omega)
  have hcl := clO_le (x := x0)
  refine call149 (a1 := clO x0) ?_
  unfold sh149
  by_cases hb : 1 ≤ x0 ∧ x0 ≤ K.datas.length
  · rw [if_neg (fun hx => hx hb)] at hm
    have hx : clO x0 = x0 := clO_eq (by omega)
    rw [hx]
    refine jn.bool false (fun J hJ => cs.no (decide_eq_false (by omega)) ?_) (cs.no rfl ?_)
    · rw [show decide ((x0 : Int) > ((A.ds.len : Int) : Int)) = false from decide_eq_false (by simp at hsl; omega)]
      exact hJ
    obtain ⟨i, hi⟩ : ∃ i : Nat, x0 - 1 = (i : Int) := ⟨(x0 - 1).toNat, by omega⟩
    have hil : i < K.datas.length := by omega
    have hg : getO K.datas (x0 - 1) = some K.datas[i] := by rw [hi, getO_nat]; exact List.getElem?_eq_getElem hil
    rw [hg] at hm
    generalize hs : K.datas[i] = s at hm
    have hsi : K.datas[i]? = some s := by rw [List.getElem?_eq_getElem hil, hs]
    obtain ⟨q, H, h3, back, read⟩ := ptrs_open ((Ok.emb (h2) (.cons (A := datasP A.ds K.datas) (by with_reducible first | exact sl0 | exact .there sl0 | exact .there sl1 | exact .there sl2 | exact .there sl3 | exact .there sl4 | exact .there sl5 | exact .there sl6 | exact .there sl7 | exact .there sl8 | exact .there sl9 | exact .there sl10 | exact .there sl11 | exact .there sl12) (.same _)))) hsi
    rw [show (x0 - 1).toNat = i by omega, Option.bind_some] at hm
    have close : ∀ w' s', Ok e (datQ q s' :: H :: pts k (kC A K) :: unitsP A.ub A.us K.us :: semsP A.ss K.sems :: flgP A.fs :: poolsP A.ps K.pools :: mmP A.lk K.mm :: placeP A.pl K.pl :: hnP A.hn K.tic K.up K.tb K.last K.ents :: rdyP A.rq K.rdy :: pts d [.int .i64 0, .int .i64 0] :: pts b [.int .i64 ((41 : Nat) : Int), .int .i64 x0, .int .i64 x1, .int .i64 x2, .int .i64 x3] :: old e :: L) w' →
        Ok e (pts d [.int .i64 0, .int .i64 0] :: kerP k A { K with datas := K.datas.set i s' } :: pts b [.int .i64 ((41 : Nat) : Int), .int .i64 x0, .int .i64 x1, .int .i64 x2, .int .i64 x3] :: old e :: L) w' := fun w' s' h => by
      have h := back s' e _ w' h
      have h : Ok e (datasP A.ds (K.datas.set i s') :: pts k (kC A K) :: unitsP A.ub A.us K.us :: semsP A.ss K.sems :: flgP A.fs :: poolsP A.ps K.pools :: mmP A.lk K.mm :: placeP A.pl K.pl :: hnP A.hn K.tic K.up K.tb K.last K.ents :: rdyP A.rq K.rdy :: pts d [.int .i64 0, .int .i64 0] :: pts b [.int .i64 ((41 : Nat) : Int), .int .i64 x0, .int .i64 x1, .int .i64 x2, .int .i64 x3] :: old e :: L) w' := h
      exact (kerI (A := A) (K := { K with datas := K.datas.set i s' }) (L := pts d [.int .i64 0, .int .i64 0] :: pts b [.int .i64 ((41 : Nat) : Int), .int .i64 x0, .int .i64 x1, .int .i64 x2, .int .i64 x3] :: old e :: L) ⟨ho.t0, ho.t1, ho.us, ho.sems, (by show (K.datas.set i s').length ≤ 8; rw [List.length_set]; exact ho.datas), ho.pools⟩ (h.emb (by repeat' (first | with_reducible exact Emb.same _ | exact Emb.nil _ | refine Emb.cons (by with_reducible first | exact sl0 | exact .there sl0 | exact .there sl1 | exact .there sl2 | exact .there sl3 | exact .there sl4 | exact .there sl5 | exact .there sl6 | exact .there sl7 | exact .there sl8 | exact .there sl9 | exact .there sl10 | exact .there sl11 | exact .there sl12) ?_ | refine Emb.skip ?_)))).p1
    have h : Ok e (datQ q s :: H :: pts k (kC A K) :: unitsP A.ub A.us K.us :: semsP A.ss K.sems :: flgP A.fs :: poolsP A.ps K.pools :: mmP A.lk K.mm :: placeP A.pl K.pl :: hnP A.hn K.tic K.up K.tb K.last K.ents :: rdyP A.rq K.rdy :: pts d [.int .i64 0, .int .i64 0] :: pts b [.int .i64 ((41 : Nat) : Int), .int .i64 x0, .int .i64 x1, .int .i64 x2, .int .i64 x3] :: old e :: L) w2 := (Ok.emb (h3) (by repeat' (first | with_reducible exact Emb.same _ | exact Emb.nil _ | refine Emb.cons (by with_reducible first | exact sl0 | exact .there sl0 | exact .there sl1 | exact .there sl2 | exact .there sl3 | exact .there sl4 | exact .there sl5 | exact .there sl6 | exact .there sl7 | exact .there sl8 | exact .there sl9 | exact .there sl10 | exact .there sl11 | exact .there sl12) ?_ | refine Emb.skip ?_)))
    clear h2 h3
    rw [w64_in (by omega) (by omega)]
    refine read e _ w2 (x0 - 1) _ h.p1 (by rw [hi]; simp) fun b2 o2 hc => ldP.mk hc ⟨(some ⟨q, 0, none⟩, true, ()), rfl, ?_⟩
    refine ldI.mk (by refine Ok.cellS h (by with_reducible first | exact sl0 | exact .there sl0 | exact .there sl1 | exact .there sl2 | exact .there sl3 | exact .there sl4 | exact .there sl5 | exact .there sl6 | exact .there sl7 | exact .there sl8 | exact .there sl9 | exact .there sl10 | exact .there sl11 | exact .there sl12) ?_; rfl) (ldI.mk (by refine Ok.cellS h (by with_reducible first | exact sl0 | exact .there sl0 | exact .there sl1 | exact .there sl2 | exact .there sl3 | exact .there sl4 | exact .there sl5 | exact .there sl6 | exact .there sl7 | exact .there sl8 | exact .there sl9 | exact .there sl10 | exact .there sl11 | exact .there sl12) ?_; rfl) (ldI.mk (by refine Ok.cellS h (by with_reducible first | exact sl0 | exact .there sl0 | exact .there sl1 | exact .there sl2 | exact .there sl3 | exact .there sl4 | exact .there sl5 | exact .there sl6 | exact .there sl7 | exact .there sl8 | exact .there sl9 | exact .there sl10 | exact .there sl11 | exact .there sl12) ?_; rfl) (ldI.mk (by refine Ok.cellS h (by with_reducible first | exact sl0 | exact .there sl0 | exact .there sl1 | exact .there sl2 | exact .there sl3 | exact .there sl4 | exact .there sl5 | exact .there sl6 | exact .there sl7 | exact .there sl8 | exact .there sl9 | exact .there sl10 | exact .there sl11 | exact .there sl12) ?_; rfl) (ldI.mk (by refine Ok.cellS h (by with_reducible first | exact sl0 | exact .there sl0 | exact .there sl1 | exact .there sl2 | exact .there sl3 | exact .there sl4 | exact .there sl5 | exact .there sl6 | exact .there sl7 | exact .there sl8 | exact .there sl9 | exact .there sl10 | exact .there sl11 | exact .there sl12) ?_; rfl) ?_))))
    refine call141 (a0 := (((41 : Nat) : Int), x0, x1, x2, x3, ())) (timeout_none h (by decide) (by decide) fun w3 h => ⟨((-1 : Int), ()), rfl, ldI.mk (by refine Ok.cellS h (by with_reducible first | exact sl0 | exact .there sl0 | exact .there sl1 | exact .there sl2 | exact .there sl3 | exact .there sl4 | exact .there sl5 | exact .there sl6 | exact .there sl7 | exact .there sl8 | exact .there sl9 | exact .there sl10 | exact .there sl11 | exact .there sl12) ?_; rfl) ?_⟩)
    refine jn.mk fun J1 hJ1 => cs.no rfl (hJ1 _ _ (ldI.mk (by refine Ok.cellS h (by with_reducible first | exact sl0 | exact .there sl0 | exact .there sl1 | exact .there sl2 | exact .there sl3 | exact .there sl4 | exact .there sl5 | exact .there sl6 | exact .there sl7 | exact .there sl8 | exact .there sl9 | exact .there sl10 | exact .there sl11 | exact .there sl12) ?_; rfl) (jn.mk fun J2 hJ2 => cs.yes rfl (ldI.mk (by refine Ok.cellS h (by with_reducible first | exact sl0 | exact .there sl0 | exact .there sl1 | exact .there sl2 | exact .there sl3 | exact .there sl4 | exact .there sl5 | exact .there sl6 | exact .there sl7 | exact .there sl8 | exact .there sl9 | exact .there sl10 | exact .there sl11 | exact .there sl12) ?_; rfl) (ldI.mk (by refine Ok.cellS h (by with_reducible first | exact sl0 | exact .there sl0 | exact .there sl1 | exact .there sl2 | exact .there sl3 | exact .there sl4 | exact .there sl5 | exact .there sl6 | exact .there sl7 | exact .there sl8 | exact .there sl9 | exact .there sl10 | exact .there sl11 | exact .there sl12) ?_; rfl) (ldI.mk (by refine Ok.cellS h (by with_reducible first | exact sl0 | exact .there sl0 | exact .there sl1 | exact .there sl2 | exact .there sl3 | exact .there sl4 | exact .there sl5 | exact .there sl6 | exact .there sl7 | exact .there sl8 | exact .there sl9 | exact .there sl10 | exact .there sl11 | exact .there sl12) ?_; rfl) (ldI.mk (by refine Ok.cellS h (by with_reducible first | exact sl0 | exact .there sl0 | exact .there sl1 | exact .there sl2 | exact .there sl3 | exact .there sl4 | exact .there sl5 | exact .there sl6 | exact .there sl7 | exact .there sl8 | exact .there sl9 | exact .there sl10 | exact .there sl11 | exact .there sl12) ?_; rfl) (ldI.mk (by refine Ok.cellS h (by with_reducible first | exact sl0 | exact .there sl0 | exact .there sl1 | exact .there sl2 | exact .there sl3 | exact .there sl4 | exact .there sl5 | exact .there sl6 | exact .there sl7 | exact .there sl8 | exact .there sl9 | exact .there sl10 | exact .there sl11 | exact .there sl12) ?_; rfl) ?_))))))))
    refine call141 (a0 := (((41 : Nat) : Int), x0, x1, x2, x3, ())) (timeout_zero h fun w3 h => ⟨((0 : Int), ()), rfl, hJ2 _ _ (cs.no rfl ?_)⟩)
    clear hJ1 hJ2 J1 J2
    refine call136 (late_kern ⟨(true, ()), rfl, cs.no rfl (ldI.mk (by refine Ok.cellS h (by with_reducible first | exact sl0 | exact .there sl0 | exact .there sl1 | exact .there sl2 | exact .there sl3 | exact .there sl4 | exact .there sl5 | exact .there sl6 | exact .there sl7 | exact .there sl8 | exact .there sl9 | exact .there sl10 | exact .there sl11 | exact .there sl12) ?_; rfl) ?_)⟩)
    refine jn.mk fun J1 hJ1 => cs.no rfl (ldI.mk (by refine Ok.cellS h (by with_reducible first | exact sl0 | exact .there sl0 | exact .there sl1 | exact .there sl2 | exact .there sl3 | exact .there sl4 | exact .there sl5 | exact .there sl6 | exact .there sl7 | exact .there sl8 | exact .there sl9 | exact .there sl10 | exact .there sl11 | exact .there sl12) ?_; rfl) (hJ1 _ _ (cs.no rfl (ldI.mk (by refine Ok.cellS h (by with_reducible first | exact sl0 | exact .there sl0 | exact .there sl1 | exact .there sl2 | exact .there sl3 | exact .there sl4 | exact .there sl5 | exact .there sl6 | exact .there sl7 | exact .there sl8 | exact .there sl9 | exact .there sl10 | exact .there sl11 | exact .there sl12) ?_; rfl) (cs.no rfl ?_)))))
    clear hJ1 J1
    obtain ⟨m1, h⟩ := h.pureE
    obtain ⟨K', hK, rfl⟩ := Option.map_eq_some_iff.1 hm
    refine call153 (TryRecv_dtq h m1 fun w4 h => ⟨((s.q.tryRecv.1.1, s.q.tryRecv.1.2.1, s.q.tryRecv.1.2.2, ()), ()), rfl, ?_⟩)
    have h := h.imp (B := datQ q { s with q := s.q.tryRecv.2 }) fun k hk => ⟨tryRecv_ok m1, hk⟩
    have h := close w4 _ h
    refine al.mk h fun g w5 h => st1.mk h (by simp) fun w5 h => st1.mk h (by simp) fun w5 h => st1.mk h (by simp) fun w5 h => ldI.mk (h.cell rfl) ?_
    have h := h.q2
    refine al.mk h fun f w6 h => ?_
    have h : Ok e (slc 1 ⟨some ⟨f, 0, none⟩, 1, 1⟩ (ints [s.q.tryRecv.1.2.2]) :: pts d [.int .i64 0, .int .i64 0] :: kerP k A { K with datas := K.datas.set i { s with q := s.q.tryRecv.2 } } :: pts g [.int .i64 s.q.tryRecv.1.1, .bool s.q.tryRecv.1.2.1, .int .i64 s.q.tryRecv.1.2.2] :: pts b [.int .i64 ((41 : Nat) : Int), .int .i64 x0, .int .i64 x1, .int .i64 x2, .int .i64 x3] :: old e :: L) w6 := slcOf (l := [s.q.tryRecv.1.2.2]) h
    refine call143 (a2 := ⟨some ⟨f, 0, none⟩, 1, 1⟩) (woken_kern (l := [s.q.tryRecv.1.2.2]) ((Ok.emb (h) (.cons (A := kerP k A { K with datas := K.datas.set i { s with q := s.q.tryRecv.2 } }) (by with_reducible first | exact sl0 | exact .there sl0 | exact .there sl1 | exact .there sl2 | exact .there sl3 | exact .there sl4 | exact .there sl5 | exact .there sl6 | exact .there sl7 | exact .there sl8 | exact .there sl9 | exact .there sl10 | exact .there sl11 | exact .there sl12) (.cons (A := slc 1 ⟨some ⟨f, 0, none⟩, 1, 1⟩ (ints [s.q.tryRecv.1.2.2])) (by with_reducible first | exact sl0 | exact .there sl0 | exact .there sl1 | exact .there sl2 | exact .there sl3 | exact .there sl4 | exact .there sl5 | exact .there sl6 | exact .there sl7 | exact .there sl8 | exact .there sl9 | exact .there sl10 | exact .there sl11 | exact .there sl12) (.same _))))) (by simp) hK fun w7 h => ⟨(), rfl, ?_⟩)
    refine ldB.mk (by refine Ok.cellS h (by with_reducible first | exact sl0 | exact .there sl0 | exact .there sl1 | exact .there sl2 | exact .there sl3 | exact .there sl4 | exact .there sl5 | exact .there sl6 | exact .there sl7 | exact .there sl8 | exact .there sl9 | exact .there sl10 | exact .there sl11 | exact .there sl12) ?_; rfl) ?_
    refine cs.mk (fun h5 => ?_) (fun h5 => cs.yes rfl ?_)
    · have h5 : s.q.tryRecv.1.2.1 = true := h5
      rw [if_pos h5] at kk
      refine ldI.mk (by refine Ok.cellS h (by with_reducible first | exact sl0 | exact .there sl0 | exact .there sl1 | exact .there sl2 | exact .there sl3 | exact .there sl4 | exact .there sl5 | exact .there sl6 | exact .there sl7 | exact .there sl8 | exact .there sl9 | exact .there sl10 | exact .there sl11 | exact .there sl12) ?_; rfl) ?_
      exact fin_val ((Ok.emb (h) (.cons (A := pts d [.int .i64 0, .int .i64 0]) (by with_reducible first | exact sl0 | exact .there sl0 | exact .there sl1 | exact .there sl2 | exact .there sl3 | exact .there sl4 | exact .there sl5 | exact .there sl6 | exact .there sl7 | exact .there sl8 | exact .there sl9 | exact .there sl10 | exact .there sl11 | exact .there sl12) (.same _)))) fun w6 h => kk w6 (h.emb (by repeat' (first | with_reducible exact Emb.same _ | exact Emb.nil _ | refine Emb.cons (by with_reducible first | exact sl0 | exact .there sl0 | exact .there sl1 | exact .there sl2 | exact .there sl3 | exact .there sl4 | exact .there sl5 | exact .there sl6 | exact .there sl7 | exact .there sl8 | exact .there sl9 | exact .there sl10 | exact .there sl11 | exact .there sl12) ?_ | refine Emb.skip ?_)))
    · have h5 : s.q.tryRecv.1.2.1 = false := h5
      rw [if_neg (by rw [h5]; decide)] at kk
      exact fin_code ((Ok.emb (h) (.cons (A := pts d [.int .i64 0, .int .i64 0]) (by with_reducible first | exact sl0 | exact .there sl0 | exact .there sl1 | exact .there sl2 | exact .there sl3 | exact .there sl4 | exact .there sl5 | exact .there sl6 | exact .there sl7 | exact .there sl8 | exact .there sl9 | exact .there sl10 | exact .there sl11 | exact .there sl12) (.same _)))) fun w6 h => kk w6 (h.emb (by repeat' (first | with_reducible exact Emb.same _ | exact Emb.nil _ | refine Emb.cons (by with_reducible first | exact sl0 | exact .there sl0 | exact .there sl1 | exact .there sl2 | exact .there sl3 | exact .there sl4 | exact .there sl5 | exact .there sl6 | exact .there sl7 | exact .there sl8 | exact .there sl9 | exact .there sl10 | exact .there sl11 | exact .there sl12) ?_ | refine Emb.skip ?_)))
  · rw [if_pos hb] at hm
    cases hm
    refine jn.bool true (fun J hJ => cs.mk (fun _ => hJ) (fun hc => ?_)) (cs.yes rfl ⟨(none, false, ()), rfl, ?_⟩)
    · have hc : ¬ clO x0 < 1 := of_decide_eq_false hc
      rw [show decide ((clO x0 : Int) > ((A.ds.len : Int) : Int)) = true from decide_eq_true (by simp at hsl; omega)]
      exact hJ
    refine ldI.mk (h.p1.cell rfl) (ldI.mk (h.p1.cell rfl) (ldI.mk (h.p1.cell rfl) (ldI.mk (h.p1.cell rfl) (ldI.mk (h.p1.cell rfl) ?_))))
    refine call141 (a0 := (((41 : Nat) : Int), x0, x1, x2, x3, ())) (timeout_none h (by decide) (by decide) fun w3 h => ⟨((-1 : Int), ()), rfl, ldI.mk (h.p1.cell rfl) ?_⟩)
    refine jn.mk fun J1 hJ1 => cs.no rfl (hJ1 _ _ (ldI.mk (h.p1.cell rfl) (jn.mk fun J2 hJ2 => cs.yes rfl (ldI.mk (h.p1.cell rfl) (ldI.mk (h.p1.cell rfl) (ldI.mk (h.p1.cell rfl) (ldI.mk (h.p1.cell rfl) (ldI.mk (h.p1.cell rfl) ?_))))))))
    refine call141 (a0 := (((41 : Nat) : Int), x0, x1, x2, x3, ())) (timeout_zero h fun w3 h => ⟨((0 : Int), ()), rfl, hJ2 _ _ (cs.yes rfl ?_)⟩)
    exact fin_code h fun w4 h => kk w4 h.drop

theorem do_35 {e} (tb : TabE e) : DoC e 35 1 cTsd := by
  intro k A K r L w x0 x1 x2 x3 R h hm kk
  exact Do_kern (n := 35) tb rfl (by decide) h hm (fun r hr => .inr (.inr (.inr (.inl ⟨by decide, by decide, data_35 hr⟩)))) kk

theorem do_41 {e} (tb : TabE e) : DoC e 41 1 fun x0 _ => cTrc x0 := by
  intro k A K r L w x0 x1 x2 x3 R h hm kk
  exact Do_kern (n := 41) tb rfl (by decide) h hm (fun r hr => .inr (.inr (.inr (.inl ⟨by decide, by decide, data_41 hr⟩)))) kk

end Go.Proofs.YtenonfkfoedfmaaGreatDoor.B


/- TopData. -/
namespace Go.Proofs.YtenonfkfoedfmaaGreatDoor.B
open Go
set_option linter.unusedVariables false

theorem slT_int64 : SlT Pg 39 1 := .of (by kernel_rfl)

theorem conf_datas {e L w x m} {l : List (Int × Bool)} {ds : List (Bool × Int)} (tic : Int) (h : Ok e (slc 2 x (flat taC l) :: slc 2 m (flat daC ds) :: L) w) : Ok e (cfR ⟨tic, l, [], ds, [], []⟩ ⟨x, nilS, m, nilS, nilS⟩ L) w := by
  have h := ((h.slcNil 3).slcNil 2).slcNil 3
  have h2 : Ok e (slc 2 x (flat taC l) :: slc 3 nilS [] :: slc 2 m (flat daC ds) :: slc 2 nilS [] :: slc 3 nilS [] :: L) w := (h.emb (by repeat' (first | with_reducible exact Emb.same _ | exact Emb.nil _ | refine Emb.cons (by with_reducible first | exact sl0 | exact .there sl0 | exact .there sl1 | exact .there sl2 | exact .there sl3 | exact .there sl4 | exact .there sl5 | exact .there sl6 | exact .there sl7 | exact .there sl8 | exact .there sl9 | exact .there sl10 | exact .there sl11 | exact .there sl12) ?_ | refine Emb.skip ?_)))
  exact h2

theorem i8_bd {e s xs} (h : ArgI .i8 e s xs) {x : Int} (hx : x ∈ xs) : -128 ≤ x ∧ x ≤ 127 := by
  have := h.wf x hx
  simpa [Lit.wf, IntKind.min, IntKind.max, IntKind.signed, IntKind.bits] using this

/-- one more is received, if there is one -/
theorem recv_step {W : World} {L : List SP} {w : World} {k : Nat} {A : KA} {r : Int} {D O : List Int} {so : Sl} {F : Sl × Unit → World → Prop} (tb : TabE W) (h : Ok W (slc 1 so (ints O) :: kerP k A (Dta.KD r D) :: old W :: L) w) (hl : O.length ≤ 200)
    (kk : ∀ so' D' O' w', O' ++ D' = O ++ D → D'.length = D.length - 1 → O'.length ≤ O.length + 1 → Ok W (slc 1 so' (ints O') :: kerP k A (Dta.KD r D') :: old W :: L) w' → F (so', ()) w') :
    al w 2 [.int .i64 1] fun b57 w58 => cl Pg 20 [.pointer (some ⟨k, 0, none⟩), .int .i64 41, vS ⟨some ⟨b57, 0, none⟩, 1, 1⟩] [kI, kI] w58 fun (r59 : Int × Int × Unit) w60 =>
      cs ((r59.1 : Int) == (0 : Int)) (al w60 2 [.int .i64 r59.2.1] fun b61 w62 => ef Pg (Builtin.append_ #[39, 39] 39 #[vS so, vS ⟨some ⟨b61, 0, none⟩, 1, 1⟩]) [kS] w62 fun (r63 : Sl × Unit) w65 => F r63 w65) (F (so, ()) w60) := by
  have hso := slc_ints_len h
  have h := (Ok.emb (h) (.cons (A := kerP k A (Dta.KD r D)) (by with_reducible first | exact sl0 | exact .there sl0 | exact .there sl1 | exact .there sl2 | exact .there sl3 | exact .there sl4 | exact .there sl5 | exact .there sl6 | exact .there sl7 | exact .there sl8 | exact .there sl9 | exact .there sl10 | exact .there sl11 | exact .there sl12) (.cons (A := old W) (by with_reducible first | exact sl0 | exact .there sl0 | exact .there sl1 | exact .there sl2 | exact .there sl3 | exact .there sl4 | exact .there sl5 | exact .there sl6 | exact .there sl7 | exact .there sl8 | exact .there sl9 | exact .there sl10 | exact .there sl11 | exact .there sl12) (.same _))))
  refine al.mk h fun b1 w2 h => ?_
  cases D with
  | nil =>
    refine call20 (a2 := ⟨some ⟨b1, 0, none⟩, 1, 1⟩) (do_top (n := 41) (xs := [1]) (do_41 tb) (slcOf (l := [1]) h) (by simp) (Dta.recv_nil r) fun w5 h => ⟨((-50 : Int), (0 : Int), ()), rfl, cs.no rfl ?_⟩)
    exact kk so [] O w5 rfl rfl (by omega) (h.emb (by repeat' (first | with_reducible exact Emb.same _ | exact Emb.nil _ | refine Emb.cons (by with_reducible first | exact sl0 | exact .there sl0 | exact .there sl1 | exact .there sl2 | exact .there sl3 | exact .there sl4 | exact .there sl5 | exact .there sl6 | exact .there sl7 | exact .there sl8 | exact .there sl9 | exact .there sl10 | exact .there sl11 | exact .there sl12) ?_ | refine Emb.skip ?_)))
  | cons d D =>
    refine call20 (a2 := ⟨some ⟨b1, 0, none⟩, 1, 1⟩) (do_top (n := 41) (xs := [1]) (do_41 tb) (slcOf (l := [1]) h) (by simp) (Dta.recv_cons r d D) fun w5 h => ⟨((0 : Int), d, ()), rfl, cs.yes rfl ?_⟩)
    refine al.mk h fun c2 w6 h => ?_
    refine ef.append1 (n := 1) slT_int64 (by decide) (Ok.emb (h) (.cons (A := pts c2 [.int .i64 d]) (by with_reducible first | exact sl0 | exact .there sl0 | exact .there sl1 | exact .there sl2 | exact .there sl3 | exact .there sl4 | exact .there sl5 | exact .there sl6 | exact .there sl7 | exact .there sl8 | exact .there sl9 | exact .there sl10 | exact .there sl11 | exact .there sl12) (.cons (A := slc 1 so (ints O)) (by with_reducible first | exact sl0 | exact .there sl0 | exact .there sl1 | exact .there sl2 | exact .there sl3 | exact .there sl4 | exact .there sl5 | exact .there sl6 | exact .there sl7 | exact .there sl8 | exact .there sl9 | exact .there sl10 | exact .there sl11 | exact .there sl12) (.same _)))) rfl (by intro v hv; simp at hv; subst hv; rfl) (by omega) fun s2 w7 hl2 h => ?_
    rw [ints_snoc] at h
    exact kk s2 D (O ++ [d]) w7 (by simp) (by simp) (by simp) (h.emb (by repeat' (first | with_reducible exact Emb.same _ | exact Emb.nil _ | refine Emb.cons (by with_reducible first | exact sl0 | exact .there sl0 | exact .there sl1 | exact .there sl2 | exact .there sl3 | exact .there sl4 | exact .there sl5 | exact .there sl6 | exact .there sl7 | exact .there sl8 | exact .there sl9 | exact .there sl10 | exact .there sl11 | exact .there sl12) ?_ | refine Emb.skip ?_)))

set_option maxHeartbeats 1000000 in
theorem TopData_walk {W a0} {a1 a2 : Sl} {xs : List Int} {vs : List Value} (tb : TabE W) (h0 : (Lit.int .u8 a0).wf = true) (ha : ArgI .i8 W a1 xs) (hb : ArgF [.b] W a2 vs) : sh3 a0 a1 a2 (fun vs w' => vs = [.bool true] ∧ Ok W [old W] w') W := by
  have hr := rd_arg ha
  have hal := ha.len
  have h8 := wf_u8 h0
  unfold sh3
  refine call17 (known_top tb (Ok.start W) fun w1 h => ⟨(true, ()), rfl, cs.no rfl ?_⟩)
  refine jn.bool (decide (a1.len > 40 ∨ a2.len > 100)) (fun J hJ => ?_) ?_
  · refine cs.mk (fun h1 => ?_) (fun h1 => ?_)
    · have h1 := of_decide_eq_true h1
      rw [decide_eq_true (by omega)] at hJ
      exact hJ
    · have h1 := of_decide_eq_false h1
      rw [show decide ((a2.len : Int) > 100) = decide (a1.len > 40 ∨ a2.len > 100) from decide_eq_decide.2 (by omega)]
      exact hJ
  refine cs.mk (fun _ => ⟨rfl, h⟩) (fun hc => ?_)
  have hc := of_decide_eq_false hc
  obtain ⟨r, hr1, hr2⟩ : ∃ r : Int, w64 (Int.tmod a0 9) = r ∧ 0 ≤ r ∧ r ≤ 8 := by
    refine ⟨a0 % 9, ?_, by omega⟩
    rw [Int.tmod_eq_emod_of_nonneg h8.1, w64_in (by omega) (by omega)]
  rw [hr1]
  refine al.mk h fun b w2 h => ?_
  refine call18 (a0 := ⟨some ⟨b, 0, none⟩, 2, 2⟩) (tasks_top (l := [1, 2]) (slcOf (l := [1, 2]) h) (by simp) fun x w2 h => ⟨(((1 : Int), x, nilS, nilS, nilS, nilS, nilS, nilS, (0 : Int), ()), ()), rfl, ?_⟩)
  refine al.mk h fun c w3 h => ?_
  refine st1.mk h (by simp) fun w1 h => st1.mk h (by simp) fun w1 h => st1.mk h (by simp) fun w1 h => st1.mk h (by simp) fun w1 h => st1.mk h (by simp) fun w1 h => st1.mk h (by simp) fun w1 h => st1.mk h (by simp) fun w1 h => st1.mk h (by simp) fun w1 h => st1.mk h (by simp) fun w1 h => ?_
  refine al.mk h fun d w5 h => st1.mk h.p1 (by simp) fun w6 h => ?_
  refine ldI.mk (h.cell rfl) (ldS.mk (h.cell rfl) (ldS.mk (h.cell rfl) (ldS.mk (h.cell rfl) (ldS.mk (h.cell rfl) (ldS.mk (h.cell rfl) (ldS.mk (h.cell rfl) (ldS.mk (h.cell rfl) (ldI.mk (h.cell rfl) ?_))))))))
  have h : Ok W (slc 2 x (flat taC [(1, true), (2, true)]) :: slc 2 ⟨some ⟨d, 0, none⟩, 1, 1⟩ (flat daC [(false, r)]) :: old W :: []) w6 :=
    (Ok.slcNew (vs := flat daC [(false, r)]) (sz := 2) (n := 1) (h.drop : Ok W (pts d (flat daC [(false, r)]) :: slc 2 x (flat taC [(1, true), (2, true)]) :: old W :: []) w6) rfl (flat_one daC_one)).p1
  refine call19 (a0 := cfV (Dta.cf r) ⟨x, nilS, ⟨some ⟨d, 0, none⟩, 1, 1⟩, nilS, nilS⟩) (open_top tb (conf_datas 1 h) (Dta.ok_cf hr2) (Dta.start r) fun k A w3 h => ⟨(some ⟨k, 0, none⟩, ()), rfl, cs.no rfl ?_⟩)
  have h : Ok W (kerP k A (Dta.KD r []) :: old W :: []) w3 := (h.emb (by repeat' (first | with_reducible exact Emb.same _ | exact Emb.nil _ | refine Emb.cons (by with_reducible first | exact sl0 | exact .there sl0 | exact .there sl1 | exact .there sl2 | exact .there sl3 | exact .there sl4 | exact .there sl5 | exact .there sl6 | exact .there sl7 | exact .there sl8 | exact .there sl9 | exact .there sl10 | exact .there sl11 | exact .there sl12) ?_ | refine Emb.skip ?_)))
  refine lp.mk (fun t w' => ∃ (st i : Nat) (D O : List Int), @Eq Int t.1 (st : Int) ∧ @Eq Int t.2.2.1 (i : Int) ∧ i ≤ a2.len ∧ st ≤ a1.len ∧ (D.length : Int) ≤ r ∧ O ++ D = xs.take st ∧ O.length ≤ i ∧
      Ok W [slc 1 t.2.1 (ints O), kerP k A (Dta.KD r D), old W] w')
    (fun t _ => a2.len - Int.toNat t.2.2.1) ⟨0, 0, [], [], rfl, rfl, Nat.zero_le _, Nat.zero_le _, by simp; omega, rfl, Nat.le_refl _, h.slcNil 1⟩ ?_
  clear h
  rintro ⟨(st' : Int), so, (i' : Int), _⟩ w4 ⟨st, i, D, O, (rfl : st' = (st : Int)), (rfl : i' = (i : Int)), hi1, hst1, hD, hO, hOl, h⟩
  dsimp only at h ⊢
  have hso := slc_ints_len h
  refine cs.mk (fun hlt => ?_) (fun hge => ?_)
  · have hlt : i < a2.len := by have := of_decide_eq_true hlt; omega
    have hmu : a2.len - Int.toNat ((i + 1 : Nat) : Int) < a2.len - Int.toNat (i : Int) := by omega
    have hw : w64 ((i : Int) + 1) = ((i + 1 : Nat) : Int) := by rw [w64_in (by omega) (by omega)]; rfl
    obtain ⟨_, hv0, c0, rfl⟩ := hb.2 i hlt 0 _ rfl
    refine ix_args hb.1 (by decide) (by simp) (by simpa using hlt) fun b1 o hh => ?_
    refine ldB.mk (hh 0 _ (by decide) (by simpa using hv0) _ ⟨_, h.p2⟩) ?_
    clear hh
    rw [hw]
    refine jn.bool (c0 && decide (st < a1.len)) (fun J hJ => ?_) ?_
    · refine cs.mk (fun h1 => ?_) (fun h1 => ?_)
      · subst h1
        rw [Bool.true_and, show decide (st < a1.len) = decide ((st : Int) < (a1.len : Int)) from decide_eq_decide.2 (by omega)] at hJ
        exact hJ
      · subst h1
        exact hJ
    refine cs.mk (fun hc1 => ?_) (fun hc1 => ?_)
    · simp only [Bool.and_eq_true, decide_eq_true_eq] at hc1
      obtain ⟨_, hst2⟩ := hc1
      refine ix_rd hr (by simp) (by simpa using hst2) fun c o x hx hcell => ldI.mk (hcell _ _ (Ok.emb (h) (.cons (A := old W) (by with_reducible first | exact sl0 | exact .there sl0 | exact .there sl1 | exact .there sl2 | exact .there sl3 | exact .there sl4 | exact .there sl5 | exact .there sl6 | exact .there sl7 | exact .there sl8 | exact .there sl9 | exact .there sl10 | exact .there sl11 | exact .there sl12) (.same _)))) ?_
      rw [Int.toNat_natCast] at hx
      have hxb := i8_bd ha (List.mem_of_getElem? hx)
      rw [w64_in (x := x) (by omega) (by omega)]
      have h := (Ok.emb (h) (.cons (A := kerP k A (Dta.KD r D)) (by with_reducible first | exact sl0 | exact .there sl0 | exact .there sl1 | exact .there sl2 | exact .there sl3 | exact .there sl4 | exact .there sl5 | exact .there sl6 | exact .there sl7 | exact .there sl8 | exact .there sl9 | exact .there sl10 | exact .there sl11 | exact .there sl12) (.cons (A := old W) (by with_reducible first | exact sl0 | exact .there sl0 | exact .there sl1 | exact .there sl2 | exact .there sl3 | exact .there sl4 | exact .there sl5 | exact .there sl6 | exact .there sl7 | exact .there sl8 | exact .there sl9 | exact .there sl10 | exact .there sl11 | exact .there sl12) (.same _))))
      refine al.mk h fun b1 w5 h => ?_
      refine call20 (a2 := ⟨some ⟨b1, 0, none⟩, 2, 2⟩) (do_top (n := 35) (xs := [1, x]) (do_35 tb) (slcOf (l := [1, x]) h) (by simp) (Dta.send r x D) fun w6 h => ⟨(_, _, ()), rfl, ?_⟩)
      refine jn.mk fun J hJ => ?_
      by_cases hfull : (D.length : Int) ≥ r
      · rw [if_pos hfull] at h ⊢
        refine cs.no rfl (hJ _ _ ⟨⟨st, i + 1, D, O, rfl, rfl, hlt, hst1, hD, hO, by omega, ?_⟩, hmu⟩)
        exact (h.emb (by repeat' (first | with_reducible exact Emb.same _ | exact Emb.nil _ | refine Emb.cons (by with_reducible first | exact sl0 | exact .there sl0 | exact .there sl1 | exact .there sl2 | exact .there sl3 | exact .there sl4 | exact .there sl5 | exact .there sl6 | exact .there sl7 | exact .there sl8 | exact .there sl9 | exact .there sl10 | exact .there sl11 | exact .there sl12) ?_ | refine Emb.skip ?_)))
      · rw [if_neg hfull] at h ⊢
        refine cs.yes rfl (hJ _ _ ⟨⟨st + 1, i + 1, D ++ [x], O, ?_, rfl, hlt, hst2, by simp only [List.length_append, List.length_singleton]; omega, ?_, by omega, ?_⟩, hmu⟩)
        · exact w64_in (by omega) (by omega)
        · rw [List.take_add_one, hx, ← hO, List.append_assoc]; rfl
        · exact (h.emb (by repeat' (first | with_reducible exact Emb.same _ | exact Emb.nil _ | refine Emb.cons (by with_reducible first | exact sl0 | exact .there sl0 | exact .there sl1 | exact .there sl2 | exact .there sl3 | exact .there sl4 | exact .there sl5 | exact .there sl6 | exact .there sl7 | exact .there sl8 | exact .there sl9 | exact .there sl10 | exact .there sl11 | exact .there sl12) ?_ | refine Emb.skip ?_)))
    · refine recv_step tb h (by omega) fun so' D' O' w5 e1 e2 e3 h => ?_
      exact ⟨⟨st, i + 1, D', O', rfl, rfl, hlt, hst1, by omega, by rw [e1]; exact hO, by omega, h⟩, hmu⟩
  · clear hge
    refine lp.mk (fun t w' => ∃ (i : Nat) (D O : List Int), @Eq Int t.2.1 (i : Int) ∧ i ≤ 20 ∧ D.length ≤ 20 - i ∧ O ++ D = xs.take st ∧ O.length ≤ 100 + i ∧
        Ok W [slc 1 t.1 (ints O), kerP k A (Dta.KD r D), old W] w')
      (fun t _ => 20 - Int.toNat t.2.1) ⟨0, D, O, rfl, Nat.zero_le _, by omega, hO, by omega, h⟩ ?_
    clear h hso hD hOl hO
    rintro ⟨so2, (i2 : Int), _⟩ w5 ⟨j, D2, O2, (rfl : i2 = (j : Int)), hj, hD, hO, hOl, h⟩
    dsimp only at h ⊢
    have hso := slc_ints_len h
    refine cs.mk (fun hlt => ?_) (fun hge => ?_)
    · have hlt : j < 20 := by have := of_decide_eq_true hlt; omega
      have hw : w64 ((j : Int) + 1) = ((j + 1 : Nat) : Int) := by rw [w64_in (by omega) (by omega)]; rfl
      rw [hw]
      refine recv_step tb h (by omega) fun so' D' O' w5 e1 e2 e3 h => ?_
      refine ⟨⟨j + 1, D', O', rfl, hlt, by omega, by rw [e1]; exact hO, by omega, h⟩, ?_⟩
      show 20 - Int.toNat ((j + 1 : Nat) : Int) < 20 - Int.toNat (j : Int)
      omega
    · have hge : j = 20 := by have := of_decide_eq_false hge; omega
      obtain rfl : D2 = [] := List.eq_nil_of_length_eq_zero (by omega)
      rw [List.append_nil] at hO
      have hlen : so2.len = st := by rw [← hso, hO, List.length_take]; omega
      refine cs.no (by rw [hlen]; simp) ?_
      refine lp.mk (fun t w' => ∃ (i : Nat), @Eq Int t.1 (i : Int) ∧ i ≤ st ∧ Ok W [slc 1 so2 (ints O2), kerP k A (Dta.KD r []), old W] w')
        (fun t _ => st - Int.toNat t.1) ⟨0, rfl, Nat.zero_le _, h⟩ ?_
      clear h
      rintro ⟨(i3 : Int), _⟩ w6 ⟨m, (rfl : i3 = (m : Int)), hm, h⟩
      dsimp only
      refine cs.mk (fun hlt => ?_) (fun hge => ⟨rfl, (h.emb (by repeat' (first | with_reducible exact Emb.same _ | exact Emb.nil _ | refine Emb.cons (by with_reducible first | exact sl0 | exact .there sl0 | exact .there sl1 | exact .there sl2 | exact .there sl3 | exact .there sl4 | exact .there sl5 | exact .there sl6 | exact .there sl7 | exact .there sl8 | exact .there sl9 | exact .there sl10 | exact .there sl11 | exact .there sl12) ?_ | refine Emb.skip ?_)))⟩)
      have hlt : m < st := by have := of_decide_eq_true hlt; omega
      have hw : w64 ((m : Int) + 1) = ((m + 1 : Nat) : Int) := by rw [w64_in (by omega) (by omega)]; rfl
      refine dr.mk h fun w7 h => ?_
      refine ix_int h (by omega) (by omega) fun c1 o1 x hx hcx => ldI.mk (hcx _ ⟨_, h⟩) ?_
      refine ix_rd hr (by omega) (by omega) fun c2 o2 y hy hcy => ldI.mk (hcy _ _ (Ok.emb (h) (.cons (A := old W) (by with_reducible first | exact sl0 | exact .there sl0 | exact .there sl1 | exact .there sl2 | exact .there sl3 | exact .there sl4 | exact .there sl5 | exact .there sl6 | exact .there sl7 | exact .there sl8 | exact .there sl9 | exact .there sl10 | exact .there sl11 | exact .there sl12) (.same _)))) ?_
      rw [Int.toNat_natCast] at hx hy
      have hyb := i8_bd ha (List.mem_of_getElem? hy)
      rw [hO, List.getElem?_take_of_lt hlt, hy] at hx
      cases hx
      rw [w64_in (x := x) (by omega) (by omega), hw]
      refine cs.no (by simp) ⟨⟨m + 1, rfl, hlt, h⟩, ?_⟩
      show st - Int.toNat ((m + 1 : Nat) : Int) < st - Int.toNat (m : Int)
      omega

end Go.Proofs.YtenonfkfoedfmaaGreatDoor.B

