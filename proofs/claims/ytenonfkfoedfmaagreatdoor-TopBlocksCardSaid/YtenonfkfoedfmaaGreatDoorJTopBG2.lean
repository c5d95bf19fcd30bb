/- Texts of ours, joined: Grp10, Grp11. -/
import Derived.Test.YtenonfkfoedfmaaGreatDoorJTopB7
set_option linter.unusedSimpArgs false
set_option linter.unusedVariables false
/- Calls of pools. -/
namespace Go.Proofs.YtenonfkfoedfmaaGreatDoor.B
open Go
set_option linter.unusedVariables false

/-- a block is taken, if there is one -/
def cPol (o : Int) (K : KM) : Option ((Int × Int) × KM) :=
  if ¬ (1 ≤ o ∧ o ≤ K.pools.length) then some ((-18, 0), K)
  else (getO K.pools (o - 1)).bind fun p => some (if (p.q.poll p.a p.n p.z).1.2 = true then (0, (p.q.poll p.a p.n p.z).1.1) else (-50, 0), { K with pools := K.pools.set (o - 1).toNat { p with q := (p.q.poll p.a p.n p.z).2 } })

/-- a block is given back -/
def cPut (o x : Int) (K : KM) : Option ((Int × Int) × KM) :=
  if ¬ (1 ≤ o ∧ o ≤ K.pools.length) then some ((-18, 0), K)
  else (getO K.pools (o - 1)).bind fun p => (KM.woken x [(p.q.put x).1.1] { K with pools := K.pools.set (o - 1).toNat { p with q := (p.q.put x).2 } }).map fun K => (((p.q.put x).1.2, 0), K)

theorem block_48 {e k A K r x0 x1 x2 x3} (hm : cPol x0 K = some r) : GrpC e k A K r (sh84 (some ⟨k, 0, none⟩) (((48 : Nat) : Int), x0, x1, x2, x3, ())) := by
  intro L w R h kk
  unfold cPol at hm
  unfold sh84
  refine al.mk h fun b w1 h => al.mk h fun d w2 h => ⟨by decide, by decide, ldI.mk (h.p1.cell rfl) ?_⟩
  obtain ⟨ho, h2⟩ := kerE h.p2
  have hsl := ptrs_len ((Ok.emb (h2) (.cons (A := poolsP A.ps K.pools) (by with_reducible first | exact sl0 | exact .there sl0 | exact .there sl1 | exact .there sl2 | exact .there sl3 | exact .there sl4 | exact .there sl5 | exact .there sl6 | exact .there sl7 | exact .there sl8 | exact .there sl9 | exact .there sl10 | exact .there sl11 | exact .there sl12) (.same _))))
  have hs8 := ho.pools
  refine nn.mk (ldS.mk (h2.cell rfl) ?_)
  have hin := clO_in (x := x0) (n := (K.pools.length : Int)) (by omega)
  have hcl := clO_le (x := x0)
  refine call72 (a1 := clO x0) ?_
  unfold sh72
  by_cases hb : 1 ≤ x0 ∧ x0 ≤ K.pools.length
  · rw [if_neg (fun hx => hx hb)] at hm
    have hx : clO x0 = x0 := clO_eq (by omega)
    rw [hx]
    refine jn.bool false (fun J hJ => cs.no (decide_eq_false (by omega)) ?_) (cs.no rfl ?_)
    · rw [show decide ((x0 : Int) > ((A.ps.len : Int) : Int)) = false from decide_eq_false (by simp at hsl; omega)]
      exact hJ
    obtain ⟨i, hi⟩ : ∃ i : Nat, x0 - 1 = (i : Int) := ⟨(x0 - 1).toNat, by omega⟩
    have hil : i < K.pools.length := by omega
    have hg : getO K.pools (x0 - 1) = some K.pools[i] := by rw [hi, getO_nat]; exact List.getElem?_eq_getElem hil
    rw [hg] at hm
    generalize hs : K.pools[i] = s at hm
    have hsi : K.pools[i]? = some s := by rw [List.getElem?_eq_getElem hil, hs]
    obtain ⟨q, H, h3, back, read⟩ := ptrs_open ((Ok.emb (h2) (.cons (A := poolsP A.ps K.pools) (by with_reducible first | exact sl0 | exact .there sl0 | exact .there sl1 | exact .there sl2 | exact .there sl3 | exact .there sl4 | exact .there sl5 | exact .there sl6 | exact .there sl7 | exact .there sl8 | exact .there sl9 | exact .there sl10 | exact .there sl11 | exact .there sl12) (.same _)))) hsi
    rw [show (x0 - 1).toNat = i by omega, Option.bind_some] at hm
    have close : ∀ w' s', Ok e (poolQ q s' :: H :: pts k (kC A K) :: unitsP A.ub A.us K.us :: semsP A.ss K.sems :: flgP A.fs :: datasP A.ds K.datas :: mmP A.lk K.mm :: placeP A.pl K.pl :: hnP A.hn K.tic K.up K.tb K.last K.ents :: rdyP A.rq K.rdy :: pts d [.int .i64 0, .int .i64 0] :: pts b [.int .i64 ((48 : Nat) : Int), .int .i64 x0, .int .i64 x1, .int .i64 x2, .int .i64 x3] :: old e :: L) w' →
        Ok e (pts d [.int .i64 0, .int .i64 0] :: kerP k A { K with pools := K.pools.set i s' } :: pts b [.int .i64 ((48 : Nat) : Int), .int .i64 x0, .int .i64 x1, .int .i64 x2, .int .i64 x3] :: old e :: L) w' := fun w' s' h => by
      have h := back s' e _ w' h
      have h : Ok e (poolsP A.ps (K.pools.set i s') :: pts k (kC A K) :: unitsP A.ub A.us K.us :: semsP A.ss K.sems :: flgP A.fs :: datasP A.ds K.datas :: mmP A.lk K.mm :: placeP A.pl K.pl :: hnP A.hn K.tic K.up K.tb K.last K.ents :: rdyP A.rq K.rdy :: pts d [.int .i64 0, .int .i64 0] :: pts b [.int .i64 ((48 : Nat) : Int), .int .i64 x0, .int .i64 x1, .int .i64 x2, .int .i64 x3] :: old e :: L) w' := h
      exact (kerI (A := A) (K := { K with pools := K.pools.set i s' }) (L := pts d [.int .i64 0, .int .i64 0] :: pts b [.int .i64 ((48 : Nat) : Int), .int .i64 x0, .int .i64 x1, .int .i64 x2, .int .i64 x3] :: old e :: L) ⟨ho.t0, ho.t1, ho.us, ho.sems, ho.datas, by show (K.pools.set i s').length ≤ 8; rw [List.length_set]; exact ho.pools⟩ (h.emb (by repeat' (first | with_reducible exact Emb.same _ | exact Emb.nil _ | refine Emb.cons (by with_reducible first | exact sl0 | exact .there sl0 | exact .there sl1 | exact .there sl2 | exact .there sl3 | exact .there sl4 | exact .there sl5 | exact .there sl6 | exact .there sl7 | exact .there sl8 | exact .there sl9 | exact .there sl10 | exact .there sl11 | exact .there sl12) ?_ | refine Emb.skip ?_)))).p1
    have h : Ok e (poolQ q s :: H :: pts k (kC A K) :: unitsP A.ub A.us K.us :: semsP A.ss K.sems :: flgP A.fs :: datasP A.ds K.datas :: mmP A.lk K.mm :: placeP A.pl K.pl :: hnP A.hn K.tic K.up K.tb K.last K.ents :: rdyP A.rq K.rdy :: pts d [.int .i64 0, .int .i64 0] :: pts b [.int .i64 ((48 : Nat) : Int), .int .i64 x0, .int .i64 x1, .int .i64 x2, .int .i64 x3] :: old e :: L) w2 := (Ok.emb (h3) (by repeat' (first | with_reducible exact Emb.same _ | exact Emb.nil _ | refine Emb.cons (by with_reducible first | exact sl0 | exact .there sl0 | exact .there sl1 | exact .there sl2 | exact .there sl3 | exact .there sl4 | exact .there sl5 | exact .there sl6 | exact .there sl7 | exact .there sl8 | exact .there sl9 | exact .there sl10 | exact .there sl11 | exact .there sl12) ?_ | refine Emb.skip ?_)))
    clear h2 h3
    rw [w64_in (by omega) (by omega)]
    refine read e _ w2 (x0 - 1) _ h.p1 (by rw [hi]; simp) fun b2 o2 hc => ldP.mk hc ⟨(some ⟨q, 0, none⟩, true, ()), rfl, ?_⟩
    refine ldI.mk (by refine Ok.cellS h (by with_reducible first | exact sl0 | exact .there sl0 | exact .there sl1 | exact .there sl2 | exact .there sl3 | exact .there sl4 | exact .there sl5 | exact .there sl6 | exact .there sl7 | exact .there sl8 | exact .there sl9 | exact .there sl10 | exact .there sl11 | exact .there sl12) ?_; rfl) (ldI.mk (by refine Ok.cellS h (by with_reducible first | exact sl0 | exact .there sl0 | exact .there sl1 | exact .there sl2 | exact .there sl3 | exact .there sl4 | exact .there sl5 | exact .there sl6 | exact .there sl7 | exact .there sl8 | exact .there sl9 | exact .there sl10 | exact .there sl11 | exact .there sl12) ?_; rfl) (ldI.mk (by refine Ok.cellS h (by with_reducible first | exact sl0 | exact .there sl0 | exact .there sl1 | exact .there sl2 | exact .there sl3 | exact .there sl4 | exact .there sl5 | exact .there sl6 | exact .there sl7 | exact .there sl8 | exact .there sl9 | exact .there sl10 | exact .there sl11 | exact .there sl12) ?_; rfl) (ldI.mk (by refine Ok.cellS h (by with_reducible first | exact sl0 | exact .there sl0 | exact .there sl1 | exact .there sl2 | exact .there sl3 | exact .there sl4 | exact .there sl5 | exact .there sl6 | exact .there sl7 | exact .there sl8 | exact .there sl9 | exact .there sl10 | exact .there sl11 | exact .there sl12) ?_; rfl) (ldI.mk (by refine Ok.cellS h (by with_reducible first | exact sl0 | exact .there sl0 | exact .there sl1 | exact .there sl2 | exact .there sl3 | exact .there sl4 | exact .there sl5 | exact .there sl6 | exact .there sl7 | exact .there sl8 | exact .there sl9 | exact .there sl10 | exact .there sl11 | exact .there sl12) ?_; rfl) ?_))))
    refine call141 (a0 := (((48 : Nat) : Int), x0, x1, x2, x3, ())) (timeout_zero h fun w3 h => ⟨((0 : Int), ()), rfl, cs.no rfl ?_⟩)
    refine call136 (late_kern ⟨(true, ()), rfl, cs.no rfl (ldI.mk (by refine Ok.cellS h (by with_reducible first | exact sl0 | exact .there sl0 | exact .there sl1 | exact .there sl2 | exact .there sl3 | exact .there sl4 | exact .there sl5 | exact .there sl6 | exact .there sl7 | exact .there sl8 | exact .there sl9 | exact .there sl10 | exact .there sl11 | exact .there sl12) ?_; rfl) ?_)⟩)
    obtain ⟨m1, h⟩ := h.pureE
    refine cs.no rfl ?_
    refine call157 (Poll_mpf h m1 fun w4 h => ⟨((s.q.poll s.a s.n s.z).1.1, (s.q.poll s.a s.n s.z).1.2, ()), rfl, ?_⟩)
    have h := h.imp (B := poolQ q { s with q := (s.q.poll s.a s.n s.z).2 }) fun k hk => ⟨poll_ok m1, hk⟩
    have h := close w4 _ h
    cases hm
    refine cs.mk (fun h5 => ?_) (fun h5 => cs.yes rfl ?_)
    · have h5 : (s.q.poll s.a s.n s.z).1.2 = true := h5
      rw [if_pos h5] at kk
      exact fin_val h fun w5 h => kk w5 h.p1.drop
    · have h5 : (s.q.poll s.a s.n s.z).1.2 = false := h5
      rw [if_neg (by rw [h5]; decide)] at kk
      exact fin_code h fun w5 h => kk w5 h.p1.drop
  · rw [if_pos hb] at hm
    cases hm
    refine jn.bool true (fun J hJ => cs.mk (fun _ => hJ) (fun hc => ?_)) (cs.yes rfl ⟨(none, false, ()), rfl, ?_⟩)
    · have hc : ¬ clO x0 < 1 := of_decide_eq_false hc
      rw [show decide ((clO x0 : Int) > ((A.ps.len : Int) : Int)) = true from decide_eq_true (by simp at hsl; omega)]
      exact hJ
    refine ldI.mk (h.p1.cell rfl) (ldI.mk (h.p1.cell rfl) (ldI.mk (h.p1.cell rfl) (ldI.mk (h.p1.cell rfl) (ldI.mk (h.p1.cell rfl) ?_))))
    refine call141 (a0 := (((48 : Nat) : Int), x0, x1, x2, x3, ())) (timeout_zero h fun w3 h => ⟨((0 : Int), ()), rfl, cs.yes rfl ?_⟩)
    exact fin_code h fun w4 h => kk w4 h.drop

theorem block_50 {e k A K r x0 x1 x2 x3} (hm : cPut x0 x1 K = some r) : GrpC e k A K r (sh84 (some ⟨k, 0, none⟩) (((50 : Nat) : Int), x0, x1, x2, x3, ())) := by
  intro L w R h kk
  unfold cPut at hm
  unfold sh84
  refine al.mk h fun b w1 h => al.mk h fun d w2 h => ⟨by decide, by decide, ldI.mk (h.p1.cell rfl) ?_⟩
  obtain ⟨ho, h2⟩ := kerE h.p2
  have hsl := ptrs_len ((Ok.emb (h2) (.cons (A := poolsP A.ps K.pools) (by with_reducible first | exact sl0 | exact .there sl0 | exact .there sl1 | exact .there sl2 | exact .there sl3 | exact .there sl4 | exact .there sl5 | exact .there sl6 | exact .there sl7 | exact .there sl8 | exact .there sl9 | exact .there sl10 | exact .there sl11 | exact .there sl12) (.same _))))
  have hs8 := ho.pools
  refine nn.mk (ldS.mk (h2.cell rfl) ?_)
  have hin := clO_in (x := x0) (n := (K.pools.length : Int)) (by omega)
  have hcl := clO_le (x := x0)
  refine call72 (a1 := clO x0) ?_
  unfold sh72
  by_cases hb : 1 ≤ x0 ∧ x0 ≤ K.pools.length
  · rw [if_neg (fun hx => hx hb)] at hm
    have hx : clO x0 = x0 := clO_eq (by omega)
    rw [hx]
    refine jn.bool false (fun J hJ => cs.no (decide_eq_false (by omega)) ?_) (cs.no rfl ?_)
    · rw [show decide ((x0 : Int) > ((A.ps.len : Int) : Int)) = false from decide_eq_false (by simp at hsl; omega)]
      exact hJ
    obtain ⟨i, hi⟩ : ∃ i : Nat, x0 - 1 = (i : Int) := ⟨(x0 - 1).toNat, by omega⟩
    have hil : i < K.pools.length := by omega
    have hg : getO K.pools (x0 - 1) = some K.pools[i] := by rw [hi, getO_nat]; exact List.getElem?_eq_getElem hil
    rw [hg] at hm
    generalize hs : K.pools[i] = s at hm
    have hsi : K.pools[i]? = some s := by rw [List.getElem?_eq_getElem hil, hs]
    obtain ⟨q, H, h3, back, read⟩ := ptrs_open ((Ok.emb (h2) (.cons (A := poolsP A.ps K.pools) (by with_reducible first | exact sl0 | exact .there sl0 | exact .there sl1 | exact .there sl2 | exact .there sl3 | exact .there sl4 | exact .there sl5 | exact .there sl6 | exact .there sl7 | exact .there sl8 | exact .there sl9 | exact .there sl10 | exact .there sl11 | exact .there sl12) (.same _)))) hsi
    rw [show (x0 - 1).toNat = i by omega, Option.bind_some] at hm
    have close : ∀ w' s', Ok e (poolQ q s' :: H :: pts k (kC A K) :: unitsP A.ub A.us K.us :: semsP A.ss K.sems :: flgP A.fs :: datasP A.ds K.datas :: mmP A.lk K.mm :: placeP A.pl K.pl :: hnP A.hn K.tic K.up K.tb K.last K.ents :: rdyP A.rq K.rdy :: pts d [.int .i64 0, .int .i64 0] :: pts b [.int .i64 ((50 : Nat) : Int), .int .i64 x0, .int .i64 x1, .int .i64 x2, .int .i64 x3] :: old e :: L) w' →
        Ok e (pts d [.int .i64 0, .int .i64 0] :: kerP k A { K with pools := K.pools.set i s' } :: pts b [.int .i64 ((50 : Nat) : Int), .int .i64 x0, .int .i64 x1, .int .i64 x2, .int .i64 x3] :: old e :: L) w' := fun w' s' h => by
      have h := back s' e _ w' h
      have h : Ok e (poolsP A.ps (K.pools.set i s') :: pts k (kC A K) :: unitsP A.ub A.us K.us :: semsP A.ss K.sems :: flgP A.fs :: datasP A.ds K.datas :: mmP A.lk K.mm :: placeP A.pl K.pl :: hnP A.hn K.tic K.up K.tb K.last K.ents :: rdyP A.rq K.rdy :: pts d [.int .i64 0, .int .i64 0] :: pts b [.int .i64 ((50 : Nat) : Int), .int .i64 x0, .int .i64 x1, .int .i64 x2, .int .i64 x3] :: old e :: L) w' := h
      exact (kerI (A := A) (K := { K with pools := K.pools.set i s' }) (L := pts d [.int .i64 0, .int .i64 0] :: pts b [.int .i64 ((50 : Nat) : Int), .int .i64 x0, .int .i64 x1, .int .i64 x2, .int .i64 x3] :: old e :: L) ⟨ho.t0, ho.t1, ho.us, ho.sems, ho.datas, by show (K.pools.set i s').length ≤ 8; rw [List.length_set]; exact ho.pools⟩ (h.emb (by repeat' (first | with_reducible exact Emb.same _ | exact Emb.nil _ | refine Emb.cons (by with_reducible first | exact sl0 | exact .there sl0 | exact .there sl1 | exact .there sl2 | exact .there sl3 | exact .there sl4 | exact .there sl5 | exact .there sl6 | exact .there sl7 | exact .there sl8 | exact .there sl9 | exact .there sl10 | exact .there sl11 | exact .there sl12) ?_ | refine Emb.skip ?_)))).p1
    have h : Ok e (poolQ q s :: H :: pts k (kC A K) :: unitsP A.ub A.us K.us :: semsP A.ss K.sems :: flgP A.fs :: datasP A.ds K.datas :: mmP A.lk K.mm :: placeP A.pl K.pl :: hnP A.hn K.tic K.up K.tb K.last K.ents :: rdyP A.rq K.rdy :: pts d [.int .i64 0, .int .i64 0] :: pts b [.int .i64 ((50 : Nat) : Int), .int .i64 x0, .int .i64 x1, .int .i64 x2, .int .i64 x3] :: old e :: L) w2 := (Ok.emb (h3) (by repeat' (first | with_reducible exact Emb.same _ | exact Emb.nil _ | refine Emb.cons (by with_reducible first | exact sl0 | exact .there sl0 | exact .there sl1 | exact .there sl2 | exact .there sl3 | exact .there sl4 | exact .there sl5 | exact .there sl6 | exact .there sl7 | exact .there sl8 | exact .there sl9 | exact .there sl10 | exact .there sl11 | exact .there sl12) ?_ | refine Emb.skip ?_)))
    clear h2 h3
    rw [w64_in (by omega) (by omega)]
    refine read e _ w2 (x0 - 1) _ h.p1 (by rw [hi]; simp) fun b2 o2 hc => ldP.mk hc ⟨(some ⟨q, 0, none⟩, true, ()), rfl, ?_⟩
    refine ldI.mk (by refine Ok.cellS h (by with_reducible first | exact sl0 | exact .there sl0 | exact .there sl1 | exact .there sl2 | exact .there sl3 | exact .there sl4 | exact .there sl5 | exact .there sl6 | exact .there sl7 | exact .there sl8 | exact .there sl9 | exact .there sl10 | exact .there sl11 | exact .there sl12) ?_; rfl) (ldI.mk (by refine Ok.cellS h (by with_reducible first | exact sl0 | exact .there sl0 | exact .there sl1 | exact .there sl2 | exact .there sl3 | exact .there sl4 | exact .there sl5 | exact .there sl6 | exact .there sl7 | exact .there sl8 | exact .there sl9 | exact .there sl10 | exact .there sl11 | exact .there sl12) ?_; rfl) (ldI.mk (by refine Ok.cellS h (by with_reducible first | exact sl0 | exact .there sl0 | exact .there sl1 | exact .there sl2 | exact .there sl3 | exact .there sl4 | exact .there sl5 | exact .there sl6 | exact .there sl7 | exact .there sl8 | exact .there sl9 | exact .there sl10 | exact .there sl11 | exact .there sl12) ?_; rfl) (ldI.mk (by refine Ok.cellS h (by with_reducible first | exact sl0 | exact .there sl0 | exact .there sl1 | exact .there sl2 | exact .there sl3 | exact .there sl4 | exact .there sl5 | exact .there sl6 | exact .there sl7 | exact .there sl8 | exact .there sl9 | exact .there sl10 | exact .there sl11 | exact .there sl12) ?_; rfl) (ldI.mk (by refine Ok.cellS h (by with_reducible first | exact sl0 | exact .there sl0 | exact .there sl1 | exact .there sl2 | exact .there sl3 | exact .there sl4 | exact .there sl5 | exact .there sl6 | exact .there sl7 | exact .there sl8 | exact .there sl9 | exact .there sl10 | exact .there sl11 | exact .there sl12) ?_; rfl) ?_))))
    refine call141 (a0 := (((50 : Nat) : Int), x0, x1, x2, x3, ())) (timeout_none h (by decide) (by decide) fun w3 h => ⟨((-1 : Int), ()), rfl, cs.no rfl ?_⟩)
    refine call136 (late_kern ⟨(true, ()), rfl, cs.no rfl (ldI.mk (by refine Ok.cellS h (by with_reducible first | exact sl0 | exact .there sl0 | exact .there sl1 | exact .there sl2 | exact .there sl3 | exact .there sl4 | exact .there sl5 | exact .there sl6 | exact .there sl7 | exact .there sl8 | exact .there sl9 | exact .there sl10 | exact .there sl11 | exact .there sl12) ?_; rfl) ?_)⟩)
    obtain ⟨m1, h⟩ := h.pureE
    obtain ⟨K', hK, rfl⟩ := Option.map_eq_some_iff.1 hm
    refine cs.yes rfl ⟨by decide, by decide, ldI.mk (by refine Ok.cellS h (by with_reducible first | exact sl0 | exact .there sl0 | exact .there sl1 | exact .there sl2 | exact .there sl3 | exact .there sl4 | exact .there sl5 | exact .there sl6 | exact .there sl7 | exact .there sl8 | exact .there sl9 | exact .there sl10 | exact .there sl11 | exact .there sl12) ?_; rfl) ?_⟩
    refine call156 (Put_mpf h m1 fun w4 h => ⟨((s.q.put x1).1.1, (s.q.put x1).1.2, ()), rfl, by decide, by decide, ldI.mk (by refine Ok.cellS h (by with_reducible first | exact sl0 | exact .there sl0 | exact .there sl1 | exact .there sl2 | exact .there sl3 | exact .there sl4 | exact .there sl5 | exact .there sl6 | exact .there sl7 | exact .there sl8 | exact .there sl9 | exact .there sl10 | exact .there sl11 | exact .there sl12) ?_; rfl) ?_⟩)
    have h := h.imp (B := poolQ q { s with q := (s.q.put x1).2 }) fun k hk => ⟨put_ok m1, hk⟩
    have h := close w4 _ h
    refine al.mk h fun f w5 h => ?_
    have h : Ok e (slc 1 ⟨some ⟨f, 0, none⟩, 1, 1⟩ (ints [(s.q.put x1).1.1]) :: pts d [.int .i64 0, .int .i64 0] :: kerP k A { K with pools := K.pools.set i { s with q := (s.q.put x1).2 } } :: pts b [.int .i64 ((50 : Nat) : Int), .int .i64 x0, .int .i64 x1, .int .i64 x2, .int .i64 x3] :: old e :: L) w5 := slcOf (l := [(s.q.put x1).1.1]) h
    refine call143 (a2 := ⟨some ⟨f, 0, none⟩, 1, 1⟩) (woken_kern (l := [(s.q.put x1).1.1]) ((Ok.emb (h) (.cons (A := kerP k A { K with pools := K.pools.set i { s with q := (s.q.put x1).2 } }) (by with_reducible first | exact sl0 | exact .there sl0 | exact .there sl1 | exact .there sl2 | exact .there sl3 | exact .there sl4 | exact .there sl5 | exact .there sl6 | exact .there sl7 | exact .there sl8 | exact .there sl9 | exact .there sl10 | exact .there sl11 | exact .there sl12) (.cons (A := slc 1 ⟨some ⟨f, 0, none⟩, 1, 1⟩ (ints [(s.q.put x1).1.1])) (by with_reducible first | exact sl0 | exact .there sl0 | exact .there sl1 | exact .there sl2 | exact .there sl3 | exact .there sl4 | exact .there sl5 | exact .there sl6 | exact .there sl7 | exact .there sl8 | exact .there sl9 | exact .there sl10 | exact .there sl11 | exact .there sl12) (.same _))))) (by simp) hK fun w6 h => ⟨(), rfl, ?_⟩)
    exact fin_code ((Ok.emb (h) (.cons (A := pts d [.int .i64 0, .int .i64 0]) (by with_reducible first | exact sl0 | exact .there sl0 | exact .there sl1 | exact .there sl2 | exact .there sl3 | exact .there sl4 | exact .there sl5 | exact .there sl6 | exact .there sl7 | exact .there sl8 | exact .there sl9 | exact .there sl10 | exact .there sl11 | exact .there sl12) (.same _)))) fun w6 h => kk w6 (h.emb (by repeat' (first | with_reducible exact Emb.same _ | exact Emb.nil _ | refine Emb.cons (by with_reducible first | exact sl0 | exact .there sl0 | exact .there sl1 | exact .there sl2 | exact .there sl3 | exact .there sl4 | exact .there sl5 | exact .there sl6 | exact .there sl7 | exact .there sl8 | exact .there sl9 | exact .there sl10 | exact .there sl11 | exact .there sl12) ?_ | refine Emb.skip ?_)))
  · rw [if_pos hb] at hm
    cases hm
    refine jn.bool true (fun J hJ => cs.mk (fun _ => hJ) (fun hc => ?_)) (cs.yes rfl ⟨(none, false, ()), rfl, ?_⟩)
    · have hc : ¬ clO x0 < 1 := of_decide_eq_false hc
      rw [show decide ((clO x0 : Int) > ((A.ps.len : Int) : Int)) = true from decide_eq_true (by simp at hsl; omega)]
      exact hJ
    refine ldI.mk (h.p1.cell rfl) (ldI.mk (h.p1.cell rfl) (ldI.mk (h.p1.cell rfl) (ldI.mk (h.p1.cell rfl) (ldI.mk (h.p1.cell rfl) ?_))))
    refine call141 (a0 := (((50 : Nat) : Int), x0, x1, x2, x3, ())) (timeout_none h (by decide) (by decide) fun w3 h => ⟨((-1 : Int), ()), rfl, cs.yes rfl ?_⟩)
    exact fin_code h fun w4 h => kk w4 h.drop

theorem do_48 {e} (tb : TabE e) : DoC e 48 1 fun x0 _ => cPol x0 := by
  intro k A K r L w x0 x1 x2 x3 R h hm kk
  exact Do_kern (n := 48) tb rfl (by decide) h hm (fun r hr => .inr (.inr (.inr (.inr (.inr (.inl ⟨by decide, by decide, block_48 hr⟩)))))) kk

theorem do_50 {e} (tb : TabE e) : DoC e 50 1 cPut := by
  intro k A K r L w x0 x1 x2 x3 R h hm kk
  exact Do_kern (n := 50) tb rfl (by decide) h hm (fun r hr => .inr (.inr (.inr (.inr (.inr (.inl ⟨by decide, by decide, block_50 hr⟩)))))) kk

end Go.Proofs.YtenonfkfoedfmaaGreatDoor.B


/- What is told of a pool. -/
namespace Go.Proofs.YtenonfkfoedfmaaGreatDoor.B
open Go
set_option linter.unusedVariables false

theorem Pool_kern {e w L k A K o s R} (h : Ok e (kerP k A K :: L) w) (hs : getO K.pools (o - 1) = some s) (kk : ∀ x w', x.len = s.q.S.length → Ok e (slc 1 x (ints (s.q.S.map (·.1))) :: kerP k A K :: L) w' → R [.int .i64 (s.n - s.q.held.length), vS x, .int .i64 0] w') : sh38 (some ⟨k, 0, none⟩) o R w := by
  obtain ⟨ho, h⟩ := kerE h
  obtain ⟨o1, o2, hsi⟩ := getO_some hs
  have hsl := ptrs_len ((Ok.emb (h) (.cons (A := poolsP A.ps K.pools) (by with_reducible first | exact sl0 | exact .there sl0 | exact .there sl1 | exact .there sl2 | exact .there sl3 | exact .there sl4 | exact .there sl5 | exact .there sl6 | exact .there sl7 | exact .there sl8 | exact .there sl9 | exact .there sl10 | exact .there sl11 | exact .there sl12) (.same _))))
  unfold sh38
  refine nn.mk (ldS.mk (h.cell rfl) ?_)
  refine call72 ?_
  unfold sh72
  refine jn.bool false (fun J hJ => cs.no (decide_eq_false (by omega)) ?_) (cs.no rfl ?_)
  · rw [show decide ((o : Int) > ((A.ps.len : Int) : Int)) = false from decide_eq_false (by simp at hsl; omega)]
    exact hJ
  obtain ⟨q, H, h, back, read⟩ := ptrs_open ((Ok.emb (h) (.cons (A := poolsP A.ps K.pools) (by with_reducible first | exact sl0 | exact .there sl0 | exact .there sl1 | exact .there sl2 | exact .there sl3 | exact .there sl4 | exact .there sl5 | exact .there sl6 | exact .there sl7 | exact .there sl8 | exact .there sl9 | exact .there sl10 | exact .there sl11 | exact .there sl12) (.same _)))) hsi
  have hs8 := ho.pools
  rw [w64_in (by omega) (by omega)]
  refine read e _ w (o - 1) _ h.p1 (by simp; omega) fun b2 o3 hc => ldP.mk hc ⟨(some ⟨q, 0, none⟩, true, ()), rfl, cs.no rfl ?_⟩
  obtain ⟨m1, h⟩ := h.pureE
  obtain ⟨p, s1, t1, b1, b3, h⟩ := mpfE h
  have hlen := m1.len
  have hhad := m1.had
  have hc := m1.c
  refine dr.mk h fun w1 h => nn.mk (ldP.mk (h.cell rfl) ?_)
  refine call73 ?_
  unfold sh73
  refine dr.mk h fun w2 h => nn.mk (ldI.mk (h.cell rfl) (nn.mk (ldS.mk (h.cell rfl) ⟨(s.n - (t1.len : Int), ()), by rw [show w64 (s.n - (t1.len : Int)) = s.n - (t1.len : Int) from w64_in (by omega) (by omega)]; rfl, h.cell rfl, ?_⟩)))
  refine call60 (ids_kern h.p1 (by have := okL_len m1.line; omega) fun x w3 hx h => ⟨(x, ()), rfl, ?_⟩)
  have h := mpfI (b := q) (byPri := s.byPri) (a := s.a) (n := s.n) (z := s.z) (q := s.q) (p := p) (s := s1) (t := t1) ((Ok.emb (h) (.cons (A := pts q [.pointer (some ⟨p, 0, none⟩), .int .i64 s.a, .int .i64 s.n, .int .i64 s.z, .int .i64 s.q.had, vS s1, vS t1]) (by with_reducible first | exact sl0 | exact .there sl0 | exact .there sl1 | exact .there sl2 | exact .there sl3 | exact .there sl4 | exact .there sl5 | exact .there sl6 | exact .there sl7 | exact .there sl8 | exact .there sl9 | exact .there sl10 | exact .there sl11 | exact .there sl12) (.cons (A := lineP p [.bool s.byPri] s.q.S) (by with_reducible first | exact sl0 | exact .there sl0 | exact .there sl1 | exact .there sl2 | exact .there sl3 | exact .there sl4 | exact .there sl5 | exact .there sl6 | exact .there sl7 | exact .there sl8 | exact .there sl9 | exact .there sl10 | exact .there sl11 | exact .there sl12) (.cons (A := slc 1 s1 (ints s.q.back)) (by with_reducible first | exact sl0 | exact .there sl0 | exact .there sl1 | exact .there sl2 | exact .there sl3 | exact .there sl4 | exact .there sl5 | exact .there sl6 | exact .there sl7 | exact .there sl8 | exact .there sl9 | exact .there sl10 | exact .there sl11 | exact .there sl12) (.cons (A := slc 1 t1 (ints s.q.held)) (by with_reducible first | exact sl0 | exact .there sl0 | exact .there sl1 | exact .there sl2 | exact .there sl3 | exact .there sl4 | exact .there sl5 | exact .there sl6 | exact .there sl7 | exact .there sl8 | exact .there sl9 | exact .there sl10 | exact .there sl11 | exact .there sl12) (.same _)))))))
  have h := h.imp (B := poolQ q s) fun k hk => ⟨m1, hk⟩
  have h := back s e _ w3 ((Ok.emb (h) (.cons (A := poolQ q s) (by with_reducible first | exact sl0 | exact .there sl0 | exact .there sl1 | exact .there sl2 | exact .there sl3 | exact .there sl4 | exact .there sl5 | exact .there sl6 | exact .there sl7 | exact .there sl8 | exact .there sl9 | exact .there sl10 | exact .there sl11 | exact .there sl12) (.cons (A := H) (by with_reducible first | exact sl0 | exact .there sl0 | exact .there sl1 | exact .there sl2 | exact .there sl3 | exact .there sl4 | exact .there sl5 | exact .there sl6 | exact .there sl7 | exact .there sl8 | exact .there sl9 | exact .there sl10 | exact .there sl11 | exact .there sl12) (.same _)))))
  rw [set_same hsi] at h
  have hk := kk x w3 hx ?_
  · rw [b3] at hk
    exact hk
  have h : Ok e (poolsP A.ps K.pools :: slc 1 x (ints (s.q.S.map (·.1))) :: pts k (kC A K) :: unitsP A.ub A.us K.us :: semsP A.ss K.sems :: flgP A.fs :: datasP A.ds K.datas :: mmP A.lk K.mm :: placeP A.pl K.pl :: hnP A.hn K.tic K.up K.tb K.last K.ents :: rdyP A.rq K.rdy :: L) w3 := h
  exact (kerI (A := A) (K := K) (L := slc 1 x (ints (s.q.S.map (·.1))) :: L) ho (h.emb (by repeat' (first | with_reducible exact Emb.same _ | exact Emb.nil _ | refine Emb.cons (by with_reducible first | exact sl0 | exact .there sl0 | exact .there sl1 | exact .there sl2 | exact .there sl3 | exact .there sl4 | exact .there sl5 | exact .there sl6 | exact .there sl7 | exact .there sl8 | exact .there sl9 | exact .there sl10 | exact .there sl11 | exact .there sl12) ?_ | refine Emb.skip ?_)))).p1

end Go.Proofs.YtenonfkfoedfmaaGreatDoor.B

