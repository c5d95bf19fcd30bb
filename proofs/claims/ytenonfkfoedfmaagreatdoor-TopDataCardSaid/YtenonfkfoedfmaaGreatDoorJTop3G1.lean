/- Texts of ours, joined: Grp8, Grp9. -/
import Derived.Test.YtenonfkfoedfmaaGreatDoorJTop38
set_option linter.unusedSimpArgs false
set_option linter.unusedVariables false
/- Waits for semaphores. -/
namespace Go.Proofs.YtenonfkfoedfmaaGreatDoor.B
open Go
set_option linter.unusedVariables false

theorem clO_le {x : Int} : 0 ≤ clO x ∧ clO x ≤ 9 := by
  unfold clO
  split <;> split at * <;> omega

/-- the second argument is the time-out -/
theorem timeout_snd {e w L R} {n : Nat} {a1 kd x0 x1 x2 x3 : Int} (h : Ok e L w) (hn : akL[n]? = some (2, kd)) (h0 : 0 < n) (h1 : (n : Int) ≠ a1) (k : ∀ w', Ok e L w' → R [.int .i64 x1] w') : sh141 ((n : Int), x0, x1, x2, x3, ()) a1 (n : Int) R w := by
  unfold sh141
  refine al.mk h fun b w1 h => ldI.mk (h.cell rfl) (cs.no (by simpa using h1) (cs.yes (by simp) (ldI.mk (h.cell rfl) ?_)))
  refine call213 (Arity_calls h hn h0 fun w2 h => ⟨((2 : Int), ()), rfl, ?_⟩)
  exact ⟨by decide, by decide, ldI.mk (h.cell rfl) (k w2 h.drop)⟩

theorem sem_wait {e k A K r x0 x1 x2 x3 tmo} {n : Nat} (hn : n = 25 ∨ n = 27)
    (hto : ∀ L w (R : List Value → World → Prop), Ok e L w → (∀ w', Ok e L w' → R [.int .i64 tmo] w') → sh141 ((n : Int), x0, x1, x2, x3, ()) 26 27 R w)
    (hm : KM.cSem x0 tmo K = some r) : GrpC e k A K r (sh80 (some ⟨k, 0, none⟩) ((n : Int), x0, x1, x2, x3, ())) := by
  intro L w R h kk
  unfold KM.cSem at hm
  unfold sh80
  refine al.mk h fun b w1 h => al.mk h fun d w2 h => ⟨by decide, by decide, ldI.mk (h.p1.cell rfl) ?_⟩
  obtain ⟨ho, h2⟩ := kerE h.p2
  have hsl := ptrs_len ((Ok.emb (h2) (.cons (A := semsP A.ss K.sems) (by with_reducible first | exact sl0 | exact .there sl0 | exact .there sl1 | exact .there sl2 | exact .there sl3 | exact .there sl4 | exact .there sl5 | exact .there sl6 | exact .there sl7 | exact .there sl8 | exact .there sl9 | exact .there sl10 | exact .there sl11 | exact .there sl12) (.same _))))
  have hs8 := ho.sems
  refine nn.mk (ldS.mk (h2.cell rfl) ?_)
  have hin := clO_in (x := x0) (n := (K.sems.length : Int)) (by omega)
  have hcl := clO_le (x := x0)
  refine call59 (a1 := clO x0) ?_
  unfold sh59
  by_cases hb : 1 ≤ x0 ∧ x0 ≤ K.sems.length
  · rw [if_neg (fun hx => hx hb)] at hm
    have hx : clO x0 = x0 := clO_eq (by omega)
    rw [hx]
    refine jn.bool false (fun J hJ => cs.no (decide_eq_false (by omega)) ?_) (cs.no rfl ?_)
    · rw [show decide ((x0 : Int) > ((A.ss.len : Int) : Int)) = false from decide_eq_false (by simp at hsl; omega)]
      exact hJ
    obtain ⟨i, hi⟩ : ∃ i : Nat, x0 - 1 = (i : Int) := ⟨(x0 - 1).toNat, by omega⟩
    have hil : i < K.sems.length := by omega
    have hg : getO K.sems (x0 - 1) = some K.sems[i] := by rw [hi, getO_nat]; exact List.getElem?_eq_getElem hil
    rw [hg] at hm
    generalize hs : K.sems[i] = s at hm
    have hsi : K.sems[i]? = some s := by rw [List.getElem?_eq_getElem hil, hs]
    obtain ⟨q, H, h3, back, read⟩ := ptrs_open ((Ok.emb (h2) (.cons (A := semsP A.ss K.sems) (by with_reducible first | exact sl0 | exact .there sl0 | exact .there sl1 | exact .there sl2 | exact .there sl3 | exact .there sl4 | exact .there sl5 | exact .there sl6 | exact .there sl7 | exact .there sl8 | exact .there sl9 | exact .there sl10 | exact .there sl11 | exact .there sl12) (.same _)))) hsi
    rw [show (x0 - 1).toNat = i by omega] at hm
    have close : ∀ w' s', Ok e (semQ q s' :: H :: pts k (kC A K) :: unitsP A.ub A.us K.us :: flgP A.fs :: datasP A.ds K.datas :: poolsP A.ps K.pools :: mmP A.lk K.mm :: placeP A.pl K.pl :: hnP A.hn K.tic K.up K.tb K.last K.ents :: rdyP A.rq K.rdy :: pts d [.int .i64 0, .int .i64 0] :: pts b [.int .i64 (n : Int), .int .i64 x0, .int .i64 x1, .int .i64 x2, .int .i64 x3] :: old e :: L) w' →
        Ok e (pts d [.int .i64 0, .int .i64 0] :: kerP k A { K with sems := K.sems.set i s' } :: pts b [.int .i64 (n : Int), .int .i64 x0, .int .i64 x1, .int .i64 x2, .int .i64 x3] :: old e :: L) w' := fun w' s' h => by
      have h := back s' e _ w' h
      have h : Ok e (semsP A.ss (K.sems.set i s') :: pts k (kC A K) :: unitsP A.ub A.us K.us :: flgP A.fs :: datasP A.ds K.datas :: poolsP A.ps K.pools :: mmP A.lk K.mm :: placeP A.pl K.pl :: hnP A.hn K.tic K.up K.tb K.last K.ents :: rdyP A.rq K.rdy :: pts d [.int .i64 0, .int .i64 0] :: pts b [.int .i64 (n : Int), .int .i64 x0, .int .i64 x1, .int .i64 x2, .int .i64 x3] :: old e :: L) w' := h
      exact (kerI (A := A) (K := { K with sems := K.sems.set i s' }) (L := pts d [.int .i64 0, .int .i64 0] :: pts b [.int .i64 (n : Int), .int .i64 x0, .int .i64 x1, .int .i64 x2, .int .i64 x3] :: old e :: L) ⟨ho.t0, ho.t1, ho.us, by show (K.sems.set i s').length ≤ 8; rw [List.length_set]; exact ho.sems, ho.datas, ho.pools⟩ (h.emb (by repeat' (first | with_reducible exact Emb.same _ | exact Emb.nil _ | refine Emb.cons (by with_reducible first | exact sl0 | exact .there sl0 | exact .there sl1 | exact .there sl2 | exact .there sl3 | exact .there sl4 | exact .there sl5 | exact .there sl6 | exact .there sl7 | exact .there sl8 | exact .there sl9 | exact .there sl10 | exact .there sl11 | exact .there sl12) ?_ | refine Emb.skip ?_)))).p1
    have same : ({ K with sems := K.sems.set i s } : KM) = K := by rw [set_same hsi]
    have h : Ok e (semQ q s :: H :: pts k (kC A K) :: unitsP A.ub A.us K.us :: flgP A.fs :: datasP A.ds K.datas :: poolsP A.ps K.pools :: mmP A.lk K.mm :: placeP A.pl K.pl :: hnP A.hn K.tic K.up K.tb K.last K.ents :: rdyP A.rq K.rdy :: pts d [.int .i64 0, .int .i64 0] :: pts b [.int .i64 (n : Int), .int .i64 x0, .int .i64 x1, .int .i64 x2, .int .i64 x3] :: old e :: L) w2 := (Ok.emb (h3) (by repeat' (first | with_reducible exact Emb.same _ | exact Emb.nil _ | refine Emb.cons (by with_reducible first | exact sl0 | exact .there sl0 | exact .there sl1 | exact .there sl2 | exact .there sl3 | exact .there sl4 | exact .there sl5 | exact .there sl6 | exact .there sl7 | exact .there sl8 | exact .there sl9 | exact .there sl10 | exact .there sl11 | exact .there sl12) ?_ | refine Emb.skip ?_)))
    clear h2 h3
    rw [w64_in (by omega) (by omega)]
    refine read e _ w2 (x0 - 1) _ h.p1 (by rw [hi]; simp) fun b2 o2 hc => ldP.mk hc ⟨(some ⟨q, 0, none⟩, true, ()), rfl, ?_⟩
    refine ldI.mk (by refine Ok.cellS h (by with_reducible first | exact sl0 | exact .there sl0 | exact .there sl1 | exact .there sl2 | exact .there sl3 | exact .there sl4 | exact .there sl5 | exact .there sl6 | exact .there sl7 | exact .there sl8 | exact .there sl9 | exact .there sl10 | exact .there sl11 | exact .there sl12) ?_; rfl) (ldI.mk (by refine Ok.cellS h (by with_reducible first | exact sl0 | exact .there sl0 | exact .there sl1 | exact .there sl2 | exact .there sl3 | exact .there sl4 | exact .there sl5 | exact .there sl6 | exact .there sl7 | exact .there sl8 | exact .there sl9 | exact .there sl10 | exact .there sl11 | exact .there sl12) ?_; rfl) (ldI.mk (by refine Ok.cellS h (by with_reducible first | exact sl0 | exact .there sl0 | exact .there sl1 | exact .there sl2 | exact .there sl3 | exact .there sl4 | exact .there sl5 | exact .there sl6 | exact .there sl7 | exact .there sl8 | exact .there sl9 | exact .there sl10 | exact .there sl11 | exact .there sl12) ?_; rfl) (ldI.mk (by refine Ok.cellS h (by with_reducible first | exact sl0 | exact .there sl0 | exact .there sl1 | exact .there sl2 | exact .there sl3 | exact .there sl4 | exact .there sl5 | exact .there sl6 | exact .there sl7 | exact .there sl8 | exact .there sl9 | exact .there sl10 | exact .there sl11 | exact .there sl12) ?_; rfl) (ldI.mk (by refine Ok.cellS h (by with_reducible first | exact sl0 | exact .there sl0 | exact .there sl1 | exact .there sl2 | exact .there sl3 | exact .there sl4 | exact .there sl5 | exact .there sl6 | exact .there sl7 | exact .there sl8 | exact .there sl9 | exact .there sl10 | exact .there sl11 | exact .there sl12) ?_; rfl) ?_))))
    refine call141 (a0 := ((n : Int), x0, x1, x2, x3, ())) (hto _ _ _ h fun w3 h => ⟨(tmo, ()), rfl, cs.no rfl ?_⟩)
    refine call136 (late_kern ⟨(decide (-1 ≤ tmo ∧ tmo ≤ 2147483647), ()), rfl, ?_⟩)
    refine cs.mk (fun hl => ?_) (fun hl => ?_)
    · have hl : ¬ (-1 ≤ tmo ∧ tmo ≤ 2147483647) := fun hx => by
        have hl : (!decide (-1 ≤ tmo ∧ tmo ≤ 2147483647)) = true := hl
        rw [decide_eq_true hx] at hl; cases hl
      rw [if_pos hl] at hm
      cases hm
      have h := close w3 s h
      rw [same] at h
      exact fin_code h fun w4 h => kk w4 h.p1.drop
    have hl : -1 ≤ tmo ∧ tmo ≤ 2147483647 := Classical.byContradiction fun hx => by
      have hl : (!decide (-1 ≤ tmo ∧ tmo ≤ 2147483647)) = false := hl
      rw [decide_eq_false hx] at hl; cases hl
    rw [if_neg (fun hx => hx hl), Option.bind_some] at hm
    refine ldI.mk (by refine Ok.cellS h (by with_reducible first | exact sl0 | exact .there sl0 | exact .there sl1 | exact .there sl2 | exact .there sl3 | exact .there sl4 | exact .there sl5 | exact .there sl6 | exact .there sl7 | exact .there sl8 | exact .there sl9 | exact .there sl10 | exact .there sl11 | exact .there sl12) ?_; rfl) (jn.bool false (fun J hJ => cs.no (by simp; omega) (ldI.mk (by refine Ok.cellS h (by with_reducible first | exact sl0 | exact .there sl0 | exact .there sl1 | exact .there sl2 | exact .there sl3 | exact .there sl4 | exact .there sl5 | exact .there sl6 | exact .there sl7 | exact .there sl8 | exact .there sl9 | exact .there sl10 | exact .there sl11 | exact .there sl12) ?_; rfl) ?_)) (cs.no rfl ?_))
    · rw [show ((n : Int) == (24 : Int)) = false by simp; omega]
      exact hJ
    obtain ⟨q1, q2, p, h⟩ := semE h
    refine call92 (Poll_sem h q2 fun w4 h => ⟨(decide (0 < s.c), ()), rfl, ?_⟩)
    refine cs.mk (fun h5 => ?_) (fun h5 => ?_)
    · have h5 : 0 < s.c := of_decide_eq_true h5
      rw [if_pos h5] at hm
      cases hm
      rw [if_neg (by omega)] at h
      have h := close w4 { s with c := s.c - 1 } (semI (s := { s with c := s.c - 1 }) q1 (by unfold semOk at *; dsimp only; omega) h)
      exact fin_code h fun w5 h => kk w5 h.p1.drop
    have h5 : ¬ 0 < s.c := of_decide_eq_false h5
    rw [if_neg h5] at hm
    rw [if_pos (by omega)] at h
    refine cs.mk (fun h6 => ?_) (fun h6 => ?_)
    · have h6 : tmo = 0 := by simpa using h6
      rw [if_pos h6] at hm
      cases hm
      have h := close w4 s (semI q1 q2 h)
      rw [same] at h
      exact fin_code h fun w5 h => kk w5 h.p1.drop
    have h6 : ¬ tmo = 0 := by simpa using h6
    rw [if_neg h6] at hm
    obtain ⟨pr, hpr, hm⟩ := Option.bind_eq_some_iff.1 hm
    obtain ⟨K', hK, rfl⟩ := Option.map_eq_some_iff.1 hm
    refine dr.mk h fun w5 h => nn.mk (ldI.mk (by refine Ok.cellS h (by with_reducible first | exact sl0 | exact .there sl0 | exact .there sl1 | exact .there sl2 | exact .there sl3 | exact .there sl4 | exact .there sl5 | exact .there sl6 | exact .there sl7 | exact .there sl8 | exact .there sl9 | exact .there sl10 | exact .there sl11 | exact .there sl12) ?_; rfl) (nn.mk (ldP.mk (by refine Ok.cellS h (by with_reducible first | exact sl0 | exact .there sl0 | exact .there sl1 | exact .there sl2 | exact .there sl3 | exact .there sl4 | exact .there sl5 | exact .there sl6 | exact .there sl7 | exact .there sl8 | exact .there sl9 | exact .there sl10 | exact .there sl11 | exact .there sl12) ?_; rfl) (nn.mk (ldI.mk (by refine Ok.cellS h (by with_reducible first | exact sl0 | exact .there sl0 | exact .there sl1 | exact .there sl2 | exact .there sl3 | exact .there sl4 | exact .there sl5 | exact .there sl6 | exact .there sl7 | exact .there sl8 | exact .there sl9 | exact .there sl10 | exact .there sl11 | exact .there sl12) ?_; rfl) ?_)))))
    refine call35 (Pri_mtx ((Ok.emb (h) (.cons (A := mmP A.lk K.mm) (by with_reducible first | exact sl0 | exact .there sl0 | exact .there sl1 | exact .there sl2 | exact .there sl3 | exact .there sl4 | exact .there sl5 | exact .there sl6 | exact .there sl7 | exact .there sl8 | exact .there sl9 | exact .there sl10 | exact .there sl11 | exact .there sl12) (.same _)))) hpr ⟨(pr, ()), rfl, (by refine Ok.cellS h (by with_reducible first | exact sl0 | exact .there sl0 | exact .there sl1 | exact .there sl2 | exact .there sl3 | exact .there sl4 | exact .there sl5 | exact .there sl6 | exact .there sl7 | exact .there sl8 | exact .there sl9 | exact .there sl10 | exact .there sl11 | exact .there sl12) ?_; rfl), ?_⟩)
    have hw : waitM s.byPri s.c s.l K.who pr = ⟨false, (addL s.byPri s.l K.who pr).1, s.c, (addL s.byPri s.l K.who pr).2⟩ := if_pos (by omega)
    refine call48 (Wait_sem h (by have := okL_len q1; omega) q2 fun w6 h => ⟨((waitM s.byPri s.c s.l K.who pr).ok, (waitM s.byPri s.c s.l K.who pr).code, ()), rfl, ?_⟩)
    rw [hw] at h
    have h := close w6 { s with l := (addL s.byPri s.l K.who pr).2 } (semI (s := { s with l := (addL s.byPri s.l K.who pr).2 }) (okL_add q1) q2 h)
    show cl Pg 138 [pV k, .int .i64 3, .int .i64 (clO x0), .int .i64 tmo] [.a [(.i .i64), (.i .i64)]] w6 _
    rw [hx]
    exact call138 (stay_kern h.p1 hK fun w7 h => ⟨(((1 : Int), (0 : Int), ()), ()), rfl, fin_res h.p1 fun w8 h => kk w8 h.p1.drop⟩)
  · rw [if_pos hb] at hm
    cases hm
    refine jn.bool true (fun J hJ => cs.mk (fun _ => hJ) (fun hc => ?_)) (cs.yes rfl ⟨(none, false, ()), rfl, ?_⟩)
    · have hc : ¬ clO x0 < 1 := of_decide_eq_false hc
      rw [show decide ((clO x0 : Int) > ((A.ss.len : Int) : Int)) = true from decide_eq_true (by simp at hsl; omega)]
      exact hJ
    refine ldI.mk (h.p1.cell rfl) (ldI.mk (h.p1.cell rfl) (ldI.mk (h.p1.cell rfl) (ldI.mk (h.p1.cell rfl) (ldI.mk (h.p1.cell rfl) ?_))))
    refine call141 (a0 := ((n : Int), x0, x1, x2, x3, ())) (hto _ _ _ h fun w3 h => ⟨(tmo, ()), rfl, cs.yes rfl ?_⟩)
    exact fin_code h fun w4 h => kk w4 h.drop

theorem do_25 {e} (tb : TabE e) : DoC e 25 2 fun x0 _ => KM.cSem x0 (-1) := by
  intro k A K r L w x0 x1 x2 x3 R h hm kk
  exact Do_kern (n := 25) tb rfl (by decide) h hm (fun r hr => .inr (.inl ⟨by decide, by decide, sem_wait (tmo := -1) (.inl rfl) (fun L w R h k => timeout_none h (by decide) (by decide) k) hr⟩)) kk

theorem do_27 {e} (tb : TabE e) : DoC e 27 2 fun x0 x1 => KM.cSem x0 x1 := by
  intro k A K r L w x0 x1 x2 x3 R h hm kk
  exact Do_kern (n := 27) tb rfl (by decide) h hm (fun r hr => .inr (.inl ⟨by decide, by decide, sem_wait (tmo := x1) (.inr rfl) (fun L w R h k => timeout_snd (n := 27) (kd := 2) h rfl (by decide) (by decide) k) hr⟩)) kk

end Go.Proofs.YtenonfkfoedfmaaGreatDoor.B


/- What is told of a semaphore. -/
namespace Go.Proofs.YtenonfkfoedfmaaGreatDoor.B
open Go
set_option linter.unusedVariables false

theorem ids_kern {e w L p byPri l R} (h : Ok e (lineP p [.bool byPri] l :: L) w) (hb : l.length ≤ 2 ^ 20) (k : ∀ s w', s.len = l.length → Ok e (slc 1 s (ints (l.map (·.1))) :: lineP p [.bool byPri] l :: L) w' → R [vS s] w') : sh60 (some ⟨p, 0, none⟩) R w := by
  unfold sh60
  refine nn.mk ?_
  refine call50 (Row_order h (by omega) fun s w1 hs h => ⟨(s, ()), rfl, ?_⟩)
  have hs : s.len = l.length := hs
  refine lp.mk (fun t w1 => ∃ i : Nat, @Eq Int t.2.1 (i : Int) ∧ i ≤ l.length ∧ Ok e (slc 1 t.1 (ints ((l.take i).map (·.1))) :: slc 2 s (prs l) :: lineP p [.bool byPri] l :: L) w1)
    (fun t _ => Int.toNat (Int.sub l.length t.2.1)) ⟨0, rfl, by omega, h.slcNil 1⟩ ?_
  rintro ⟨x, (t : Int), _⟩ w2 ⟨i, (rfl : t = (i : Int)), hi, h⟩
  dsimp only at h ⊢
  have hxl := h.slc_len
  simp at hxl
  refine cs.mk (fun h2 => ?_) (fun h2 => ?_)
  · have h2 : i < l.length := by have := of_decide_eq_true h2; omega
    refine ix_pr h.p1 (by omega) (by omega) fun b o q hq _ _ c1 c2 => ldI.mk (c1 _ ⟨_, h.p1⟩) (ldI.mk (c2 _ ⟨_, h.p1⟩) ?_)
    rw [Int.toNat_natCast, List.getElem?_eq_getElem h2] at hq
    cases hq
    refine al.mk h fun d w3 h => st1.mk h (by simp) fun w4 h => st1.mk h (by simp) fun w4 h => ldI.mk (h.cell rfl) ?_
    have h := h.drop
    refine al.mk h fun f w5 h => ?_
    refine ef.append1 (n := 1) slT_int (by decide) h rfl (by simp; rfl) (by omega) fun s' w6 hl' h => ?_
    refine ⟨⟨i + 1, w64_in (by omega) (by omega), h2, ?_⟩, ?_⟩
    · rw [List.take_add_one, List.getElem?_eq_getElem h2, List.map_append]
      simpa using h
    · show ((l.length : Int) - w64 ((i : Int) + 1)).toNat < ((l.length : Int) - (i : Int)).toNat
      rw [w64_in (by omega) (by omega)]
      omega
  · have h2 : i = l.length := by have := of_decide_eq_false h2; omega
    subst h2
    rw [List.take_length] at h
    rw [Nat.min_self] at hxl
    refine call69 (Clip_int h fun s2 w3 hl2 h => ⟨(s2, ()), rfl, k s2 w3 ?_ h.p1.drop⟩)
    have hl2 : s2.len = x.len := hl2
    omega

theorem Sem_kern {e w L k A K o s R} (h : Ok e (kerP k A K :: L) w) (hs : getO K.sems (o - 1) = some s) (kk : ∀ x w', x.len = s.l.length → Ok e (slc 1 x (ints (s.l.map (·.1))) :: kerP k A K :: L) w' → R [.int .i64 s.c, vS x, .int .i64 0] w') : sh28 (some ⟨k, 0, none⟩) o R w := by
  obtain ⟨ho, h⟩ := kerE h
  obtain ⟨o1, o2, hsi⟩ := getO_some hs
  have hsl := ptrs_len ((Ok.emb (h) (.cons (A := semsP A.ss K.sems) (by with_reducible first | exact sl0 | exact .there sl0 | exact .there sl1 | exact .there sl2 | exact .there sl3 | exact .there sl4 | exact .there sl5 | exact .there sl6 | exact .there sl7 | exact .there sl8 | exact .there sl9 | exact .there sl10 | exact .there sl11 | exact .there sl12) (.same _))))
  unfold sh28
  refine nn.mk (ldS.mk (h.cell rfl) ?_)
  refine call59 ?_
  unfold sh59
  refine jn.bool false (fun J hJ => cs.no (decide_eq_false (by omega)) ?_) (cs.no rfl ?_)
  · rw [show decide ((o : Int) > ((A.ss.len : Int) : Int)) = false from decide_eq_false (by simp at hsl; omega)]
    exact hJ
  obtain ⟨q, H, h, back, read⟩ := ptrs_open ((Ok.emb (h) (.cons (A := semsP A.ss K.sems) (by with_reducible first | exact sl0 | exact .there sl0 | exact .there sl1 | exact .there sl2 | exact .there sl3 | exact .there sl4 | exact .there sl5 | exact .there sl6 | exact .there sl7 | exact .there sl8 | exact .there sl9 | exact .there sl10 | exact .there sl11 | exact .there sl12) (.same _)))) hsi
  have hs8 := ho.sems
  rw [w64_in (by omega) (by omega)]
  refine read e _ w (o - 1) _ h.p1 (by simp; omega) fun b2 o3 hc => ldP.mk hc ⟨(some ⟨q, 0, none⟩, true, ()), rfl, cs.no rfl ?_⟩
  obtain ⟨q1, q2, p, h⟩ := semE h
  refine dr.mk h fun w1 h => nn.mk (ldI.mk (h.cell rfl) (nn.mk (ldP.mk (h.cell rfl) ?_)))
  refine call60 (ids_kern h.p1 (by have := okL_len q1; omega) fun x w2 hx h => ⟨(x, ()), rfl, (by refine Ok.cellS h (by with_reducible first | exact sl0 | exact .there sl0 | exact .there sl1 | exact .there sl2 | exact .there sl3 | exact .there sl4 | exact .there sl5 | exact .there sl6 | exact .there sl7 | exact .there sl8 | exact .there sl9 | exact .there sl10 | exact .there sl11 | exact .there sl12) ?_; rfl), ?_⟩)
  have h := back s e _ w2 (semI (p := p) q1 q2 ((Ok.emb (h) (.cons (A := pts q (semC p s.c s.m)) (by with_reducible first | exact sl0 | exact .there sl0 | exact .there sl1 | exact .there sl2 | exact .there sl3 | exact .there sl4 | exact .there sl5 | exact .there sl6 | exact .there sl7 | exact .there sl8 | exact .there sl9 | exact .there sl10 | exact .there sl11 | exact .there sl12) (.cons (A := lineP p [.bool s.byPri] s.l) (by with_reducible first | exact sl0 | exact .there sl0 | exact .there sl1 | exact .there sl2 | exact .there sl3 | exact .there sl4 | exact .there sl5 | exact .there sl6 | exact .there sl7 | exact .there sl8 | exact .there sl9 | exact .there sl10 | exact .there sl11 | exact .there sl12) (.cons (A := H) (by with_reducible first | exact sl0 | exact .there sl0 | exact .there sl1 | exact .there sl2 | exact .there sl3 | exact .there sl4 | exact .there sl5 | exact .there sl6 | exact .there sl7 | exact .there sl8 | exact .there sl9 | exact .there sl10 | exact .there sl11 | exact .there sl12) (.same _)))))))
  rw [set_same hsi] at h
  refine kk x w2 hx ?_
  have h : Ok e (semsP A.ss K.sems :: slc 1 x (ints (s.l.map (·.1))) :: pts k (kC A K) :: unitsP A.ub A.us K.us :: flgP A.fs :: datasP A.ds K.datas :: poolsP A.ps K.pools :: mmP A.lk K.mm :: placeP A.pl K.pl :: hnP A.hn K.tic K.up K.tb K.last K.ents :: rdyP A.rq K.rdy :: L) w2 := h
  exact (kerI (A := A) (K := K) (L := slc 1 x (ints (s.l.map (·.1))) :: L) ho (h.emb (by repeat' (first | with_reducible exact Emb.same _ | exact Emb.nil _ | refine Emb.cons (by with_reducible first | exact sl0 | exact .there sl0 | exact .there sl1 | exact .there sl2 | exact .there sl3 | exact .there sl4 | exact .there sl5 | exact .there sl6 | exact .there sl7 | exact .there sl8 | exact .there sl9 | exact .there sl10 | exact .there sl11 | exact .there sl12) ?_ | refine Emb.skip ?_)))).p1

end Go.Proofs.YtenonfkfoedfmaaGreatDoor.B

