/- Texts of ours, joined: Ker3, Ker4, Ctx2, Ker5, Cal, Do, Nam, Conf, Conf2, New. -/
import Derived.Test.YtenonfkfoedfmaaGreatDoorJTopA5
set_option linter.unusedSimpArgs false
set_option linter.unusedVariables false
/- Contracts of the kernel's functions: who leaves, all settle, who stays, who ends; a tick. -/
namespace Go.Proofs.YtenonfkfoedfmaaGreatDoor.B
open Go
set_option linter.unusedVariables false

theorem semE {e w L b s} (h : Ok e (semQ b s :: L) w) : okL s.l ∧ semOk s.c s.m ∧ ∃ p, Ok e (pts b (semC p s.c s.m) :: lineP p [.bool s.byPri] s.l :: L) w := by
  obtain ⟨h1, h⟩ := h.pureE
  obtain ⟨h2, h⟩ := h.pureE
  obtain ⟨p, h⟩ := h.exE
  exact ⟨h1, h2, p, h.unpack⟩

theorem semI {e w L b s p} (h1 : okL s.l) (h2 : semOk s.c s.m) (h : Ok e (pts b (semC p s.c s.m) :: lineP p [.bool s.byPri] s.l :: L) w) : Ok e (semQ b s :: L) w :=
  (Ok.pack (M := [pts b (semC p s.c s.m), lineP p [.bool s.byPri] s.l]) h).imp fun k hk => ⟨h1, h2, p, hk⟩

theorem kerOk.of {K K1 : KM} (h : kerOk K) (h1 : K1.tic = K.tic) (h2 : K1.us.length = K.us.length) (h3 : K1.sems.length = K.sems.length) (h4 : K1.datas.length = K.datas.length) (h5 : K1.pools.length = K.pools.length) : kerOk K1 :=
  ⟨by rw [h1]; exact h.t0, by rw [h1]; exact h.t1, by rw [h2]; exact h.us, by rw [h3]; exact h.sems, by rw [h4]; exact h.datas, by rw [h5]; exact h.pools⟩

theorem un_us {K K1 : KM} {n : Int} {u : Un} (h : K.un n = some u) (e : K1.us = K.us) : K1.un n = some u := by
  unfold KM.un at *
  rw [e]; exact h

theorem leave_kern {e w L k A K K' n R} (h : Ok e (kerP k A K :: L) w) (hm : K.leave n = some K') (kk : ∀ w', Ok e (kerP k A K' :: L) w' → R [] w') : sh54 (some ⟨k, 0, none⟩) n R w := by
  unfold sh54
  obtain ⟨u, hu, hm⟩ := Option.bind_eq_some_iff.1 hm
  obtain ⟨t, H, ho, h, back, read⟩ := ker_un h hu
  refine nn.mk (ldS.mk (h.cell rfl) (read e _ w _ ((Ok.emb (h) (.cons (A := H) (by with_reducible first | exact sl0 | exact .there sl0 | exact .there sl1 | exact .there sl2 | exact .there sl3 | exact .there sl4 | exact .there sl5 | exact .there sl6 | exact .there sl7 | exact .there sl8 | exact .there sl9 | exact .there sl10 | exact .there sl11 | exact .there sl12) (.same _)))) fun b2 o2 hc => ldP.mk hc (nn.mk (ldI.mk (h.p1.cell rfl) ?_))))
  by_cases h3 : u.kind = 3
  · rw [if_pos h3] at hm
    obtain ⟨s, hs, rfl⟩ := Option.map_eq_some_iff.1 hm
    obtain ⟨hs0, hs1, hs2⟩ := getO_some hs
    have := ho.sems
    refine cs.yes (by simpa using h3) (dr.mk h fun w1 h => nn.mk (ldS.mk (h.cell rfl) (nn.mk (ldI.mk (h.p1.cell rfl) ?_))))
    obtain ⟨b3, H3, h4, back3, read3⟩ := ptrs_open ((Ok.emb (h) (.cons (A := semsP A.ss K.sems) (by with_reducible first | exact sl0 | exact .there sl0 | exact .there sl1 | exact .there sl2 | exact .there sl3 | exact .there sl4 | exact .there sl5 | exact .there sl6 | exact .there sl7 | exact .there sl8 | exact .there sl9 | exact .there sl10 | exact .there sl11 | exact .there sl12) (.same _)))) hs2
    obtain ⟨hok, hsm, p, h5⟩ := semE h4
    rw [w64_in (by omega) (by omega)]
    refine read3 e _ w1 _ _ ((Ok.emb (h5) (.cons (A := H3) (by with_reducible first | exact sl0 | exact .there sl0 | exact .there sl1 | exact .there sl2 | exact .there sl3 | exact .there sl4 | exact .there sl5 | exact .there sl6 | exact .there sl7 | exact .there sl8 | exact .there sl9 | exact .there sl10 | exact .there sl11 | exact .there sl12) (.same _)))) (by simp only [List.length_nil]; omega) fun b4 o4 hc4 => ldP.mk hc4 (nn.mk (ldP.mk (h5.cell rfl) (nn.mk ?_)))
    refine call111 (Remove_order (id := n) h5.p1 (by have := okL_len hok; omega) fun w2 h => ⟨(_, ()), rfl, kk w2 ?_⟩)
    have h6 := back3 { s with l := rmL s.l n } e _ w2 ((semI (s := { s with l := rmL s.l n }) (okL_rm hok) hsm h.p1))
    have h8 : Ok e (semsP A.ss (K.sems.set (u.obj - 1).toNat { s with l := rmL s.l n }) :: _) w2 := h6
    have h7 := back { K with sems := K.sems.set (u.obj - 1).toNat { s with l := rmL s.l n } } u e L w2 (ho.of rfl rfl (by simp) rfl rfl) rfl (Ok.emb (h8) (by repeat' (first | with_reducible exact Emb.same _ | exact Emb.nil _ | refine Emb.cons (by with_reducible first | exact sl0 | exact .there sl0 | exact .there sl1 | exact .there sl2 | exact .there sl3 | exact .there sl4 | exact .there sl5 | exact .there sl6 | exact .there sl7 | exact .there sl8 | exact .there sl9 | exact .there sl10 | exact .there sl11 | exact .there sl12) ?_ | refine Emb.skip ?_)))
    rw [setU_same (K := { K with sems := K.sems.set (u.obj - 1).toNat { s with l := rmL s.l n } }) (un_us hu rfl)] at h7
    exact h7
  · rw [if_neg h3] at hm
    split at hm
    · next hk =>
      cases hm
      have h := back K u e L w ho rfl h
      rw [setU_same hu] at h
      refine cs.no (by simpa using h3) (cs.no (by simp; omega) (jn.bool false (fun J hJ => cs.no (by simp; omega) ?_) (cs.no rfl (cs.no (by simp; omega) (cs.no (by simp; omega) (kk w h))))))
      rw [show ((u.kind : Int) == (6 : Int)) = false by simp; omega]
      exact hJ
    · cases hm

theorem settle_kern {e w L k A K K' R} (h : Ok e (kerP k A K :: L) w) (hm : K.settle = some K') (kk : ∀ w', Ok e (kerP k A K' :: L) w' → R [] w') : sh56 (some ⟨k, 0, none⟩) R w := by
  unfold sh56
  have hl16 := (ker_ok h).us
  unfold KM.settle at hm
  refine lp.mk (fun t w1 => ∃ (n : Nat) (N : KM), @Eq Int t.1 (n : Int) ∧ 1 ≤ n ∧ n ≤ K.us.length + 1 ∧ N.us.length = K.us.length ∧ KM.settleFrom n (K.us.length + 1 - n) N = some K' ∧ Ok e (kerP k A N :: L) w1) (fun t _ => Int.toNat (Int.sub (K.us.length + 1) t.1)) ⟨1, K, rfl, by omega, by omega, rfl, hm, h⟩ ?_
  rintro ⟨(t : Int), _⟩ w1 ⟨n, N, (rfl : t = (n : Int)), hn0, hn1, hus, hm, h⟩
  obtain ⟨ho, h'⟩ := kerE h
  have hsl : A.us.len = 1 + N.us.length := by
    have := ptrsB_len (h'.p1 : Ok e (ptrsB unP [.pointer none] un0 A.ub A.us N.us :: _) w1)
    simpa using this
  refine nn.mk (ldS.mk (h'.cell rfl) (cs.mk (fun h1 => ?_) (fun h1 => ?_)))
  · have h1 : n < K.us.length + 1 := by have := of_decide_eq_true h1; dsimp only at this; omega
    obtain ⟨kc, hkc⟩ : ∃ kc, K.us.length + 1 - n = kc + 1 := ⟨K.us.length - n, by omega⟩
    rw [hkc, KM.settleFrom] at hm
    obtain ⟨N2, hN2, hm⟩ := Option.bind_eq_some_iff.1 hm
    obtain ⟨u, hu, hN2⟩ := Option.bind_eq_some_iff.1 hN2
    obtain ⟨p, hp, hN2⟩ := Option.bind_eq_some_iff.1 hN2
    obtain ⟨t, H, ho, h, back, read⟩ := ker_un h hu
    have meas : Int.toNat (Int.sub (K.us.length + 1) (w64 ((n : Int) + 1))) < Int.toNat (Int.sub (K.us.length + 1) (n : Int)) := by
      rw [w64_in (by omega) (by omega)]
      show Int.toNat (((K.us.length : Int) + 1) - ((n : Int) + 1)) < Int.toNat (((K.us.length : Int) + 1) - (n : Int))
      omega
    have inc : w64 ((n : Int) + 1) = ((n + 1 : Nat) : Int) := by rw [w64_in (by omega) (by omega)]; rfl
    have next : ∀ N' w', N'.us.length = K.us.length → KM.settleFrom (n + 1) kc N' = some K' → Ok e (kerP k A N' :: L) w' →
        (∃ (n' : Nat) (N : KM), @Eq Int (w64 ((n : Int) + 1)) (n' : Int) ∧ 1 ≤ n' ∧ n' ≤ K.us.length + 1 ∧ N.us.length = K.us.length ∧ KM.settleFrom n' (K.us.length + 1 - n') N = some K' ∧ Ok e (kerP k A N :: L) w') ∧
        Int.toNat (Int.sub (K.us.length + 1) (w64 ((n : Int) + 1))) < Int.toNat (Int.sub (K.us.length + 1) (n : Int)) := fun N' w' hl hm h =>
      ⟨⟨n + 1, N', inc, by omega, by omega, hl, by rw [show K.us.length + 1 - (n + 1) = kc by omega]; exact hm, h⟩, meas⟩
    refine nn.mk (ldS.mk (h.cell rfl) (read e _ w1 _ ((Ok.emb (h) (.cons (A := H) (by with_reducible first | exact sl0 | exact .there sl0 | exact .there sl1 | exact .there sl2 | exact .there sl3 | exact .there sl4 | exact .there sl5 | exact .there sl6 | exact .there sl7 | exact .there sl8 | exact .there sl9 | exact .there sl10 | exact .there sl11 | exact .there sl12) (.same _)))) fun b2 o2 hc => ldP.mk hc (nn.mk (ldP.mk (h.cell rfl) ?_))))
    refine call35 (Pri_mtx ((Ok.emb (h) (.cons (A := mmP A.lk N.mm) (by with_reducible first | exact sl0 | exact .there sl0 | exact .there sl1 | exact .there sl2 | exact .there sl3 | exact .there sl4 | exact .there sl5 | exact .there sl6 | exact .there sl7 | exact .there sl8 | exact .there sl9 | exact .there sl10 | exact .there sl11 | exact .there sl12) (.same _)))) hp ⟨(p, ()), rfl, ?_⟩)
    refine nn.mk (ldI.mk (h.p1.cell rfl) (cs.mk (fun h2 => ?_) (fun h2 => ?_)))
    · have h2 : p = u.pri := by simpa using h2
      rw [if_pos h2] at hN2
      cases hN2
      have h := back N u e L w1 ho rfl h
      rw [setU_same hu] at h
      exact next N w1 hus hm h
    · have h2 : ¬ p = u.pri := by simpa using h2
      rw [if_neg h2] at hN2
      refine nn.mk (st1.mk h.p1 (by simp) fun w2 h => ?_)
      have h : Ok e (pts k (kC A N) :: pts (A.ub ((n : Int) - 1).toNat) (unC t { u with pri := p }) :: pts t (tcC u) :: H :: kR A N L) w2 := h.p1
      refine nn.mk (ldP.mk (h.cell rfl) ?_)
      refine call117 (Change_ready (n := (n : Int)) (p := p) ((Ok.emb (h) (.cons (A := rdyP A.rq N.rdy) (by with_reducible first | exact sl0 | exact .there sl0 | exact .there sl1 | exact .there sl2 | exact .there sl3 | exact .there sl4 | exact .there sl5 | exact .there sl6 | exact .there sl7 | exact .there sl8 | exact .there sl9 | exact .there sl10 | exact .there sl11 | exact .there sl12) (.same _)))) fun w3 h => ⟨((chgL true N.rdy (n : Int) p).1, ()), rfl, ?_⟩)
      have h : Ok e (pts k (kC A N) :: pts (A.ub ((n : Int) - 1).toNat) (unC t { u with pri := p }) :: pts t (tcC u) :: H :: semsP A.ss N.sems :: flgP A.fs :: datasP A.ds N.datas :: poolsP A.ps N.pools :: mmP A.lk N.mm :: placeP A.pl N.pl :: hnP A.hn N.tic N.up N.tb N.last N.ents :: rdyP A.rq (chgL true N.rdy (n : Int) p).2 :: L) w3 := (h.emb (by repeat' (first | with_reducible exact Emb.same _ | exact Emb.nil _ | refine Emb.cons (by with_reducible first | exact sl0 | exact .there sl0 | exact .there sl1 | exact .there sl2 | exact .there sl3 | exact .there sl4 | exact .there sl5 | exact .there sl6 | exact .there sl7 | exact .there sl8 | exact .there sl9 | exact .there sl10 | exact .there sl11 | exact .there sl12) ?_ | refine Emb.skip ?_)))
      have hb := back { N with rdy := (chgL true N.rdy (n : Int) p).2 } { u with pri := p } e L w3 (ho.of rfl rfl rfl rfl rfl) rfl h
      have hl2 : (({ N with rdy := (chgL true N.rdy (n : Int) p).2 } : KM).setU (n : Int) { u with pri := p }).us.length = K.us.length := by
        show (N.us.set _ _).length = _
        rw [List.length_set]; exact hus
      refine cs.mk (fun h4 => ?_) (fun h4 => ?_)
      · have h4 : (chgL true N.rdy (n : Int) p).1 = true := h4
        rw [if_pos h4] at hN2
        cases hN2
        exact next _ w3 hl2 hm hb
      · have h4 : (chgL true N.rdy (n : Int) p).1 = false := h4
        rw [if_neg (by rw [h4]; decide)] at hN2
        split at hN2
        · next hk =>
          cases hN2
          refine nn.mk (ldI.mk (h.p1.cell rfl) (cs.no (by simp; omega) (cs.no (by simp; omega) (jn.bool false (fun J hJ => cs.no (by simp; omega) ?_) (cs.no rfl (cs.no (by simp; omega) (next _ w3 hl2 hm hb)))))))
          rw [show ((u.kind : Int) == (6 : Int)) = false by simp; omega]
          exact hJ
        · cases hN2
  · have h1 : n = K.us.length + 1 := by have := of_decide_eq_false h1; dsimp only at this; omega
    subst h1
    rw [Nat.sub_self] at hm
    cases hm
    exact kk w1 h

theorem stay_kern {e w L k A K K' kind obj tmo R} (h : Ok e (kerP k A K :: L) w) (hm : K.stay kind obj tmo = some K') (kk : ∀ w', Ok e (kerP k A K' :: L) w' → R [.agg #[.int .i64 1, .int .i64 0]] w') : sh138 (some ⟨k, 0, none⟩) kind obj tmo R w := by
  unfold sh138
  obtain ⟨u, hu, hm⟩ := Option.bind_eq_some_iff.1 hm
  refine al.mk h fun d w1 h => ?_
  obtain ⟨t, H, ho, h, back, read⟩ := ker_un h.p1 hu
  refine dr.mk h fun w2 h => nn.mk (ldS.mk (h.cell rfl) (nn.mk (ldI.mk (h.cell rfl) (read e _ w2 _ ((Ok.emb (h) (.cons (A := H) (by with_reducible first | exact sl0 | exact .there sl0 | exact .there sl1 | exact .there sl2 | exact .there sl3 | exact .there sl4 | exact .there sl5 | exact .there sl6 | exact .there sl7 | exact .there sl8 | exact .there sl9 | exact .there sl10 | exact .there sl11 | exact .there sl12) (.same _)))) fun b2 o2 hc => ldP.mk hc ?_))))
  simp only at hm
  generalize hu1 : (if kind ≠ 1 ∧ u.state = 2 then { u with state := 4, asleep := false } else u : Un) = u1 at hm
  have hun : unC t u1 = unC t u := by
    rw [← hu1]
    split <;> rfl
  refine jn.at (t := ()) (fun w' => Ok e (pts k (kC A K) :: pts (A.ub (K.who - 1).toNat) (unC t u) :: pts t (tcC u1) :: H :: kR A K (pts d [.int .i64 0, .int .i64 0] :: L)) w') (fun J hJ => cs.mk (fun h1 => ?_) (fun h1 => ?_)) (fun w3 h => ?_)
  · have h1 : kind ≠ 1 := by simpa using h1
    refine nn.mk (ldP.mk (h.p1.cell rfl) ?_)
    refine call205 (Stay_tcb (u := u) ((Ok.emb (h) (.cons (A := pts t (tcC u)) (by with_reducible first | exact sl0 | exact .there sl0 | exact .there sl1 | exact .there sl2 | exact .there sl3 | exact .there sl4 | exact .there sl5 | exact .there sl6 | exact .there sl7 | exact .there sl8 | exact .there sl9 | exact .there sl10 | exact .there sl11 | exact .there sl12) (.same _)))) fun w3 c h => ⟨(c, ()), rfl, hJ w3 ?_⟩)
    have e1 : (if u.state = 2 then { u with state := 4, asleep := false } else u : Un) = u1 := by
      rw [← hu1]
      simp [h1]
    rw [e1] at h
    exact (h.emb (by repeat' (first | with_reducible exact Emb.same _ | exact Emb.nil _ | refine Emb.cons (by with_reducible first | exact sl0 | exact .there sl0 | exact .there sl1 | exact .there sl2 | exact .there sl3 | exact .there sl4 | exact .there sl5 | exact .there sl6 | exact .there sl7 | exact .there sl8 | exact .there sl9 | exact .there sl10 | exact .there sl11 | exact .there sl12) ?_ | refine Emb.skip ?_)))
  · have h1 : kind = 1 := by simpa using h1
    have e1 : u = u1 := by rw [← hu1]; simp [h1]
    rw [← e1] at hJ
    exact hJ w2 h
  refine dr.mk h fun w4 h => nn.mk (ldP.mk (h.cell rfl) (nn.mk (ldI.mk (h.cell rfl) ?_)))
  refine call197 (Remove_ready (n := K.who) ((Ok.emb (h) (.cons (A := rdyP A.rq K.rdy) (by with_reducible first | exact sl0 | exact .there sl0 | exact .there sl1 | exact .there sl2 | exact .there sl3 | exact .there sl4 | exact .there sl5 | exact .there sl6 | exact .there sl7 | exact .there sl8 | exact .there sl9 | exact .there sl10 | exact .there sl11 | exact .there sl12) (.same _)))) fun w5 h => ⟨(_, ()), rfl, ?_⟩)
  have h : Ok e (pts (A.ub (K.who - 1).toNat) (unC t u) :: pts k (kC A K) :: pts t (tcC u1) :: H :: semsP A.ss K.sems :: flgP A.fs :: datasP A.ds K.datas :: poolsP A.ps K.pools :: mmP A.lk K.mm :: placeP A.pl K.pl :: hnP A.hn K.tic K.up K.tb K.last K.ents :: rdyP A.rq (rmL K.rdy K.who) :: pts d [.int .i64 0, .int .i64 0] :: L) w5 := (h.emb (by repeat' (first | with_reducible exact Emb.same _ | exact Emb.nil _ | refine Emb.cons (by with_reducible first | exact sl0 | exact .there sl0 | exact .there sl1 | exact .there sl2 | exact .there sl3 | exact .there sl4 | exact .there sl5 | exact .there sl6 | exact .there sl7 | exact .there sl8 | exact .there sl9 | exact .there sl10 | exact .there sl11 | exact .there sl12) ?_ | refine Emb.skip ?_)))
  rw [← hun] at h
  refine nn.mk (st1.mk h (by simp) fun w6 h => nn.mk (st1.mk h (by simp) fun w7 h => ?_))
  have h : Ok e (pts k (kC A K) :: pts (A.ub (K.who - 1).toNat) (unC t { u1 with kind := kind, obj := obj }) :: pts t (tcC { u1 with kind := kind, obj := obj }) :: H :: semsP A.ss K.sems :: flgP A.fs :: datasP A.ds K.datas :: poolsP A.ps K.pools :: mmP A.lk K.mm :: placeP A.pl K.pl :: hnP A.hn K.tic K.up K.tb K.last K.ents :: rdyP A.rq (rmL K.rdy K.who) :: pts d [.int .i64 0, .int .i64 0] :: L) w7 := h.p1
  have fin : ∀ (N : KM) w', N.settle = some K' → Ok e (kerP k A N :: pts d [.int .i64 0, .int .i64 0] :: L) w' → cl Pg 56 [pV k] [] w' fun (r36 : Unit) w37 => st1 w37 d 0 (.int .i64 1) fun w38 => st1 w38 d (0 + 1) (.int .i64 0) fun w39 => ldI w39 .i64 d 0 fun n40 => ldI w39 .i64 d (0 + 1) fun n41 => R [.agg #[.int .i64 n40, .int .i64 n41]] w39 := by
    intro N w' hN h
    refine call56 (settle_kern h hN fun w8 h => ⟨(), rfl, ?_⟩)
    exact st1.mk h.p1 (by simp) fun w9 h => st1.mk h (by simp) fun w10 h => ldI.mk (h.cell rfl) (ldI.mk (h.cell rfl) (kk w10 h.drop))
  by_cases ht : tmo ≥ 0
  · rw [if_pos ht] at hm
    obtain ⟨r, hr, hm⟩ := Option.bind_eq_some_iff.1 hm
    refine jn.at (t := ()) (fun w' => Ok e (kerP k A (r.2.setU K.who { u1 with kind := kind, obj := obj, handle := r.1 }) :: pts d [.int .i64 0, .int .i64 0] :: L) w') (fun J hJ => cs.yes (decide_eq_true ht) ?_) (fun w' h => fin _ w' hm h)
    refine dr.mk h fun w8 h => nn.mk (ldP.mk (h.cell rfl) (nn.mk (ldI.mk (h.cell rfl) ?_)))
    unfold KM.wait at hr
    split at hr
    · next hc =>
      cases hr
      refine call206 (Wait_cyc (d := tmo) (arg := K.who) ((Ok.emb (h) (.cons (A := hnP A.hn K.tic K.up K.tb K.last K.ents) (by with_reducible first | exact sl0 | exact .there sl0 | exact .there sl1 | exact .there sl2 | exact .there sl3 | exact .there sl4 | exact .there sl5 | exact .there sl6 | exact .there sl7 | exact .there sl8 | exact .there sl9 | exact .there sl10 | exact .there sl11 | exact .there sl12) (.same _)))) ⟨ho.t0, ho.t1⟩ hc fun w9 h => ⟨(K.last + 1, (0 : Int), ()), rfl, ?_⟩)
      have h : Ok e (pts (A.ub (K.who - 1).toNat) (unC t { u1 with kind := kind, obj := obj }) :: pts k (kC A K) :: pts t (tcC { u1 with kind := kind, obj := obj }) :: H :: semsP A.ss K.sems :: flgP A.fs :: datasP A.ds K.datas :: poolsP A.ps K.pools :: mmP A.lk K.mm :: placeP A.pl K.pl :: hnP A.hn K.tic K.up K.tb (K.last + 1) (insE ⟨K.up + tmo + K.tic, K.last + 1, K.who⟩ K.ents) :: rdyP A.rq (rmL K.rdy K.who) :: pts d [.int .i64 0, .int .i64 0] :: L) w9 := (h.emb (by repeat' (first | with_reducible exact Emb.same _ | exact Emb.nil _ | refine Emb.cons (by with_reducible first | exact sl0 | exact .there sl0 | exact .there sl1 | exact .there sl2 | exact .there sl3 | exact .there sl4 | exact .there sl5 | exact .there sl6 | exact .there sl7 | exact .there sl8 | exact .there sl9 | exact .there sl10 | exact .there sl11 | exact .there sl12) ?_ | refine Emb.skip ?_)))
      refine nn.mk (st1.mk h (by simp) fun w10 h => hJ w10 ?_)
      exact back { K with rdy := rmL K.rdy K.who, last := K.last + 1, ents := insE ⟨K.up + tmo + K.tic, K.last + 1, K.who⟩ K.ents } { u1 with kind := kind, obj := obj, handle := K.last + 1 } e _ w10 (ho.of rfl rfl rfl rfl rfl) rfl h.p1
    · cases hr
  · rw [if_neg ht] at hm
    refine jn.at (t := ()) (fun w' => Ok e (kerP k A (({ K with rdy := rmL K.rdy K.who } : KM).setU K.who { u1 with kind := kind, obj := obj }) :: pts d [.int .i64 0, .int .i64 0] :: L) w') (fun J hJ => cs.no (decide_eq_false ht) (hJ w7 ?_)) (fun w' h => fin _ w' hm h)
    exact back { K with rdy := rmL K.rdy K.who } { u1 with kind := kind, obj := obj } e _ w7 (ho.of rfl rfl rfl rfl rfl) rfl h

end Go.Proofs.YtenonfkfoedfmaaGreatDoor.B


/- Contracts of the kernel's functions: who ends; a tick; interrupts; what is told. -/
namespace Go.Proofs.YtenonfkfoedfmaaGreatDoor.B
open Go
set_option linter.unusedVariables false

theorem over_kern {e w L k A K K' n R} (h : Ok e (kerP k A K :: L) w) (hm : K.over n = some K') (kk : ∀ w', Ok e (kerP k A K' :: L) w' → R [] w') : sh133 (some ⟨k, 0, none⟩) n R w := by
  unfold sh133
  unfold KM.over at hm
  obtain ⟨K1, hK1, hm⟩ := Option.bind_eq_some_iff.1 hm
  obtain ⟨K2, hK2, hm⟩ := Option.bind_eq_some_iff.1 hm
  obtain ⟨u, hu, hm⟩ := Option.bind_eq_some_iff.1 hm
  split at hm
  · cases hm
  next hb =>
  have hb := Decidable.not_not.1 hb
  obtain ⟨f, hf, hm⟩ := Option.bind_eq_some_iff.1 hm
  obtain ⟨b, hbs, hm⟩ := Option.bind_eq_some_iff.1 hm
  simp only at hm
  obtain ⟨K3, hK3, hm⟩ := Option.bind_eq_some_iff.1 hm
  obtain ⟨K4, hK4, hm⟩ := Option.bind_eq_some_iff.1 hm
  -- the task's address
  obtain ⟨u0, hu0, _⟩ := Option.bind_eq_some_iff.1 hK1
  obtain ⟨t0, H0, _, h0, _, read0⟩ := ker_un h hu0
  refine nn.mk (ldS.mk (h0.cell rfl) (read0 e _ w _ ((Ok.emb (h0) (.cons (A := H0) (by with_reducible first | exact sl0 | exact .there sl0 | exact .there sl1 | exact .there sl2 | exact .there sl3 | exact .there sl4 | exact .there sl5 | exact .there sl6 | exact .there sl7 | exact .there sl8 | exact .there sl9 | exact .there sl10 | exact .there sl11 | exact .there sl12) (.same _)))) fun b2 o2 hc => ldP.mk hc ?_))
  refine call54 (leave_kern h hK1 fun w1 h => ⟨(), rfl, ?_⟩)
  refine call196 (forget_kern h hK2 fun w2 h => ⟨(), rfl, ?_⟩)
  obtain ⟨t, H, ho, h, back, read⟩ := ker_un h hu
  refine nn.mk (ldP.mk (h.cell rfl) ?_)
  refine call197 (Remove_ready (n := n) ((Ok.emb (h) (.cons (A := rdyP A.rq K2.rdy) (by with_reducible first | exact sl0 | exact .there sl0 | exact .there sl1 | exact .there sl2 | exact .there sl3 | exact .there sl4 | exact .there sl5 | exact .there sl6 | exact .there sl7 | exact .there sl8 | exact .there sl9 | exact .there sl10 | exact .there sl11 | exact .there sl12) (.same _)))) fun w3 h => ⟨(_, ()), rfl, ?_⟩)
  have h : Ok e (pts k (kC A K2) :: pts (A.ub (n - 1).toNat) (unC t u) :: pts t (tcC u) :: H :: semsP A.ss K2.sems :: flgP A.fs :: datasP A.ds K2.datas :: poolsP A.ps K2.pools :: mmP A.lk K2.mm :: placeP A.pl K2.pl :: hnP A.hn K2.tic K2.up K2.tb K2.last K2.ents :: rdyP A.rq (rmL K2.rdy n) :: L) w3 := (h.emb (by repeat' (first | with_reducible exact Emb.same _ | exact Emb.nil _ | refine Emb.cons (by with_reducible first | exact sl0 | exact .there sl0 | exact .there sl1 | exact .there sl2 | exact .there sl3 | exact .there sl4 | exact .there sl5 | exact .there sl6 | exact .there sl7 | exact .there sl8 | exact .there sl9 | exact .there sl10 | exact .there sl11 | exact .there sl12) ?_ | refine Emb.skip ?_)))
  refine nn.mk (ldP.mk (h.cell rfl) ?_)
  refine call201 (Free_mtx (n := n) ((Ok.emb (h) (.cons (A := mmP A.lk K2.mm) (by with_reducible first | exact sl0 | exact .there sl0 | exact .there sl1 | exact .there sl2 | exact .there sl3 | exact .there sl4 | exact .there sl5 | exact .there sl6 | exact .there sl7 | exact .there sl8 | exact .there sl9 | exact .there sl10 | exact .there sl11 | exact .there sl12) (.same _)))) hf fun s w4 hsl h8 h => ⟨(s, ()), rfl, ?_⟩)
  have h : Ok e (pts k (kC A K2) :: pts (A.ub (n - 1).toNat) (unC t u) :: pts t (tcC u) :: H :: semsP A.ss K2.sems :: flgP A.fs :: datasP A.ds K2.datas :: poolsP A.ps K2.pools :: mmP A.lk f.2 :: placeP A.pl K2.pl :: hnP A.hn K2.tic K2.up K2.tb K2.last K2.ents :: rdyP A.rq (rmL K2.rdy n) :: slc 1 s (ints f.1) :: L) w4 := (h.emb (by repeat' (first | with_reducible exact Emb.same _ | exact Emb.nil _ | refine Emb.cons (by with_reducible first | exact sl0 | exact .there sl0 | exact .there sl1 | exact .there sl2 | exact .there sl3 | exact .there sl4 | exact .there sl5 | exact .there sl6 | exact .there sl7 | exact .there sl8 | exact .there sl9 | exact .there sl10 | exact .there sl11 | exact .there sl12) ?_ | refine Emb.skip ?_)))
  refine dr.mk h fun w5 h => nn.mk (ldP.mk (h.cell rfl) (nn.mk (ldI.mk (h.p1.cell rfl) ?_)))
  refine call31 (SetBase_mtx (n := n) (p := u.base) (c := b.1) (M' := b.2) ((Ok.emb (h) (.cons (A := mmP A.lk f.2) (by with_reducible first | exact sl0 | exact .there sl0 | exact .there sl1 | exact .there sl2 | exact .there sl3 | exact .there sl4 | exact .there sl5 | exact .there sl6 | exact .there sl7 | exact .there sl8 | exact .there sl9 | exact .there sl10 | exact .there sl11 | exact .there sl12) (.same _)))) hbs fun w6 h => ⟨(b.1, ()), rfl, ?_⟩)
  have h : Ok e (pts k (kC A K2) :: pts (A.ub (n - 1).toNat) (unC t u) :: pts t (tcC u) :: H :: semsP A.ss K2.sems :: flgP A.fs :: datasP A.ds K2.datas :: poolsP A.ps K2.pools :: mmP A.lk b.2 :: placeP A.pl K2.pl :: hnP A.hn K2.tic K2.up K2.tb K2.last K2.ents :: rdyP A.rq (rmL K2.rdy n) :: slc 1 s (ints f.1) :: L) w6 := (h.emb (by repeat' (first | with_reducible exact Emb.same _ | exact Emb.nil _ | refine Emb.cons (by with_reducible first | exact sl0 | exact .there sl0 | exact .there sl1 | exact .there sl2 | exact .there sl3 | exact .there sl4 | exact .there sl5 | exact .there sl6 | exact .there sl7 | exact .there sl8 | exact .there sl9 | exact .there sl10 | exact .there sl11 | exact .there sl12) ?_ | refine Emb.skip ?_)))
  refine nn.mk (ldP.mk (h.p1.cell rfl) ?_)
  refine call202 (Kill_tcb (u := u) ((Ok.emb (h) (.cons (A := pts t (tcC u)) (by with_reducible first | exact sl0 | exact .there sl0 | exact .there sl1 | exact .there sl2 | exact .there sl3 | exact .there sl4 | exact .there sl5 | exact .there sl6 | exact .there sl7 | exact .there sl8 | exact .there sl9 | exact .there sl10 | exact .there sl11 | exact .there sl12) (.same _)))) ⟨hb.1, by omega⟩ fun w7 c h => ⟨(u.kill.1, c, ()), rfl, ?_⟩)
  have hun : unC t u = unC t u.kill.2 := by
    unfold Un.kill
    split
    · rfl
    · split <;> rfl
  rw [hun] at h
  -- the mutexes are as many as before
  have hml : b.2.m.length = K2.mm.m.length := by rw [setBase_len hbs]; exact freeL_len hf
  have h := back { K2 with rdy := rmL K2.rdy n, mm := b.2 } u.kill.2 e (slc 1 s (ints f.1) :: L) w7 (ho.of rfl rfl rfl rfl rfl) rfl (by
    rw [show kC A { K2 with rdy := rmL K2.rdy n, mm := b.2 } = kC A K2 by simp only [kC, hml]]
    exact (h.emb (by repeat' (first | with_reducible exact Emb.same _ | exact Emb.nil _ | refine Emb.cons (by with_reducible first | exact sl0 | exact .there sl0 | exact .there sl1 | exact .there sl2 | exact .there sl3 | exact .there sl4 | exact .there sl5 | exact .there sl6 | exact .there sl7 | exact .there sl8 | exact .there sl9 | exact .there sl10 | exact .there sl11 | exact .there sl12) ?_ | refine Emb.skip ?_))))
  refine call143 (woken_kern h (by omega) hK3 fun w8 h => ⟨(), rfl, ?_⟩)
  cases hag : u.kill.1 with
  | false =>
    rw [hag] at hK4
    cases hK4
    exact cs.no rfl (call56 (settle_kern h hm fun w9 h => ⟨(), rfl, kk w9 h.p1.drop⟩))
  | true =>
    rw [hag, if_pos rfl] at hK4
    obtain ⟨u3, hu3, hK4⟩ := Option.bind_eq_some_iff.1 hK4
    obtain ⟨t, H, ho, h, back, read⟩ := ker_un h hu3
    refine cs.yes rfl (nn.mk (st1.mk h.p1 (by simp) fun w9 h => st1.mk h (by simp) fun w10 h => ?_))
    have h := back K3 { u3 with lc := 0, lv := 0 } e _ w10 ho rfl h.p1
    refine call188 (enter_kern h hK4 fun w11 h => ⟨(), rfl, ?_⟩)
    exact call56 (settle_kern h hm fun w12 h => ⟨(), rfl, kk w12 h.p1.drop⟩)

end Go.Proofs.YtenonfkfoedfmaaGreatDoor.B


/- Contracts of the package ctx: entering and leaving. -/
namespace Go.Proofs.YtenonfkfoedfmaaGreatDoor.B
open Go
set_option linter.unusedVariables false

theorem PlaceM.top_at {m : PlaceM} {x : Int} (h : m.lv[m.lv.length - 1]? = some x) : m.top = x := by
  unfold PlaceM.top
  rw [List.getLast?_eq_getElem?, h]; rfl

theorem PlaceM.inn_iff (m : PlaceM) : m.inn = true ↔ 0 < m.lv.length := by simp [PlaceM.inn]

theorem Enter_ctx {e w L p m l R} (h : Ok e (placeP p m :: L) w) (hb : m.lv.length ≤ 2 ^ 30) (k : ∀ w', Ok e (placeP p (m.enter l).2 :: L) w' → R [.int .i64 (m.enter l).1] w') : sh74 (some ⟨p, 0, none⟩) l R w := by
  unfold sh74
  refine jn.bool (decide (l < 1) || decide (l > 15)) (fun J hJ => cs.mk (fun h1 => ?_) (fun h1 => ?_)) ?_
  · simpa [show l < 1 by simpa using h1] using hJ
  · simpa [show ¬ l < 1 by simpa using h1] using hJ
  dsimp only
  refine cs.mk (fun h1 => ?_) (fun h1 => ?_)
  · have he : m.enter l = (-17, m) := by
      have : l < 1 ∨ l > 15 := by simpa using h1
      simp only [PlaceM.enter, if_pos this]
    rw [he] at k; exact k w h
  have hl : ¬ (l < 1 ∨ l > 15) := by simpa using h1
  refine dr.mk h fun w1 h => ?_
  refine jn.bool (m.locked || (m.inn && decide (l ≤ m.top))) (fun J hJ => ?_) ?_
  · have h0 := h
    obtain ⟨s, hs, h⟩ := placeE h
    (repeat (first | with_reducible refine nn.mk ?_ | ((first | with_reducible apply ldI.mk | with_reducible apply ldB.mk | with_reducible apply ldP.mk | with_reducible apply ldS.mk | with_reducible apply ldM.mk | with_reducible apply ldF.mk | with_reducible apply ldG.mk); (· exact (by refine Ok.cellS h (by with_reducible first | exact sl0 | exact .there sl0 | exact .there sl1 | exact .there sl2 | exact .there sl3 | exact .there sl4 | exact .there sl5 | exact .there sl6 | exact .there sl7 | exact .there sl8 | exact .there sl9 | exact .there sl10 | exact .there sl11 | exact .there sl12) ?_; rfl)))))
    refine cs.mk (fun h2 => ?_) (fun h2 => ?_)
    · simpa [h2] using hJ
    (repeat (first | with_reducible refine nn.mk ?_ | ((first | with_reducible apply ldI.mk | with_reducible apply ldB.mk | with_reducible apply ldP.mk | with_reducible apply ldS.mk | with_reducible apply ldM.mk | with_reducible apply ldF.mk | with_reducible apply ldG.mk); (· exact (by refine Ok.cellS h (by with_reducible first | exact sl0 | exact .there sl0 | exact .there sl1 | exact .there sl2 | exact .there sl3 | exact .there sl4 | exact .there sl5 | exact .there sl6 | exact .there sl7 | exact .there sl8 | exact .there sl9 | exact .there sl10 | exact .there sl11 | exact .there sl12) ?_; rfl)))))
    refine call128 (In_ctx h0 ⟨(m.inn, ()), rfl, ?_⟩)
    dsimp only
    refine cs.mk (fun h3 => ?_) (fun h3 => ?_)
    · (repeat (first | with_reducible refine nn.mk ?_ | ((first | with_reducible apply ldI.mk | with_reducible apply ldB.mk | with_reducible apply ldP.mk | with_reducible apply ldS.mk | with_reducible apply ldM.mk | with_reducible apply ldF.mk | with_reducible apply ldG.mk); (· exact (by refine Ok.cellS h (by with_reducible first | exact sl0 | exact .there sl0 | exact .there sl1 | exact .there sl2 | exact .there sl3 | exact .there sl4 | exact .there sl5 | exact .there sl6 | exact .there sl7 | exact .there sl8 | exact .there sl9 | exact .there sl10 | exact .there sl11 | exact .there sl12) ?_; rfl)))))
      have hpos := m.inn_iff.1 h3
      have hw : w64 ((s.len : Int) - 1) = ((m.lv.length - 1 : Nat) : Int) := by rw [hs, w64_in (by omega) (by omega)]; omega
      rw [hw]
      refine ix_int h.p1 (by omega) (by omega) fun b o x hx hc => ?_
      refine ldI.mk (hc _ ⟨_, h.p1⟩) ?_
      rw [Int.toNat_natCast] at hx
      rw [← PlaceM.top_at hx]
      simpa [h2, h3] using hJ
    · simpa [h2, h3] using hJ
  dsimp only
  refine cs.mk (fun h2 => ?_) (fun h2 => ?_)
  · have he : m.enter l = (-25, m) := by
      have : m.locked = true ∨ m.inn = true ∧ l ≤ m.top := by simpa using h2
      simp only [PlaceM.enter, if_neg hl, if_pos this]
    rw [he] at k; exact k w1 h
  have he : m.enter l = (0, { m with lv := m.lv ++ [l] }) := by
    have : ¬ (m.locked = true ∨ m.inn = true ∧ l ≤ m.top) := by simpa using h2
    simp only [PlaceM.enter, if_neg hl, if_neg this]
  rw [he] at k
  obtain ⟨s, hs, h⟩ := placeE h
  (repeat (first | with_reducible refine nn.mk ?_ | ((first | with_reducible apply ldI.mk | with_reducible apply ldB.mk | with_reducible apply ldP.mk | with_reducible apply ldS.mk | with_reducible apply ldM.mk | with_reducible apply ldF.mk | with_reducible apply ldG.mk); (· exact (by refine Ok.cellS h (by with_reducible first | exact sl0 | exact .there sl0 | exact .there sl1 | exact .there sl2 | exact .there sl3 | exact .there sl4 | exact .there sl5 | exact .there sl6 | exact .there sl7 | exact .there sl8 | exact .there sl9 | exact .there sl10 | exact .there sl11 | exact .there sl12) ?_; rfl)))))
  refine al.mk h fun b w2 h => ?_
  refine ef.append1 slT_int (by decide) (us := [.int .i64 l]) (n := 1) h.p2.p1 rfl (by simp [Value.oneCell']) (by omega) fun s' w3 hl' h => ?_
  have h := h.p1
  (repeat (first | with_reducible refine nn.mk ?_ | ((first | with_reducible apply ldI.mk | with_reducible apply ldB.mk | with_reducible apply ldP.mk | with_reducible apply ldS.mk | with_reducible apply ldM.mk | with_reducible apply ldF.mk | with_reducible apply ldG.mk); (· exact (by refine Ok.cellS h (by with_reducible first | exact sl0 | exact .there sl0 | exact .there sl1 | exact .there sl2 | exact .there sl3 | exact .there sl4 | exact .there sl5 | exact .there sl6 | exact .there sl7 | exact .there sl8 | exact .there sl9 | exact .there sl10 | exact .there sl11 | exact .there sl12) ?_; rfl)))))
  refine st1.mk h (by simp) fun w4 h => ?_
  refine k w4 (placeI (s := s') (m := { m with lv := m.lv ++ [l] }) ?_)
  have : ints (m.lv ++ [l]) = ints m.lv ++ [.int .i64 l] := by simp [ints]
  rw [this]
  exact h

theorem Exit_ctx {e w L p m R} (h : Ok e (placeP p m :: L) w) (hb : m.lv.length ≤ 2 ^ 30) (k : ∀ w', Ok e (placeP p m.exit.2 :: L) w' → R [.int .i64 m.exit.1] w') : sh75 (some ⟨p, 0, none⟩) R w := by
  unfold sh75
  (repeat (first | with_reducible refine nn.mk ?_ | ((first | with_reducible apply ldI.mk | with_reducible apply ldB.mk | with_reducible apply ldP.mk | with_reducible apply ldS.mk | with_reducible apply ldM.mk | with_reducible apply ldF.mk | with_reducible apply ldG.mk); (· exact (by refine Ok.cellS h (by with_reducible first | exact sl0 | exact .there sl0 | exact .there sl1 | exact .there sl2 | exact .there sl3 | exact .there sl4 | exact .there sl5 | exact .there sl6 | exact .there sl7 | exact .there sl8 | exact .there sl9 | exact .there sl10 | exact .there sl11 | exact .there sl12) ?_; rfl)))))
  refine call128 (In_ctx h ⟨(m.inn, ()), rfl, ?_⟩)
  dsimp only
  refine cs.mk (fun h1 => ?_) (fun h1 => ?_)
  · have he : m.exit = (-25, m) := by simp [PlaceM.exit, show m.inn = false by simpa using h1]
    rw [he] at k; exact k w h
  have hin : m.inn = true := by simpa using h1
  have he : m.exit = (0, { m with lv := m.lv.take (m.lv.length - 1) }) := by simp [PlaceM.exit, hin]
  rw [he] at k
  have hpos := m.inn_iff.1 hin
  refine dr.mk h fun w1 h => ?_
  obtain ⟨s, hs, h⟩ := placeE h
  (repeat (first | with_reducible refine nn.mk ?_ | ((first | with_reducible apply ldI.mk | with_reducible apply ldB.mk | with_reducible apply ldP.mk | with_reducible apply ldS.mk | with_reducible apply ldM.mk | with_reducible apply ldF.mk | with_reducible apply ldG.mk); (· exact (by refine Ok.cellS h (by with_reducible first | exact sl0 | exact .there sl0 | exact .there sl1 | exact .there sl2 | exact .there sl3 | exact .there sl4 | exact .there sl5 | exact .there sl6 | exact .there sl7 | exact .there sl8 | exact .there sl9 | exact .there sl10 | exact .there sl11 | exact .there sl12) ?_; rfl)))))
  have hw : w64 ((s.len : Int) - 1) = ((m.lv.length - 1 : Nat) : Int) := by rw [hs, w64_in (by omega) (by omega)]; omega
  rw [hw]
  refine sb.take h.p1 (by omega) (by omega) fun s' hl' hc' h => ?_
  have h := h.p1
  (repeat (first | with_reducible refine nn.mk ?_ | ((first | with_reducible apply ldI.mk | with_reducible apply ldB.mk | with_reducible apply ldP.mk | with_reducible apply ldS.mk | with_reducible apply ldM.mk | with_reducible apply ldF.mk | with_reducible apply ldG.mk); (· exact (by refine Ok.cellS h (by with_reducible first | exact sl0 | exact .there sl0 | exact .there sl1 | exact .there sl2 | exact .there sl3 | exact .there sl4 | exact .there sl5 | exact .there sl6 | exact .there sl7 | exact .there sl8 | exact .there sl9 | exact .there sl10 | exact .there sl11 | exact .there sl12) ?_; rfl)))))
  refine st1.mk h (by simp) fun w2 h => ?_
  refine k w2 (placeI (s := s') (m := { m with lv := m.lv.take (m.lv.length - 1) }) ?_)
  have : ints (m.lv.take (m.lv.length - 1)) = (ints m.lv).take (m.lv.length - 1) := by simp [ints]
  rw [this]
  simpa using h

/-! ### the reference's place: the same layout -/

end Go.Proofs.YtenonfkfoedfmaaGreatDoor.B


/- Contracts of the kernel's functions: a tick; interrupts; what is told of a task. -/
namespace Go.Proofs.YtenonfkfoedfmaaGreatDoor.B
open Go
set_option linter.unusedVariables false

theorem Running_kern {e w L k A K R} (h : Ok e (kerP k A K :: L) w) (kk : R [.int .i64 K.who] w) : sh21 (some ⟨k, 0, none⟩) R w := by
  obtain ⟨ho, h⟩ := kerE h
  unfold sh21
  exact nn.mk (ldI.mk (h.cell rfl) kk)

theorem Tick_kern {e w L k A K K' R} (tb : TabE e) (h : Ok e (kerP k A K :: old e :: L) w) (hm : K.tick = some K') (kk : ∀ w', Ok e (kerP k A K' :: old e :: L) w' → R [vS ⟨none, 0, 0⟩] w') : sh22 (some ⟨k, 0, none⟩) R w := by
  unfold sh22
  unfold KM.tick at hm
  split at hm
  · next hu =>
    obtain ⟨K2, hK2, rfl⟩ := Option.map_eq_some_iff.1 hm
    obtain ⟨ho, h⟩ := kerE h
    have hdl : ((dueE (K.up + K.tic) K.ents).map Ent.arg).length ≤ 256 := by
      obtain ⟨c0, t0, h0⟩ := hnE ((Ok.emb (h) (.cons (A := hnP A.hn K.tic K.up K.tb K.last K.ents) (by with_reducible first | exact sl0 | exact .there sl0 | exact .there sl1 | exact .there sl2 | exact .there sl3 | exact .there sl4 | exact .there sl5 | exact .there sl6 | exact .there sl7 | exact .there sl8 | exact .there sl9 | exact .there sl10 | exact .there sl11 | exact .there sl12) (.same _))))
      have h1 := (tm_ok h0.p2).len
      have h2 : (dueE (K.up + K.tic) K.ents).length ≤ K.ents.length := (List.takeWhile_sublist _).length_le
      rw [List.length_map]; omega
    refine nn.mk (ldP.mk (h.cell rfl) ?_)
    refine call53 (Pass_cyc ((Ok.emb (h) (.cons (A := hnP A.hn K.tic K.up K.tb K.last K.ents) (by with_reducible first | exact sl0 | exact .there sl0 | exact .there sl1 | exact .there sl2 | exact .there sl3 | exact .there sl4 | exact .there sl5 | exact .there sl6 | exact .there sl7 | exact .there sl8 | exact .there sl9 | exact .there sl10 | exact .there sl11 | exact .there sl12) (.same _)))) ⟨ho.t0, ho.t1⟩ hu fun s w1 h => ⟨(⟨none, 0, 0⟩, s, ()), rfl, ?_⟩)
    have h := kerI (K := { K with up := K.up + K.tic, ents := restE (K.up + K.tic) K.ents }) (A := A) (ho.of rfl rfl rfl rfl rfl) ((h.emb (by repeat' (first | with_reducible exact Emb.same _ | exact Emb.nil _ | refine Emb.cons (by with_reducible first | exact sl0 | exact .there sl0 | exact .there sl1 | exact .there sl2 | exact .there sl3 | exact .there sl4 | exact .there sl5 | exact .there sl6 | exact .there sl7 | exact .there sl8 | exact .there sl9 | exact .there sl10 | exact .there sl11 | exact .there sl12) ?_ | refine Emb.skip ?_))) : Ok e (pts k (kC A K) :: unitsP A.ub A.us K.us :: semsP A.ss K.sems :: flgP A.fs :: datasP A.ds K.datas :: poolsP A.ps K.pools :: mmP A.lk K.mm :: placeP A.pl K.pl :: hnP A.hn K.tic (K.up + K.tic) K.tb K.last (restE (K.up + K.tic) K.ents) :: rdyP A.rq K.rdy :: old e :: slc 1 s (ints ((dueE (K.up + K.tic) K.ents).map Ent.arg)) :: L) w1)
    have hsl : ((dueE (K.up + K.tic) K.ents).map Ent.arg).length = s.len := by have := h.p2.slc_len; rw [ints_len] at this; omega
    generalize (dueE (K.up + K.tic) K.ents).map Ent.arg = l at *
    refine lp.mk (fun t w1 => ∃ (i : Nat) (N : KM), @Eq Int t.1 (i : Int) ∧ i ≤ l.length ∧ KM.tickL (l.drop i) N = some K2 ∧ Ok e (kerP k A N :: old e :: slc 1 s (ints l) :: L) w1) (fun t _ => Int.toNat (Int.sub l.length t.1)) ⟨0, _, rfl, Nat.zero_le _, hK2, h⟩ ?_
    rintro ⟨(t : Int), _⟩ w2 ⟨i, N, (rfl : t = (i : Int)), hi, hm, h⟩
    refine cs.mk (fun h1 => ?_) (fun h1 => ?_)
    · have h1 : i < l.length := by have := of_decide_eq_true h1; dsimp only at this; omega
      rw [List.drop_eq_getElem_cons h1, KM.tickL] at hm
      obtain ⟨u, hu, hm⟩ := Option.bind_eq_some_iff.1 hm
      obtain ⟨N2, hN2, hm⟩ := Option.bind_eq_some_iff.1 hm
      obtain ⟨N3, hN3, hm⟩ := Option.bind_eq_some_iff.1 hm
      obtain ⟨N4, hN4, hm⟩ := Option.bind_eq_some_iff.1 hm
      refine ix_int h.p2 (by dsimp only; omega) (by dsimp only; omega) fun b o y hy hc => ldI.mk (hc _ ⟨_, h.p2⟩) ?_
      rw [Int.toNat_natCast, List.getElem?_eq_getElem h1] at hy
      cases hy
      obtain ⟨t0, H0, _, h0, _, read0⟩ := ker_un h hu
      refine nn.mk (ldS.mk (h0.cell rfl) (read0 e _ w2 _ ((Ok.emb (h0) (.cons (A := H0) (by with_reducible first | exact sl0 | exact .there sl0 | exact .there sl1 | exact .there sl2 | exact .there sl3 | exact .there sl4 | exact .there sl5 | exact .there sl6 | exact .there sl7 | exact .there sl8 | exact .there sl9 | exact .there sl10 | exact .there sl11 | exact .there sl12) (.same _)))) fun b2 o2 hc => ldP.mk hc (nn.mk (ldI.mk (h0.p1.cell rfl) ?_))))
      refine jn.at (t := ((if u.kind = 2 then 0 else -50 : Int), ())) (fun w' => w' = w2) (fun J hJ => cs.mk (fun h2 => ?_) (fun h2 => ?_)) ?_
      · have h2 : u.kind = 2 := by simpa using h2
        rw [if_pos h2] at hJ
        exact hJ _ rfl
      · have h2 : ¬ u.kind = 2 := by simpa using h2
        rw [if_neg h2] at hJ
        exact hJ _ rfl
      rintro w' rfl
      refine call54 (leave_kern h hN2 fun w3 h => ⟨(), rfl, ?_⟩)
      refine call55 (a2 := ((if u.kind = 2 then 0 else -50 : Int), (0 : Int), ())) (wake_kern h hN3 fun w4 h => ⟨(), rfl, ?_⟩)
      refine call56 (settle_kern h hN4 fun w5 h => ⟨(), rfl, ?_⟩)
      refine ⟨⟨i + 1, N4, ?_, h1, hm, h⟩, ?_⟩
      · show w64 ((i : Int) + 1) = _
        rw [w64_in (by omega) (by omega)]; rfl
      · show Int.toNat (Int.sub _ (w64 ((i : Int) + 1))) < Int.toNat (Int.sub _ (i : Int))
        rw [w64_in (by omega) (by omega)]
        show Int.toNat ((l.length : Int) - ((i : Int) + 1)) < Int.toNat ((l.length : Int) - (i : Int))
        omega
    · have h1 : l.length ≤ i := by have := of_decide_eq_false h1; dsimp only at this; omega
      rw [List.drop_eq_nil_of_le h1] at hm
      cases hm
      exact call57 (choose_kern tb h fun w3 h => ⟨(), rfl, kk w3 h.p2.drop⟩)
  · cases hm

theorem Int_kern {e w L k A K lev R} (tb : TabE e) (h : Ok e (kerP k A K :: old e :: L) w) (hb : K.pl.lv.length ≤ 100) (kk : ∀ w', Ok e (kerP k A (K.intr lev).2 :: old e :: L) w' → R [.int .i64 (K.intr lev).1] w') : sh39 (some ⟨k, 0, none⟩) lev R w := by
  obtain ⟨ho, h⟩ := kerE h
  unfold sh39
  refine nn.mk (ldP.mk (h.cell rfl) ?_)
  refine call74 (Enter_ctx (l := lev) ((Ok.emb (h) (.cons (A := placeP A.pl K.pl) (by with_reducible first | exact sl0 | exact .there sl0 | exact .there sl1 | exact .there sl2 | exact .there sl3 | exact .there sl4 | exact .there sl5 | exact .there sl6 | exact .there sl7 | exact .there sl8 | exact .there sl9 | exact .there sl10 | exact .there sl11 | exact .there sl12) (.same _)))) (by omega) fun w1 h => ⟨((K.pl.enter lev).1, ()), rfl, ?_⟩)
  have h := kerI (K := { K with pl := (K.pl.enter lev).2 }) (A := A) (ho.of rfl rfl rfl rfl rfl) ((h.emb (by repeat' (first | with_reducible exact Emb.same _ | exact Emb.nil _ | refine Emb.cons (by with_reducible first | exact sl0 | exact .there sl0 | exact .there sl1 | exact .there sl2 | exact .there sl3 | exact .there sl4 | exact .there sl5 | exact .there sl6 | exact .there sl7 | exact .there sl8 | exact .there sl9 | exact .there sl10 | exact .there sl11 | exact .there sl12) ?_ | refine Emb.skip ?_))) : Ok e (pts k (kC A K) :: unitsP A.ub A.us K.us :: semsP A.ss K.sems :: flgP A.fs :: datasP A.ds K.datas :: poolsP A.ps K.pools :: mmP A.lk K.mm :: placeP A.pl (K.pl.enter lev).2 :: hnP A.hn K.tic K.up K.tb K.last K.ents :: rdyP A.rq K.rdy :: old e :: L) w1)
  exact call57 (choose_kern tb h fun w2 h => ⟨(), rfl, kk w2 h⟩)

theorem Ret_kern {e w L k A K R} (tb : TabE e) (h : Ok e (kerP k A K :: old e :: L) w) (hb : K.pl.lv.length ≤ 100) (kk : ∀ w', Ok e (kerP k A K.retn.2 :: old e :: L) w' → R [.int .i64 K.retn.1] w') : sh40 (some ⟨k, 0, none⟩) R w := by
  obtain ⟨ho, h⟩ := kerE h
  unfold sh40
  refine nn.mk (ldP.mk (h.cell rfl) ?_)
  refine call75 (Exit_ctx ((Ok.emb (h) (.cons (A := placeP A.pl K.pl) (by with_reducible first | exact sl0 | exact .there sl0 | exact .there sl1 | exact .there sl2 | exact .there sl3 | exact .there sl4 | exact .there sl5 | exact .there sl6 | exact .there sl7 | exact .there sl8 | exact .there sl9 | exact .there sl10 | exact .there sl11 | exact .there sl12) (.same _)))) (by omega) fun w1 h => ⟨(K.pl.exit.1, ()), rfl, ?_⟩)
  have h := kerI (K := { K with pl := K.pl.exit.2 }) (A := A) (ho.of rfl rfl rfl rfl rfl) ((h.emb (by repeat' (first | with_reducible exact Emb.same _ | exact Emb.nil _ | refine Emb.cons (by with_reducible first | exact sl0 | exact .there sl0 | exact .there sl1 | exact .there sl2 | exact .there sl3 | exact .there sl4 | exact .there sl5 | exact .there sl6 | exact .there sl7 | exact .there sl8 | exact .there sl9 | exact .there sl10 | exact .there sl11 | exact .there sl12) ?_ | refine Emb.skip ?_))) : Ok e (pts k (kC A K) :: unitsP A.ub A.us K.us :: semsP A.ss K.sems :: flgP A.fs :: datasP A.ds K.datas :: poolsP A.ps K.pools :: mmP A.lk K.mm :: placeP A.pl K.pl.exit.2 :: hnP A.hn K.tic K.up K.tb K.last K.ents :: rdyP A.rq K.rdy :: old e :: L) w1)
  exact call57 (choose_kern tb h fun w2 h => ⟨(), rfl, kk w2 h⟩)

theorem Task_kern {e w L k A K n f R} (h : Ok e (kerP k A K :: L) w) (hm : K.task n = some f)
    (kk : ∀ w', Ok e (kerP k A K :: L) w' → R [.agg #[.int .i64 f.state, .int .i64 f.pri, .int .i64 f.base, .int .i64 0, .int .i64 f.kind, .int .i64 f.obj, .int .i64 f.lc, .int .i64 f.lv], .agg #[.int .i64 f.acts, .int .i64 f.wups, .int .i64 f.susps], .int .i64 0] w') : sh24 (some ⟨k, 0, none⟩) n R w := by
  unfold sh24
  obtain ⟨u, hu, hm⟩ := Option.bind_eq_some_iff.1 hm
  obtain ⟨p, hp, hm⟩ := Option.bind_eq_some_iff.1 hm
  obtain ⟨q, hq, rfl⟩ := Option.map_eq_some_iff.1 hm
  refine al.mk h fun b1 w1 h => al.mk h fun b3 w2 h => ?_
  obtain ⟨hn1, hn2, _⟩ := un_get hu
  obtain ⟨t, H, ho, h, back, read⟩ := ker_un (L := pts b3 [.int .i64 0, .int .i64 0, .int .i64 0] :: pts b1 [.int .i64 0, .int .i64 0, .int .i64 0, .int .i64 0, .int .i64 0, .int .i64 0, .int .i64 0, .int .i64 0] :: L) h.p2 hu
  have husl : A.us.len = 1 + K.us.length := by
    obtain ⟨_, h9⟩ := kerE (back K u e _ w2 ho rfl h)
    have := ptrsB_len (h9.p1 : Ok e (ptrsB unP [.pointer none] un0 A.ub A.us (K.setU n u).us :: _) w2)
    rw [setU_same hu] at this
    simpa using this
  refine jn.bool false (fun J hJ => cs.no (by simp; omega) (nn.mk (ldS.mk (h.cell rfl) ?_))) (cs.no rfl ?_)
  · rw [decide_eq_false (by omega)]
    exact hJ
  refine nn.mk (ldS.mk (h.cell rfl) (read e _ w2 _ ((Ok.emb (h) (.cons (A := H) (by with_reducible first | exact sl0 | exact .there sl0 | exact .there sl1 | exact .there sl2 | exact .there sl3 | exact .there sl4 | exact .there sl5 | exact .there sl6 | exact .there sl7 | exact .there sl8 | exact .there sl9 | exact .there sl10 | exact .there sl11 | exact .there sl12) (.same _)))) fun b2 o2 hc => ldP.mk hc (dr.mk h fun w3 h => ?_)))
  refine nn.mk (ldP.mk (h.p1.cell rfl) (nn.mk (ldI.mk (h.p2.cell rfl) ?_)))
  refine nn.mk (ldP.mk (h.cell rfl) (nn.mk (ldP.mk (h.cell rfl) ?_)))
  refine nn.mk (ldI.mk (h.p1.cell rfl) (nn.mk (ldI.mk (h.p1.cell rfl) ?_)))
  refine nn.mk (ldI.mk (h.p1.cell rfl) (ldI.mk (h.p1.cell rfl) ?_))
  have pri : ∀ {w L} {K0 : TK [kI] → World → Prop}, Ok e (mmP A.lk K.mm :: L) w → K0 (p, ()) w → cl Pg 35 [pV A.lk, .int .i64 n] [kI] w K0 := fun h k0 => call35 (Pri_mtx h hp ⟨(p, ()), rfl, k0⟩)
  have bas : ∀ {w L} {K0 : TK [kI] → World → Prop}, Ok e (mmP A.lk K.mm :: L) w → K0 (q, ()) w → cl Pg 36 [pV A.lk, .int .i64 n] [kI] w K0 := fun h k0 => call36 (Base_mtx h hq ⟨(q, ()), rfl, k0⟩)
  refine ⟨pri ((Ok.emb (h) (.cons (A := mmP A.lk K.mm) (by with_reducible first | exact sl0 | exact .there sl0 | exact .there sl1 | exact .there sl2 | exact .there sl3 | exact .there sl4 | exact .there sl5 | exact .there sl6 | exact .there sl7 | exact .there sl8 | exact .there sl9 | exact .there sl10 | exact .there sl11 | exact .there sl12) (.same _)))) ⟨⟨(by refine Ok.cellS h (by with_reducible first | exact sl0 | exact .there sl0 | exact .there sl1 | exact .there sl2 | exact .there sl3 | exact .there sl4 | exact .there sl5 | exact .there sl6 | exact .there sl7 | exact .there sl8 | exact .there sl9 | exact .there sl10 | exact .there sl11 | exact .there sl12) ?_; rfl), (by refine Ok.cellS h (by with_reducible first | exact sl0 | exact .there sl0 | exact .there sl1 | exact .there sl2 | exact .there sl3 | exact .there sl4 | exact .there sl5 | exact .there sl6 | exact .there sl7 | exact .there sl8 | exact .there sl9 | exact .there sl10 | exact .there sl11 | exact .there sl12) ?_; rfl)⟩, (by refine Ok.cellS h (by with_reducible first | exact sl0 | exact .there sl0 | exact .there sl1 | exact .there sl2 | exact .there sl3 | exact .there sl4 | exact .there sl5 | exact .there sl6 | exact .there sl7 | exact .there sl8 | exact .there sl9 | exact .there sl10 | exact .there sl11 | exact .there sl12) ?_; rfl), (by refine Ok.cellS h (by with_reducible first | exact sl0 | exact .there sl0 | exact .there sl1 | exact .there sl2 | exact .there sl3 | exact .there sl4 | exact .there sl5 | exact .there sl6 | exact .there sl7 | exact .there sl8 | exact .there sl9 | exact .there sl10 | exact .there sl11 | exact .there sl12) ?_; rfl), (by refine Ok.cellS h (by with_reducible first | exact sl0 | exact .there sl0 | exact .there sl1 | exact .there sl2 | exact .there sl3 | exact .there sl4 | exact .there sl5 | exact .there sl6 | exact .there sl7 | exact .there sl8 | exact .there sl9 | exact .there sl10 | exact .there sl11 | exact .there sl12) ?_; rfl), (by refine Ok.cellS h (by with_reducible first | exact sl0 | exact .there sl0 | exact .there sl1 | exact .there sl2 | exact .there sl3 | exact .there sl4 | exact .there sl5 | exact .there sl6 | exact .there sl7 | exact .there sl8 | exact .there sl9 | exact .there sl10 | exact .there sl11 | exact .there sl12) ?_; rfl), (by refine Ok.cellS h (by with_reducible first | exact sl0 | exact .there sl0 | exact .there sl1 | exact .there sl2 | exact .there sl3 | exact .there sl4 | exact .there sl5 | exact .there sl6 | exact .there sl7 | exact .there sl8 | exact .there sl9 | exact .there sl10 | exact .there sl11 | exact .there sl12) ?_; rfl), ?_⟩, al.mk h fun fb w4 h => ⟨⟨(by refine Ok.cellS h (by with_reducible first | exact sl0 | exact .there sl0 | exact .there sl1 | exact .there sl2 | exact .there sl3 | exact .there sl4 | exact .there sl5 | exact .there sl6 | exact .there sl7 | exact .there sl8 | exact .there sl9 | exact .there sl10 | exact .there sl11 | exact .there sl12) ?_; rfl), (by refine Ok.cellS h (by with_reducible first | exact sl0 | exact .there sl0 | exact .there sl1 | exact .there sl2 | exact .there sl3 | exact .there sl4 | exact .there sl5 | exact .there sl6 | exact .there sl7 | exact .there sl8 | exact .there sl9 | exact .there sl10 | exact .there sl11 | exact .there sl12) ?_; rfl)⟩, (by refine Ok.cellS h (by with_reducible first | exact sl0 | exact .there sl0 | exact .there sl1 | exact .there sl2 | exact .there sl3 | exact .there sl4 | exact .there sl5 | exact .there sl6 | exact .there sl7 | exact .there sl8 | exact .there sl9 | exact .there sl10 | exact .there sl11 | exact .there sl12) ?_; rfl), (by refine Ok.cellS h (by with_reducible first | exact sl0 | exact .there sl0 | exact .there sl1 | exact .there sl2 | exact .there sl3 | exact .there sl4 | exact .there sl5 | exact .there sl6 | exact .there sl7 | exact .there sl8 | exact .there sl9 | exact .there sl10 | exact .there sl11 | exact .there sl12) ?_; rfl), (by refine Ok.cellS h (by with_reducible first | exact sl0 | exact .there sl0 | exact .there sl1 | exact .there sl2 | exact .there sl3 | exact .there sl4 | exact .there sl5 | exact .there sl6 | exact .there sl7 | exact .there sl8 | exact .there sl9 | exact .there sl10 | exact .there sl11 | exact .there sl12) ?_; rfl), (by refine Ok.cellS h (by with_reducible first | exact sl0 | exact .there sl0 | exact .there sl1 | exact .there sl2 | exact .there sl3 | exact .there sl4 | exact .there sl5 | exact .there sl6 | exact .there sl7 | exact .there sl8 | exact .there sl9 | exact .there sl10 | exact .there sl11 | exact .there sl12) ?_; rfl), (by refine Ok.cellS h (by with_reducible first | exact sl0 | exact .there sl0 | exact .there sl1 | exact .there sl2 | exact .there sl3 | exact .there sl4 | exact .there sl5 | exact .there sl6 | exact .there sl7 | exact .there sl8 | exact .there sl9 | exact .there sl10 | exact .there sl11 | exact .there sl12) ?_; rfl), (by refine Ok.cellS h (by with_reducible first | exact sl0 | exact .there sl0 | exact .there sl1 | exact .there sl2 | exact .there sl3 | exact .there sl4 | exact .there sl5 | exact .there sl6 | exact .there sl7 | exact .there sl8 | exact .there sl9 | exact .there sl10 | exact .there sl11 | exact .there sl12) ?_; rfl), ?_⟩⟩
  · refine ⟨bas ((Ok.emb (h) (.cons (A := mmP A.lk K.mm) (by with_reducible first | exact sl0 | exact .there sl0 | exact .there sl1 | exact .there sl2 | exact .there sl3 | exact .there sl4 | exact .there sl5 | exact .there sl6 | exact .there sl7 | exact .there sl8 | exact .there sl9 | exact .there sl10 | exact .there sl11 | exact .there sl12) (.same _)))) ⟨⟨(by refine Ok.cellS h (by with_reducible first | exact sl0 | exact .there sl0 | exact .there sl1 | exact .there sl2 | exact .there sl3 | exact .there sl4 | exact .there sl5 | exact .there sl6 | exact .there sl7 | exact .there sl8 | exact .there sl9 | exact .there sl10 | exact .there sl11 | exact .there sl12) ?_; rfl), (by refine Ok.cellS h (by with_reducible first | exact sl0 | exact .there sl0 | exact .there sl1 | exact .there sl2 | exact .there sl3 | exact .there sl4 | exact .there sl5 | exact .there sl6 | exact .there sl7 | exact .there sl8 | exact .there sl9 | exact .there sl10 | exact .there sl11 | exact .there sl12) ?_; rfl)⟩, (by refine Ok.cellS h (by with_reducible first | exact sl0 | exact .there sl0 | exact .there sl1 | exact .there sl2 | exact .there sl3 | exact .there sl4 | exact .there sl5 | exact .there sl6 | exact .there sl7 | exact .there sl8 | exact .there sl9 | exact .there sl10 | exact .there sl11 | exact .there sl12) ?_; rfl), (by refine Ok.cellS h (by with_reducible first | exact sl0 | exact .there sl0 | exact .there sl1 | exact .there sl2 | exact .there sl3 | exact .there sl4 | exact .there sl5 | exact .there sl6 | exact .there sl7 | exact .there sl8 | exact .there sl9 | exact .there sl10 | exact .there sl11 | exact .there sl12) ?_; rfl), (by refine Ok.cellS h (by with_reducible first | exact sl0 | exact .there sl0 | exact .there sl1 | exact .there sl2 | exact .there sl3 | exact .there sl4 | exact .there sl5 | exact .there sl6 | exact .there sl7 | exact .there sl8 | exact .there sl9 | exact .there sl10 | exact .there sl11 | exact .there sl12) ?_; rfl), (by refine Ok.cellS h (by with_reducible first | exact sl0 | exact .there sl0 | exact .there sl1 | exact .there sl2 | exact .there sl3 | exact .there sl4 | exact .there sl5 | exact .there sl6 | exact .there sl7 | exact .there sl8 | exact .there sl9 | exact .there sl10 | exact .there sl11 | exact .there sl12) ?_; rfl), ?_⟩, al.mk h fun fb w4 h => ⟨⟨(by refine Ok.cellS h (by with_reducible first | exact sl0 | exact .there sl0 | exact .there sl1 | exact .there sl2 | exact .there sl3 | exact .there sl4 | exact .there sl5 | exact .there sl6 | exact .there sl7 | exact .there sl8 | exact .there sl9 | exact .there sl10 | exact .there sl11 | exact .there sl12) ?_; rfl), (by refine Ok.cellS h (by with_reducible first | exact sl0 | exact .there sl0 | exact .there sl1 | exact .there sl2 | exact .there sl3 | exact .there sl4 | exact .there sl5 | exact .there sl6 | exact .there sl7 | exact .there sl8 | exact .there sl9 | exact .there sl10 | exact .there sl11 | exact .there sl12) ?_; rfl)⟩, (by refine Ok.cellS h (by with_reducible first | exact sl0 | exact .there sl0 | exact .there sl1 | exact .there sl2 | exact .there sl3 | exact .there sl4 | exact .there sl5 | exact .there sl6 | exact .there sl7 | exact .there sl8 | exact .there sl9 | exact .there sl10 | exact .there sl11 | exact .there sl12) ?_; rfl), (by refine Ok.cellS h (by with_reducible first | exact sl0 | exact .there sl0 | exact .there sl1 | exact .there sl2 | exact .there sl3 | exact .there sl4 | exact .there sl5 | exact .there sl6 | exact .there sl7 | exact .there sl8 | exact .there sl9 | exact .there sl10 | exact .there sl11 | exact .there sl12) ?_; rfl), (by refine Ok.cellS h (by with_reducible first | exact sl0 | exact .there sl0 | exact .there sl1 | exact .there sl2 | exact .there sl3 | exact .there sl4 | exact .there sl5 | exact .there sl6 | exact .there sl7 | exact .there sl8 | exact .there sl9 | exact .there sl10 | exact .there sl11 | exact .there sl12) ?_; rfl), (by refine Ok.cellS h (by with_reducible first | exact sl0 | exact .there sl0 | exact .there sl1 | exact .there sl2 | exact .there sl3 | exact .there sl4 | exact .there sl5 | exact .there sl6 | exact .there sl7 | exact .there sl8 | exact .there sl9 | exact .there sl10 | exact .there sl11 | exact .there sl12) ?_; rfl), (by refine Ok.cellS h (by with_reducible first | exact sl0 | exact .there sl0 | exact .there sl1 | exact .there sl2 | exact .there sl3 | exact .there sl4 | exact .there sl5 | exact .there sl6 | exact .there sl7 | exact .there sl8 | exact .there sl9 | exact .there sl10 | exact .there sl11 | exact .there sl12) ?_; rfl), (by refine Ok.cellS h (by with_reducible first | exact sl0 | exact .there sl0 | exact .there sl1 | exact .there sl2 | exact .there sl3 | exact .there sl4 | exact .there sl5 | exact .there sl6 | exact .there sl7 | exact .there sl8 | exact .there sl9 | exact .there sl10 | exact .there sl11 | exact .there sl12) ?_; rfl), ?_⟩⟩
    · refine al.mk h fun fb w5 h => ⟨⟨(by refine Ok.cellS h (by with_reducible first | exact sl0 | exact .there sl0 | exact .there sl1 | exact .there sl2 | exact .there sl3 | exact .there sl4 | exact .there sl5 | exact .there sl6 | exact .there sl7 | exact .there sl8 | exact .there sl9 | exact .there sl10 | exact .there sl11 | exact .there sl12) ?_; rfl), (by refine Ok.cellS h (by with_reducible first | exact sl0 | exact .there sl0 | exact .there sl1 | exact .there sl2 | exact .there sl3 | exact .there sl4 | exact .there sl5 | exact .there sl6 | exact .there sl7 | exact .there sl8 | exact .there sl9 | exact .there sl10 | exact .there sl11 | exact .there sl12) ?_; rfl)⟩, (by refine Ok.cellS h (by with_reducible first | exact sl0 | exact .there sl0 | exact .there sl1 | exact .there sl2 | exact .there sl3 | exact .there sl4 | exact .there sl5 | exact .there sl6 | exact .there sl7 | exact .there sl8 | exact .there sl9 | exact .there sl10 | exact .there sl11 | exact .there sl12) ?_; rfl), (by refine Ok.cellS h (by with_reducible first | exact sl0 | exact .there sl0 | exact .there sl1 | exact .there sl2 | exact .there sl3 | exact .there sl4 | exact .there sl5 | exact .there sl6 | exact .there sl7 | exact .there sl8 | exact .there sl9 | exact .there sl10 | exact .there sl11 | exact .there sl12) ?_; rfl), (by refine Ok.cellS h (by with_reducible first | exact sl0 | exact .there sl0 | exact .there sl1 | exact .there sl2 | exact .there sl3 | exact .there sl4 | exact .there sl5 | exact .there sl6 | exact .there sl7 | exact .there sl8 | exact .there sl9 | exact .there sl10 | exact .there sl11 | exact .there sl12) ?_; rfl), (by refine Ok.cellS h (by with_reducible first | exact sl0 | exact .there sl0 | exact .there sl1 | exact .there sl2 | exact .there sl3 | exact .there sl4 | exact .there sl5 | exact .there sl6 | exact .there sl7 | exact .there sl8 | exact .there sl9 | exact .there sl10 | exact .there sl11 | exact .there sl12) ?_; rfl), (by refine Ok.cellS h (by with_reducible first | exact sl0 | exact .there sl0 | exact .there sl1 | exact .there sl2 | exact .there sl3 | exact .there sl4 | exact .there sl5 | exact .there sl6 | exact .there sl7 | exact .there sl8 | exact .there sl9 | exact .there sl10 | exact .there sl11 | exact .there sl12) ?_; rfl), (by refine Ok.cellS h (by with_reducible first | exact sl0 | exact .there sl0 | exact .there sl1 | exact .there sl2 | exact .there sl3 | exact .there sl4 | exact .there sl5 | exact .there sl6 | exact .there sl7 | exact .there sl8 | exact .there sl9 | exact .there sl10 | exact .there sl11 | exact .there sl12) ?_; rfl), ?_⟩
      have h := ((h.emb (by repeat' (first | with_reducible exact Emb.same _ | exact Emb.nil _ | refine Emb.cons (by with_reducible first | exact sl0 | exact .there sl0 | exact .there sl1 | exact .there sl2 | exact .there sl3 | exact .there sl4 | exact .there sl5 | exact .there sl6 | exact .there sl7 | exact .there sl8 | exact .there sl9 | exact .there sl10 | exact .there sl11 | exact .there sl12) ?_ | refine Emb.skip ?_))) : Ok e (pts fb [.int .i64 0, .int .i64 0, .int .i64 0, .int .i64 0, .int .i64 0, .int .i64 0, .int .i64 0, .int .i64 0] :: pts k (kC A K) :: pts (A.ub (n - 1).toNat) (unC t u) :: pts t (tcC u) :: H :: kR A K (pts b3 [.int .i64 0, .int .i64 0, .int .i64 0] :: pts b1 [.int .i64 0, .int .i64 0, .int .i64 0, .int .i64 0, .int .i64 0, .int .i64 0, .int .i64 0, .int .i64 0] :: L)) _)
      refine st1.mk h (by simp) fun _ h => st1.mk h (by simp) fun _ h => st1.mk h (by simp) fun _ h => st1.mk h (by simp) fun _ h => st1.mk h (by simp) fun _ h => st1.mk h (by simp) fun _ h => st1.mk h (by simp) fun _ h => st1.mk h (by simp) fun w9 h => ?_
      have h : Ok e (pts fb [.int .i64 u.state, .int .i64 p, .int .i64 q, .int .i64 0, .int .i64 u.kind, .int .i64 u.obj, .int .i64 u.lc, .int .i64 u.lv] :: pts k (kC A K) :: pts (A.ub (n - 1).toNat) (unC t u) :: pts t (tcC u) :: H :: kR A K (pts b3 [.int .i64 0, .int .i64 0, .int .i64 0] :: pts b1 [.int .i64 0, .int .i64 0, .int .i64 0, .int .i64 0, .int .i64 0, .int .i64 0, .int .i64 0, .int .i64 0] :: L)) w9 := h
      refine nn.mk (ldI.mk (h.p1.cell rfl) ?_)
      refine jn.at (t := ()) (fun w' => Ok e (pts fb [.int .i64 (if n = K.who then 1 else u.state), .int .i64 p, .int .i64 q, .int .i64 0, .int .i64 u.kind, .int .i64 u.obj, .int .i64 u.lc, .int .i64 u.lv] :: pts k (kC A K) :: pts (A.ub (n - 1).toNat) (unC t u) :: pts t (tcC u) :: H :: kR A K (pts b3 [.int .i64 0, .int .i64 0, .int .i64 0] :: pts b1 [.int .i64 0, .int .i64 0, .int .i64 0, .int .i64 0, .int .i64 0, .int .i64 0, .int .i64 0, .int .i64 0] :: L)) w') (fun J hJ => cs.mk (fun h2 => ?_) (fun h2 => ?_)) (fun w10 h => ?_)
      · have h2 : n = K.who := by simpa using h2
        rw [if_pos h2] at hJ
        exact st1.mk h (by simp) fun w10 h => hJ w10 h
      · have h2 : ¬ n = K.who := by simpa using h2
        rw [if_neg h2] at hJ
        exact hJ w9 h
      refine dr.mk h fun w11 h => ldI.mk (h.cell rfl) (ldI.mk (h.cell rfl) (ldI.mk (h.cell rfl) (ldI.mk (h.cell rfl) (ldI.mk (h.cell rfl) (ldI.mk (h.cell rfl) (ldI.mk (h.cell rfl) (ldI.mk (h.cell rfl) ?_)))))))
      refine nn.mk (ldP.mk (h.p2.cell rfl) (nn.mk (ldI.mk (h.p3.cell rfl) (ldI.mk (h.p3.cell rfl) (ldI.mk (h.p3.cell rfl) ?_)))))
      have h := ((h.emb (by repeat' (first | with_reducible exact Emb.same _ | exact Emb.nil _ | refine Emb.cons (by with_reducible first | exact sl0 | exact .there sl0 | exact .there sl1 | exact .there sl2 | exact .there sl3 | exact .there sl4 | exact .there sl5 | exact .there sl6 | exact .there sl7 | exact .there sl8 | exact .there sl9 | exact .there sl10 | exact .there sl11 | exact .there sl12) ?_ | refine Emb.skip ?_))) : Ok e (pts b1 [.int .i64 0, .int .i64 0, .int .i64 0, .int .i64 0, .int .i64 0, .int .i64 0, .int .i64 0, .int .i64 0] :: pts b3 [.int .i64 0, .int .i64 0, .int .i64 0] :: pts t (tcC u) :: pts (A.ub (n - 1).toNat) (unC t u) :: pts k (kC A K) :: H :: kR A K L) _)
      refine st1.mk h (by simp) fun _ h => st1.mk h (by simp) fun _ h => st1.mk h (by simp) fun _ h => st1.mk h (by simp) fun _ h => st1.mk h (by simp) fun _ h => st1.mk h (by simp) fun _ h => st1.mk h (by simp) fun _ h => st1.mk h (by simp) fun w12 h => ?_
      refine ⟨⟨h.p2.cell rfl, h.p2.cell rfl, h.p2.cell rfl⟩, h.p3.cell rfl, ?_⟩
      refine st1.mk h.p1 (by simp) fun _ h => st1.mk h (by simp) fun _ h => st1.mk h (by simp) fun w13 h => ?_
      refine ldI.mk (h.p1.cell rfl) (ldI.mk (h.p1.cell rfl) (ldI.mk (h.p1.cell rfl) (ldI.mk (h.p1.cell rfl) (ldI.mk (h.p1.cell rfl) (ldI.mk (h.p1.cell rfl) (ldI.mk (h.p1.cell rfl) (ldI.mk (h.p1.cell rfl) ?_)))))))
      refine ldI.mk (h.cell rfl) (ldI.mk (h.cell rfl) (ldI.mk (h.cell rfl) (kk w13 ?_)))
      have h := back K u e L w13 ho rfl (h.emb (by repeat' (first | with_reducible exact Emb.same _ | exact Emb.nil _ | refine Emb.cons (by with_reducible first | exact sl0 | exact .there sl0 | exact .there sl1 | exact .there sl2 | exact .there sl3 | exact .there sl4 | exact .there sl5 | exact .there sl6 | exact .there sl7 | exact .there sl8 | exact .there sl9 | exact .there sl10 | exact .there sl11 | exact .there sl12) ?_ | refine Emb.skip ?_)))
      rw [setU_same hu] at h
      exact h
    · refine bas ((Ok.emb (h) (.cons (A := mmP A.lk K.mm) (by with_reducible first | exact sl0 | exact .there sl0 | exact .there sl1 | exact .there sl2 | exact .there sl3 | exact .there sl4 | exact .there sl5 | exact .there sl6 | exact .there sl7 | exact .there sl8 | exact .there sl9 | exact .there sl10 | exact .there sl11 | exact .there sl12) (.same _)))) ⟨⟨(by refine Ok.cellS h (by with_reducible first | exact sl0 | exact .there sl0 | exact .there sl1 | exact .there sl2 | exact .there sl3 | exact .there sl4 | exact .there sl5 | exact .there sl6 | exact .there sl7 | exact .there sl8 | exact .there sl9 | exact .there sl10 | exact .there sl11 | exact .there sl12) ?_; rfl), (by refine Ok.cellS h (by with_reducible first | exact sl0 | exact .there sl0 | exact .there sl1 | exact .there sl2 | exact .there sl3 | exact .there sl4 | exact .there sl5 | exact .there sl6 | exact .there sl7 | exact .there sl8 | exact .there sl9 | exact .there sl10 | exact .there sl11 | exact .there sl12) ?_; rfl)⟩, (by refine Ok.cellS h (by with_reducible first | exact sl0 | exact .there sl0 | exact .there sl1 | exact .there sl2 | exact .there sl3 | exact .there sl4 | exact .there sl5 | exact .there sl6 | exact .there sl7 | exact .there sl8 | exact .there sl9 | exact .there sl10 | exact .there sl11 | exact .there sl12) ?_; rfl), (by refine Ok.cellS h (by with_reducible first | exact sl0 | exact .there sl0 | exact .there sl1 | exact .there sl2 | exact .there sl3 | exact .there sl4 | exact .there sl5 | exact .there sl6 | exact .there sl7 | exact .there sl8 | exact .there sl9 | exact .there sl10 | exact .there sl11 | exact .there sl12) ?_; rfl), (by refine Ok.cellS h (by with_reducible first | exact sl0 | exact .there sl0 | exact .there sl1 | exact .there sl2 | exact .there sl3 | exact .there sl4 | exact .there sl5 | exact .there sl6 | exact .there sl7 | exact .there sl8 | exact .there sl9 | exact .there sl10 | exact .there sl11 | exact .there sl12) ?_; rfl), (by refine Ok.cellS h (by with_reducible first | exact sl0 | exact .there sl0 | exact .there sl1 | exact .there sl2 | exact .there sl3 | exact .there sl4 | exact .there sl5 | exact .there sl6 | exact .there sl7 | exact .there sl8 | exact .there sl9 | exact .there sl10 | exact .there sl11 | exact .there sl12) ?_; rfl), ?_⟩
      have h := ((h.emb (by repeat' (first | with_reducible exact Emb.same _ | exact Emb.nil _ | refine Emb.cons (by with_reducible first | exact sl0 | exact .there sl0 | exact .there sl1 | exact .there sl2 | exact .there sl3 | exact .there sl4 | exact .there sl5 | exact .there sl6 | exact .there sl7 | exact .there sl8 | exact .there sl9 | exact .there sl10 | exact .there sl11 | exact .there sl12) ?_ | refine Emb.skip ?_))) : Ok e (pts fb [.int .i64 0, .int .i64 0, .int .i64 0, .int .i64 0, .int .i64 0, .int .i64 0, .int .i64 0, .int .i64 0] :: pts k (kC A K) :: pts (A.ub (n - 1).toNat) (unC t u) :: pts t (tcC u) :: H :: kR A K (pts b3 [.int .i64 0, .int .i64 0, .int .i64 0] :: pts b1 [.int .i64 0, .int .i64 0, .int .i64 0, .int .i64 0, .int .i64 0, .int .i64 0, .int .i64 0, .int .i64 0] :: L)) _)
      refine st1.mk h (by simp) fun _ h => st1.mk h (by simp) fun _ h => st1.mk h (by simp) fun _ h => st1.mk h (by simp) fun _ h => st1.mk h (by simp) fun _ h => st1.mk h (by simp) fun _ h => st1.mk h (by simp) fun _ h => st1.mk h (by simp) fun w9 h => ?_
      have h : Ok e (pts fb [.int .i64 u.state, .int .i64 p, .int .i64 q, .int .i64 0, .int .i64 u.kind, .int .i64 u.obj, .int .i64 u.lc, .int .i64 u.lv] :: pts k (kC A K) :: pts (A.ub (n - 1).toNat) (unC t u) :: pts t (tcC u) :: H :: kR A K (pts b3 [.int .i64 0, .int .i64 0, .int .i64 0] :: pts b1 [.int .i64 0, .int .i64 0, .int .i64 0, .int .i64 0, .int .i64 0, .int .i64 0, .int .i64 0, .int .i64 0] :: L)) w9 := h
      refine nn.mk (ldI.mk (h.p1.cell rfl) ?_)
      refine jn.at (t := ()) (fun w' => Ok e (pts fb [.int .i64 (if n = K.who then 1 else u.state), .int .i64 p, .int .i64 q, .int .i64 0, .int .i64 u.kind, .int .i64 u.obj, .int .i64 u.lc, .int .i64 u.lv] :: pts k (kC A K) :: pts (A.ub (n - 1).toNat) (unC t u) :: pts t (tcC u) :: H :: kR A K (pts b3 [.int .i64 0, .int .i64 0, .int .i64 0] :: pts b1 [.int .i64 0, .int .i64 0, .int .i64 0, .int .i64 0, .int .i64 0, .int .i64 0, .int .i64 0, .int .i64 0] :: L)) w') (fun J hJ => cs.mk (fun h2 => ?_) (fun h2 => ?_)) (fun w10 h => ?_)
      · have h2 : n = K.who := by simpa using h2
        rw [if_pos h2] at hJ
        exact st1.mk h (by simp) fun w10 h => hJ w10 h
      · have h2 : ¬ n = K.who := by simpa using h2
        rw [if_neg h2] at hJ
        exact hJ w9 h
      refine dr.mk h fun w11 h => ldI.mk (h.cell rfl) (ldI.mk (h.cell rfl) (ldI.mk (h.cell rfl) (ldI.mk (h.cell rfl) (ldI.mk (h.cell rfl) (ldI.mk (h.cell rfl) (ldI.mk (h.cell rfl) (ldI.mk (h.cell rfl) ?_)))))))
      refine nn.mk (ldP.mk (h.p2.cell rfl) (nn.mk (ldI.mk (h.p3.cell rfl) (ldI.mk (h.p3.cell rfl) (ldI.mk (h.p3.cell rfl) ?_)))))
      have h := ((h.emb (by repeat' (first | with_reducible exact Emb.same _ | exact Emb.nil _ | refine Emb.cons (by with_reducible first | exact sl0 | exact .there sl0 | exact .there sl1 | exact .there sl2 | exact .there sl3 | exact .there sl4 | exact .there sl5 | exact .there sl6 | exact .there sl7 | exact .there sl8 | exact .there sl9 | exact .there sl10 | exact .there sl11 | exact .there sl12) ?_ | refine Emb.skip ?_))) : Ok e (pts b1 [.int .i64 0, .int .i64 0, .int .i64 0, .int .i64 0, .int .i64 0, .int .i64 0, .int .i64 0, .int .i64 0] :: pts b3 [.int .i64 0, .int .i64 0, .int .i64 0] :: pts t (tcC u) :: pts (A.ub (n - 1).toNat) (unC t u) :: pts k (kC A K) :: H :: kR A K L) _)
      refine st1.mk h (by simp) fun _ h => st1.mk h (by simp) fun _ h => st1.mk h (by simp) fun _ h => st1.mk h (by simp) fun _ h => st1.mk h (by simp) fun _ h => st1.mk h (by simp) fun _ h => st1.mk h (by simp) fun _ h => st1.mk h (by simp) fun w12 h => ?_
      refine ⟨⟨h.p2.cell rfl, h.p2.cell rfl, h.p2.cell rfl⟩, h.p3.cell rfl, ?_⟩
      refine st1.mk h.p1 (by simp) fun _ h => st1.mk h (by simp) fun _ h => st1.mk h (by simp) fun w13 h => ?_
      refine ldI.mk (h.p1.cell rfl) (ldI.mk (h.p1.cell rfl) (ldI.mk (h.p1.cell rfl) (ldI.mk (h.p1.cell rfl) (ldI.mk (h.p1.cell rfl) (ldI.mk (h.p1.cell rfl) (ldI.mk (h.p1.cell rfl) (ldI.mk (h.p1.cell rfl) ?_)))))))
      refine ldI.mk (h.cell rfl) (ldI.mk (h.cell rfl) (ldI.mk (h.cell rfl) (kk w13 ?_)))
      have h := back K u e L w13 ho rfl (h.emb (by repeat' (first | with_reducible exact Emb.same _ | exact Emb.nil _ | refine Emb.cons (by with_reducible first | exact sl0 | exact .there sl0 | exact .there sl1 | exact .there sl2 | exact .there sl3 | exact .there sl4 | exact .there sl5 | exact .there sl6 | exact .there sl7 | exact .there sl8 | exact .there sl9 | exact .there sl10 | exact .there sl11 | exact .there sl12) ?_ | refine Emb.skip ?_)))
      rw [setU_same hu] at h
      exact h
  · refine pri ((Ok.emb (h) (.cons (A := mmP A.lk K.mm) (by with_reducible first | exact sl0 | exact .there sl0 | exact .there sl1 | exact .there sl2 | exact .there sl3 | exact .there sl4 | exact .there sl5 | exact .there sl6 | exact .there sl7 | exact .there sl8 | exact .there sl9 | exact .there sl10 | exact .there sl11 | exact .there sl12) (.same _)))) ⟨⟨(by refine Ok.cellS h (by with_reducible first | exact sl0 | exact .there sl0 | exact .there sl1 | exact .there sl2 | exact .there sl3 | exact .there sl4 | exact .there sl5 | exact .there sl6 | exact .there sl7 | exact .there sl8 | exact .there sl9 | exact .there sl10 | exact .there sl11 | exact .there sl12) ?_; rfl), (by refine Ok.cellS h (by with_reducible first | exact sl0 | exact .there sl0 | exact .there sl1 | exact .there sl2 | exact .there sl3 | exact .there sl4 | exact .there sl5 | exact .there sl6 | exact .there sl7 | exact .there sl8 | exact .there sl9 | exact .there sl10 | exact .there sl11 | exact .there sl12) ?_; rfl)⟩, (by refine Ok.cellS h (by with_reducible first | exact sl0 | exact .there sl0 | exact .there sl1 | exact .there sl2 | exact .there sl3 | exact .there sl4 | exact .there sl5 | exact .there sl6 | exact .there sl7 | exact .there sl8 | exact .there sl9 | exact .there sl10 | exact .there sl11 | exact .there sl12) ?_; rfl), (by refine Ok.cellS h (by with_reducible first | exact sl0 | exact .there sl0 | exact .there sl1 | exact .there sl2 | exact .there sl3 | exact .there sl4 | exact .there sl5 | exact .there sl6 | exact .there sl7 | exact .there sl8 | exact .there sl9 | exact .there sl10 | exact .there sl11 | exact .there sl12) ?_; rfl), (by refine Ok.cellS h (by with_reducible first | exact sl0 | exact .there sl0 | exact .there sl1 | exact .there sl2 | exact .there sl3 | exact .there sl4 | exact .there sl5 | exact .there sl6 | exact .there sl7 | exact .there sl8 | exact .there sl9 | exact .there sl10 | exact .there sl11 | exact .there sl12) ?_; rfl), (by refine Ok.cellS h (by with_reducible first | exact sl0 | exact .there sl0 | exact .there sl1 | exact .there sl2 | exact .there sl3 | exact .there sl4 | exact .there sl5 | exact .there sl6 | exact .there sl7 | exact .there sl8 | exact .there sl9 | exact .there sl10 | exact .there sl11 | exact .there sl12) ?_; rfl), (by refine Ok.cellS h (by with_reducible first | exact sl0 | exact .there sl0 | exact .there sl1 | exact .there sl2 | exact .there sl3 | exact .there sl4 | exact .there sl5 | exact .there sl6 | exact .there sl7 | exact .there sl8 | exact .there sl9 | exact .there sl10 | exact .there sl11 | exact .there sl12) ?_; rfl), ?_⟩
    refine bas ((Ok.emb (h) (.cons (A := mmP A.lk K.mm) (by with_reducible first | exact sl0 | exact .there sl0 | exact .there sl1 | exact .there sl2 | exact .there sl3 | exact .there sl4 | exact .there sl5 | exact .there sl6 | exact .there sl7 | exact .there sl8 | exact .there sl9 | exact .there sl10 | exact .there sl11 | exact .there sl12) (.same _)))) ⟨⟨(by refine Ok.cellS h (by with_reducible first | exact sl0 | exact .there sl0 | exact .there sl1 | exact .there sl2 | exact .there sl3 | exact .there sl4 | exact .there sl5 | exact .there sl6 | exact .there sl7 | exact .there sl8 | exact .there sl9 | exact .there sl10 | exact .there sl11 | exact .there sl12) ?_; rfl), (by refine Ok.cellS h (by with_reducible first | exact sl0 | exact .there sl0 | exact .there sl1 | exact .there sl2 | exact .there sl3 | exact .there sl4 | exact .there sl5 | exact .there sl6 | exact .there sl7 | exact .there sl8 | exact .there sl9 | exact .there sl10 | exact .there sl11 | exact .there sl12) ?_; rfl)⟩, (by refine Ok.cellS h (by with_reducible first | exact sl0 | exact .there sl0 | exact .there sl1 | exact .there sl2 | exact .there sl3 | exact .there sl4 | exact .there sl5 | exact .there sl6 | exact .there sl7 | exact .there sl8 | exact .there sl9 | exact .there sl10 | exact .there sl11 | exact .there sl12) ?_; rfl), (by refine Ok.cellS h (by with_reducible first | exact sl0 | exact .there sl0 | exact .there sl1 | exact .there sl2 | exact .there sl3 | exact .there sl4 | exact .there sl5 | exact .there sl6 | exact .there sl7 | exact .there sl8 | exact .there sl9 | exact .there sl10 | exact .there sl11 | exact .there sl12) ?_; rfl), (by refine Ok.cellS h (by with_reducible first | exact sl0 | exact .there sl0 | exact .there sl1 | exact .there sl2 | exact .there sl3 | exact .there sl4 | exact .there sl5 | exact .there sl6 | exact .there sl7 | exact .there sl8 | exact .there sl9 | exact .there sl10 | exact .there sl11 | exact .there sl12) ?_; rfl), (by refine Ok.cellS h (by with_reducible first | exact sl0 | exact .there sl0 | exact .there sl1 | exact .there sl2 | exact .there sl3 | exact .there sl4 | exact .there sl5 | exact .there sl6 | exact .there sl7 | exact .there sl8 | exact .there sl9 | exact .there sl10 | exact .there sl11 | exact .there sl12) ?_; rfl), ?_⟩
    have h := ((h.emb (by repeat' (first | with_reducible exact Emb.same _ | exact Emb.nil _ | refine Emb.cons (by with_reducible first | exact sl0 | exact .there sl0 | exact .there sl1 | exact .there sl2 | exact .there sl3 | exact .there sl4 | exact .there sl5 | exact .there sl6 | exact .there sl7 | exact .there sl8 | exact .there sl9 | exact .there sl10 | exact .there sl11 | exact .there sl12) ?_ | refine Emb.skip ?_))) : Ok e (pts fb [.int .i64 0, .int .i64 0, .int .i64 0, .int .i64 0, .int .i64 0, .int .i64 0, .int .i64 0, .int .i64 0] :: pts k (kC A K) :: pts (A.ub (n - 1).toNat) (unC t u) :: pts t (tcC u) :: H :: kR A K (pts b3 [.int .i64 0, .int .i64 0, .int .i64 0] :: pts b1 [.int .i64 0, .int .i64 0, .int .i64 0, .int .i64 0, .int .i64 0, .int .i64 0, .int .i64 0, .int .i64 0] :: L)) _)
    refine st1.mk h (by simp) fun _ h => st1.mk h (by simp) fun _ h => st1.mk h (by simp) fun _ h => st1.mk h (by simp) fun _ h => st1.mk h (by simp) fun _ h => st1.mk h (by simp) fun _ h => st1.mk h (by simp) fun _ h => st1.mk h (by simp) fun w9 h => ?_
    have h : Ok e (pts fb [.int .i64 u.state, .int .i64 p, .int .i64 q, .int .i64 0, .int .i64 u.kind, .int .i64 u.obj, .int .i64 u.lc, .int .i64 u.lv] :: pts k (kC A K) :: pts (A.ub (n - 1).toNat) (unC t u) :: pts t (tcC u) :: H :: kR A K (pts b3 [.int .i64 0, .int .i64 0, .int .i64 0] :: pts b1 [.int .i64 0, .int .i64 0, .int .i64 0, .int .i64 0, .int .i64 0, .int .i64 0, .int .i64 0, .int .i64 0] :: L)) w9 := h
    refine nn.mk (ldI.mk (h.p1.cell rfl) ?_)
    refine jn.at (t := ()) (fun w' => Ok e (pts fb [.int .i64 (if n = K.who then 1 else u.state), .int .i64 p, .int .i64 q, .int .i64 0, .int .i64 u.kind, .int .i64 u.obj, .int .i64 u.lc, .int .i64 u.lv] :: pts k (kC A K) :: pts (A.ub (n - 1).toNat) (unC t u) :: pts t (tcC u) :: H :: kR A K (pts b3 [.int .i64 0, .int .i64 0, .int .i64 0] :: pts b1 [.int .i64 0, .int .i64 0, .int .i64 0, .int .i64 0, .int .i64 0, .int .i64 0, .int .i64 0, .int .i64 0] :: L)) w') (fun J hJ => cs.mk (fun h2 => ?_) (fun h2 => ?_)) (fun w10 h => ?_)
    · have h2 : n = K.who := by simpa using h2
      rw [if_pos h2] at hJ
      exact st1.mk h (by simp) fun w10 h => hJ w10 h
    · have h2 : ¬ n = K.who := by simpa using h2
      rw [if_neg h2] at hJ
      exact hJ w9 h
    refine dr.mk h fun w11 h => ldI.mk (h.cell rfl) (ldI.mk (h.cell rfl) (ldI.mk (h.cell rfl) (ldI.mk (h.cell rfl) (ldI.mk (h.cell rfl) (ldI.mk (h.cell rfl) (ldI.mk (h.cell rfl) (ldI.mk (h.cell rfl) ?_)))))))
    refine nn.mk (ldP.mk (h.p2.cell rfl) (nn.mk (ldI.mk (h.p3.cell rfl) (ldI.mk (h.p3.cell rfl) (ldI.mk (h.p3.cell rfl) ?_)))))
    have h := ((h.emb (by repeat' (first | with_reducible exact Emb.same _ | exact Emb.nil _ | refine Emb.cons (by with_reducible first | exact sl0 | exact .there sl0 | exact .there sl1 | exact .there sl2 | exact .there sl3 | exact .there sl4 | exact .there sl5 | exact .there sl6 | exact .there sl7 | exact .there sl8 | exact .there sl9 | exact .there sl10 | exact .there sl11 | exact .there sl12) ?_ | refine Emb.skip ?_))) : Ok e (pts b1 [.int .i64 0, .int .i64 0, .int .i64 0, .int .i64 0, .int .i64 0, .int .i64 0, .int .i64 0, .int .i64 0] :: pts b3 [.int .i64 0, .int .i64 0, .int .i64 0] :: pts t (tcC u) :: pts (A.ub (n - 1).toNat) (unC t u) :: pts k (kC A K) :: H :: kR A K L) _)
    refine st1.mk h (by simp) fun _ h => st1.mk h (by simp) fun _ h => st1.mk h (by simp) fun _ h => st1.mk h (by simp) fun _ h => st1.mk h (by simp) fun _ h => st1.mk h (by simp) fun _ h => st1.mk h (by simp) fun _ h => st1.mk h (by simp) fun w12 h => ?_
    refine ⟨⟨h.p2.cell rfl, h.p2.cell rfl, h.p2.cell rfl⟩, h.p3.cell rfl, ?_⟩
    refine st1.mk h.p1 (by simp) fun _ h => st1.mk h (by simp) fun _ h => st1.mk h (by simp) fun w13 h => ?_
    refine ldI.mk (h.p1.cell rfl) (ldI.mk (h.p1.cell rfl) (ldI.mk (h.p1.cell rfl) (ldI.mk (h.p1.cell rfl) (ldI.mk (h.p1.cell rfl) (ldI.mk (h.p1.cell rfl) (ldI.mk (h.p1.cell rfl) (ldI.mk (h.p1.cell rfl) ?_)))))))
    refine ldI.mk (h.cell rfl) (ldI.mk (h.cell rfl) (ldI.mk (h.cell rfl) (kk w13 ?_)))
    have h := back K u e L w13 ho rfl (h.emb (by repeat' (first | with_reducible exact Emb.same _ | exact Emb.nil _ | refine Emb.cons (by with_reducible first | exact sl0 | exact .there sl0 | exact .there sl1 | exact .there sl2 | exact .there sl3 | exact .there sl4 | exact .there sl5 | exact .there sl6 | exact .there sl7 | exact .there sl8 | exact .there sl9 | exact .there sl10 | exact .there sl11 | exact .there sl12) ?_ | refine Emb.skip ?_)))
    rw [setU_same hu] at h
    exact h

end Go.Proofs.YtenonfkfoedfmaaGreatDoor.B


/- Contracts of the package calls; what a call is told. -/
namespace Go.Proofs.YtenonfkfoedfmaaGreatDoor.B
open Go
set_option linter.unusedVariables false

/-! ### the rows of the table -/
abbrev rowC (x : ByteArray × Int × Int) : List Value := [.string x.1, .int .i64 x.2.1, .int .i64 x.2.2]

theorem rowC_len (x : ByteArray × Int × Int) : (rowC x).length = 3 := rfl

theorem rowC_one (x : ByteArray × Int × Int) : ∀ v ∈ rowC x, v.oneCell' = true := by
  intro v hv
  simp only [rowC, List.mem_cons, List.not_mem_nil, or_false] at hv
  rcases hv with rfl | rfl | rfl <;> rfl

def unflat : List Value → List (ByteArray × Int × Int)
  | .string g :: .int _ a :: .int _ k :: r => (g, a, k) :: unflat r
  | _ => []

/-- how many arguments, and of which kind, a call is -/
def akL : List (Int × Int) := [(0, 0), (1, 1), (1, 3), (1, 1), (0, 4), (1, 1), (2, 1), (1, 1), (1, 1), (1, 3), (0, 1), (0, 3), (0, 2), (1, 2), (1, 1), (1, 3), (1, 1), (1, 1), (1, 3), (1, 1), (1, 1), (1, 1), (1, 2),
  (1, 1), (1, 3), (1, 2), (1, 1), (2, 2), (2, 1), (2, 3), (2, 1), (3, 2), (3, 1), (4, 2), (2, 2), (2, 1), (2, 3), (3, 2), (2, 1), (2, 3), (1, 2), (1, 1), (2, 2), (1, 2), (1, 1), (2, 2), (1, 1),
  (1, 2), (1, 1), (2, 2), (2, 1), (1, 1), (0, 1), (1, 1), (1, 1), (2, 1), (1, 1), (0, 4), (0, 4), (0, 1), (0, 1), (0, 0), (0, 0), (0, 0), (0, 0)]

/-- the table is so -/
def tabOk (t : List (ByteArray × Int × Int)) : Bool := (t.map (·.2) == akL) && (t.drop 1).all fun x => decide (0 < x.1.size)

theorem tab_get {t : List (ByteArray × Int × Int)} (h : tabOk t = true) {n : Nat} {a k : Int} (hn : akL[n]? = some (a, k)) (h0 : 0 < n) : ∃ g, t[n]? = some (g, a, k) ∧ 0 < g.size := by
  unfold tabOk at h
  simp only [Bool.and_eq_true, beq_iff_eq, List.all_eq_true, decide_eq_true_eq] at h
  have h1 : (t.map (·.2))[n]? = some (a, k) := by rw [h.1]; exact hn
  rw [List.getElem?_map] at h1
  obtain ⟨⟨g, a', k'⟩, hx, he⟩ := Option.map_eq_some_iff.1 h1
  cases he
  refine ⟨g, hx, h.2 (g, a, k) ?_⟩
  refine List.mem_of_getElem? (i := n - 1) ?_
  rw [List.getElem?_drop, show 1 + (n - 1) = n by omega]
  exact hx

theorem size_ne {g : ByteArray} (h : 0 < g.size) : (!(g.toList == (bs []).toList)) = true := by
  have h1 : g.toList ≠ (bs []).toList := by
    intro e
    have h2 : g.toList.length = (bs []).toList.length := congrArg List.length e
    rw [ByteArray.toList_eq, ByteArray.toList_eq] at h2
    have h3 : g.data.toList.length = g.size := rfl
    have h4 : ((bs []).data.toList).length = 0 := rfl
    omega
  simpa using h1

theorem table_calls {e w L R} (h : Ok e L w) (k : ∀ t s w', tabOk t = true → s.len = 65 → Ok e (slc 3 s (flat rowC t) :: L) w' → R [vS s] w') : sh167 R w := by
  unfold sh167
  refine al.mk h fun b w1 h => ?_
  have conv : ∀ (cs : List Value), Ok e (pts b cs :: L) w1 → cs = flat rowC (unflat cs) → tabOk (unflat cs) = true → R [vS ⟨some ⟨b, 0, none⟩, 65, 65⟩] w1 := by
    intro cs h e1 e2
    refine k (unflat cs) _ w1 e2 rfl ?_
    rw [← e1]
    refine h.slcNew (n := 65) ?_ (by rw [e1]; exact flat_one rowC_one)
    have hl : (unflat cs).length = 65 := by
      unfold tabOk at e2
      simp only [Bool.and_eq_true, beq_iff_eq] at e2
      have := congrArg List.length e2.1
      rw [List.length_map] at this
      rw [this]; rfl
    rw [e1, flat_len rowC_len, hl]
  exact conv _ h (by kernel_rfl) (by kernel_rfl)

theorem of_calls {e w L R} {n : Nat} {a kd : Int} (h : Ok e L w) (hn : akL[n]? = some (a, kd)) (h0 : 0 < n)
    (k : ∀ g w', 0 < g.size → Ok e L w' → R [.agg #[.string g, .int .i64 a, .int .i64 kd]] w') : sh87 (n : Int) R w := by
  unfold sh87
  have hn65 : n < 65 := (List.getElem?_eq_some_iff.1 hn).1
  refine al.mk h fun b w1 h => ?_
  refine call167 (table_calls h fun t s w2 ht hs h => ⟨(s, ()), rfl, ?_⟩)
  obtain ⟨g, hg, hgs⟩ := tab_get ht hn h0
  refine jn.bool false (fun J hJ => cs.no (by simp; omega) ?_) (cs.no rfl ?_)
  · rw [decide_eq_false (by dsimp only; omega)]
    exact hJ
  refine ix_flat rowC_len (by decide) h (by omega) (by have := (List.getElem?_eq_some_iff.1 hg).1; omega) fun b2 o2 x hx _ _ hc => ?_
  rw [Int.toNat_natCast, hg] at hx
  cases hx
  refine ⟨g, hc 0 _ rfl _ ⟨_, h⟩, ldI.mk (hc 1 _ rfl _ ⟨_, h⟩) (ldI.mk (hc 2 _ rfl _ ⟨_, h⟩) ?_)⟩
  refine st1.mk h.p1 (by simp) fun w3 h => st1.mk h (by simp) fun w4 h => st1.mk h (by simp) fun w5 h => ?_
  exact ⟨g, h.cell rfl, ldI.mk (h.cell rfl) (ldI.mk (h.cell rfl) (k g w5 hgs h.drop.drop))⟩

theorem Known_calls {e w L R} {n : Nat} {a kd : Int} (h : Ok e L w) (hn : akL[n]? = some (a, kd)) (h0 : 0 < n) (k : ∀ w', Ok e L w' → R [.bool true] w') : sh76 (n : Int) R w := by
  unfold sh76
  refine call87 (of_calls h hn h0 fun g w1 hg h => ⟨((g, a, kd, ()), ()), rfl, ?_⟩)
  dsimp only
  rw [size_ne hg]
  exact k w1 h

theorem Kind_calls {e w L R} {n : Nat} {a kd x0 x1 x2 x3 : Int} (h : Ok e L w) (hn : akL[n]? = some (a, kd)) (h0 : 0 < n) (k : ∀ w', Ok e L w' → R [.int .i64 kd] w') : sh42 ((n : Int), x0, x1, x2, x3, ()) R w := by
  unfold sh42
  refine al.mk h fun b w1 h => ldI.mk (h.cell rfl) ?_
  exact call87 (of_calls h hn h0 fun g w2 hg h => ⟨((g, a, kd, ()), ()), rfl, k w2 h.drop⟩)

theorem slT_i64 : SlT Pg 39 1 := .of (by kernel_rfl)

theorem copy4 (v : Value) (xs : List Int) (hl : xs.length ≤ 4) : ([v, .int .i64 0, .int .i64 0, .int .i64 0, .int .i64 0] : List Value).take (0 + 1) ++ ints xs ++ ([v, .int .i64 0, .int .i64 0, .int .i64 0, .int .i64 0] : List Value).drop (0 + 1 + (ints xs).length) =
    [v, .int .i64 (xs[0]?.getD 0), .int .i64 (xs[1]?.getD 0), .int .i64 (xs[2]?.getD 0), .int .i64 (xs[3]?.getD 0)] := by
  rcases xs with _ | ⟨x0, _ | ⟨x1, _ | ⟨x2, _ | ⟨x3, _ | ⟨x4, r⟩⟩⟩⟩⟩
  · rfl
  · rfl
  · rfl
  · rfl
  · rfl
  · simp at hl

theorem Make_calls {e w L s R} {fn : Int} {xs : List Int} (h : Ok e (slc 1 s (ints xs) :: L) w) (hl : xs.length ≤ 4)
    (k : ∀ w', Ok e L w' → R [.agg #[.int .i64 fn, .int .i64 (xs[0]?.getD 0), .int .i64 (xs[1]?.getD 0), .int .i64 (xs[2]?.getD 0), .int .i64 (xs[3]?.getD 0)]] w') : sh52 fn s R w := by
  unfold sh52
  have hs : xs.length = s.len := by have := h.slc_len; rw [ints_len] at this; omega
  refine al.mk h fun b w1 h => al.mk h fun c w2 h => ?_
  refine st1.mk h (by simp) fun w3 h => st1.mk h (by simp) fun w4 h => st1.mk h (by simp) fun w5 h => st1.mk h (by simp) fun w6 h => st1.mk h (by simp) fun w7 h => ?_
  have h : Ok e (pts c [.int .i64 fn, .int .i64 0, .int .i64 0, .int .i64 0, .int .i64 0] :: pts b [.int .i64 0, .int .i64 0, .int .i64 0, .int .i64 0, .int .i64 0] :: slc 1 s (ints xs) :: L) w7 := h
  refine ef.copy (b := c) (o := 0 + 1) (n := s.len) (us := ints xs) slT_i64 h rfl (by show s.len = Nat.min s.len 4; exact (Nat.min_eq_left (by omega)).symm) (by rw [ints_len, hs]; omega) (fun ha => ?_) (fun a ha => h.p2.slc_cells ha) (ints_one xs) (by rw [ints_len]; simp; omega) fun w8 h => ?_
  · rcases h.p2.slcE.2.2.2 with ⟨_, h0, _⟩ | ⟨b2, post, h0, _⟩
    · have := h.p2.slcE.2.2.1
      exact List.eq_nil_of_length_eq_zero (by rw [ints_len]; omega)
    · rw [h0] at ha; cases ha
  rw [copy4 _ xs hl] at h
  refine ldI.mk (h.cell rfl) (ldI.mk (h.cell rfl) (ldI.mk (h.cell rfl) (ldI.mk (h.cell rfl) (ldI.mk (h.cell rfl) ?_))))
  refine st1.mk h.p1 (by simp) fun w9 h => st1.mk h (by simp) fun w10 h => st1.mk h (by simp) fun w11 h => st1.mk h (by simp) fun w12 h => st1.mk h (by simp) fun w13 h => ?_
  exact ldI.mk (h.cell rfl) (ldI.mk (h.cell rfl) (ldI.mk (h.cell rfl) (ldI.mk (h.cell rfl) (ldI.mk (h.cell rfl) (k w13 h.drop.drop.drop)))))

/-- what a call is told: a code alone -/
theorem say_code {e w L R} {c : Int} {s : Sl} (h : Ok e L w) (hs : s.len = 0) (k : ∀ w', Ok e L w' → R [.agg #[.int .i64 c, .int .i64 0]] w') : sh77 c s R w := by
  unfold sh77
  refine al.mk h fun b w1 h => al.mk h fun d w2 h => st1.mk h (by simp) fun w3 h => st1.mk h (by simp) fun w4 h => ?_
  refine lp.mk (fun t w5 => @Eq Int t.1 0 ∧ Ok e (pts d [.int .i64 c, .int .i64 0] :: pts b [.int .i64 0, .int .i64 0] :: L) w5) (fun _ _ => 0) ⟨rfl, h⟩ ?_
  rintro ⟨(t : Int), _⟩ w5 ⟨(rfl : t = 0), h⟩
  refine cs.no (by rw [hs]; rfl) (cs.mk (fun h1 => ?_) (fun h1 => ?_))
  · refine st1.mk h (by simp) fun w6 h => ldI.mk (h.cell rfl) (ldI.mk (h.cell rfl) (st1.mk h.p1 (by simp) fun w7 h => st1.mk h (by simp) fun w8 h => ?_))
    exact ldI.mk (h.cell rfl) (ldI.mk (h.cell rfl) (k w8 h.drop.drop))
  · refine ldI.mk (h.cell rfl) (ldI.mk (h.cell rfl) (st1.mk h.p1 (by simp) fun w7 h => st1.mk h (by simp) fun w8 h => ?_))
    exact ldI.mk (h.cell rfl) (ldI.mk (h.cell rfl) (k w8 h.drop.drop))

/-- a code and a value -/
theorem say_val {e w L R} {c v : Int} {s : Sl} (h : Ok e (slc 1 s (ints [v]) :: L) w) (k : ∀ w', Ok e L w' → R [.agg #[.int .i64 c, .int .i64 (if c ≠ 0 then 0 else v)]] w') : sh77 c s R w := by
  unfold sh77
  have hs : s.len = 1 := by have := h.slc_len; simp at this; omega
  refine al.mk h fun b w1 h => al.mk h fun d w2 h => st1.mk h (by simp) fun w3 h => st1.mk h (by simp) fun w4 h => ?_
  refine lp.mk (fun t w5 => (@Eq Int t.1 0 ∧ Ok e (pts d [.int .i64 c, .int .i64 0] :: pts b [.int .i64 0, .int .i64 0] :: slc 1 s (ints [v]) :: L) w5) ∨ (@Eq Int t.1 1 ∧ Ok e (pts d [.int .i64 c, .int .i64 v] :: pts b [.int .i64 0, .int .i64 0] :: slc 1 s (ints [v]) :: L) w5)) (fun t _ => Int.toNat (Int.sub 1 t.1)) (.inl ⟨rfl, h⟩) ?_
  rintro ⟨(t : Int), _⟩ w5 (⟨(rfl : t = 0), h⟩ | ⟨(rfl : t = 1), h⟩)
  · refine cs.yes (by rw [hs]; rfl) ?_
    refine ix_int h.p2 (by simp) (by rw [hs]; exact (show (0 : Int) < ((1 : Nat) : Int) by decide)) fun b2 o z hz hc => ldI.mk (hc _ ⟨_, h.p2⟩) ?_
    have hz : z = v := by simpa using hz.symm
    subst hz
    exact st1.mk h (by simp) fun w6 h => ⟨.inr ⟨rfl, h⟩, (show Int.toNat (Int.sub 1 1) < Int.toNat (Int.sub 1 0) by decide)⟩
  · refine cs.no (by rw [hs]; rfl) (cs.mk (fun h1 => ?_) (fun h1 => ?_))
    · have h1 : c ≠ 0 := by simpa using h1
      rw [if_pos h1] at k
      refine st1.mk h (by simp) fun w6 h => ldI.mk (h.cell rfl) (ldI.mk (h.cell rfl) (st1.mk h.p1 (by simp) fun w7 h => st1.mk h (by simp) fun w8 h => ?_))
      exact ldI.mk (h.cell rfl) (ldI.mk (h.cell rfl) (k w8 h.drop.drop.drop))
    · have h1 : ¬ c ≠ 0 := by simpa using h1
      rw [if_neg h1] at k
      refine ldI.mk (h.cell rfl) (ldI.mk (h.cell rfl) (st1.mk h.p1 (by simp) fun w7 h => st1.mk h (by simp) fun w8 h => ?_))
      exact ldI.mk (h.cell rfl) (ldI.mk (h.cell rfl) (k w8 h.drop.drop.drop))

theorem late_kern {w t R} (k : R [.bool (decide (-1 ≤ t ∧ t ≤ 2147483647))] w) : sh136 t R w := by
  unfold sh136
  refine jn.bool (decide (-1 ≤ t ∧ t ≤ 2147483647)) (fun J hJ => cs.mk (fun h1 => ?_) (fun h1 => ?_)) k
  · have h1 := of_decide_eq_true h1
    rw [show decide (t ≤ 2147483647) = decide (-1 ≤ t ∧ t ≤ 2147483647) from decide_eq_decide.2 (by omega)]; exact hJ
  · have h1 := of_decide_eq_false h1
    rw [decide_eq_false (by omega)] at hJ; exact hJ

end Go.Proofs.YtenonfkfoedfmaaGreatDoor.B


/- Contracts of the kernel's Do. -/
namespace Go.Proofs.YtenonfkfoedfmaaGreatDoor.B
open Go
set_option linter.unusedVariables false

abbrev CallT := Int × Int × Int × Int × Int × Unit

/-- what a part of the calls answers -/
def GrpC (e : World) (k : Nat) (A : KA) (K : KM) (r : (Int × Int) × KM) (f : (List Value → World → Prop) → World → Prop) : Prop :=
  ∀ L w (R : List Value → World → Prop), Ok e (kerP k A K :: old e :: L) w → (∀ w', Ok e (kerP k A r.2 :: old e :: L) w' → R [.agg #[.int .i64 r.1.1, .int .i64 r.1.2]] w') → f R w


theorem Do_kern {e w L k A K R} {n : Nat} {a kd x0 x1 x2 x3 : Int} {g : KM → Option ((Int × Int) × KM)} {r' : (Int × Int) × KM} (tb : TabE e) (hn : akL[n]? = some (a, kd)) (h0 : 0 < n) (h : Ok e (kerP k A K :: old e :: L) w) (hm : K.call kd g = some r')
    (hg : ∀ r, g K = some r → (n ≤ 22 ∧ GrpC e k A K r (sh79 (some ⟨k, 0, none⟩) ((n : Int), x0, x1, x2, x3, ()))) ∨ (22 < n ∧ n ≤ 27 ∧ GrpC e k A K r (sh80 (some ⟨k, 0, none⟩) ((n : Int), x0, x1, x2, x3, ()))) ∨ (27 < n ∧ n ≤ 33 ∧ GrpC e k A K r (sh81 (some ⟨k, 0, none⟩) ((n : Int), x0, x1, x2, x3, ()))) ∨ (33 < n ∧ n ≤ 42 ∧ GrpC e k A K r (sh82 (some ⟨k, 0, none⟩) ((n : Int), x0, x1, x2, x3, ()))) ∨ (42 < n ∧ n ≤ 46 ∧ GrpC e k A K r (sh83 (some ⟨k, 0, none⟩) ((n : Int), x0, x1, x2, x3, ()))) ∨ (46 < n ∧ n ≤ 50 ∧ GrpC e k A K r (sh84 (some ⟨k, 0, none⟩) ((n : Int), x0, x1, x2, x3, ()))) ∨ (50 < n ∧ n ≤ 56 ∧ GrpC e k A K r (sh85 (some ⟨k, 0, none⟩) ((n : Int), x0, x1, x2, x3, ()))) ∨ (56 < n ∧ GrpC e k A K r (sh86 (some ⟨k, 0, none⟩) ((n : Int), x0, x1, x2, x3, ()))))
    (kk : ∀ w', Ok e (kerP k A r'.2 :: old e :: L) w' → R [.agg #[.int .i64 r'.1.1, .int .i64 r'.1.2]] w') : sh41 (some ⟨k, 0, none⟩) ((n : Int), x0, x1, x2, x3, ()) R w := by
  unfold sh41
  refine al.mk h fun b w1 h => al.mk h fun d w2 h => ldI.mk (h.p1.cell rfl) ?_
  refine call76 (Known_calls h hn h0 fun w3 h => ⟨(true, ()), rfl, cs.no rfl (dr.mk h fun w4 h => ?_)⟩)
  obtain ⟨ho, hk⟩ := kerE h.p2
  refine nn.mk (ldP.mk (hk.cell rfl) (ldI.mk (h.p1.cell rfl) (ldI.mk (h.p1.cell rfl) (ldI.mk (h.p1.cell rfl) (ldI.mk (h.p1.cell rfl) (ldI.mk (h.p1.cell rfl) (nn.mk (ldI.mk (hk.cell rfl) ?_))))))))
  refine call42 (a0 := ((n : Int), x0, x1, x2, x3, ())) (Kind_calls hk hn h0 fun w5 hk => ⟨(kd, ()), rfl, hk.cell rfl, hk.cell rfl, ?_⟩)
  have hwho : ((K.who : Int) == (0 : Int)) = decide (K.who = 0) := by rw [Bool.eq_iff_iff]; simp
  refine call78 (May_ctx (kd := kd) (idle := decide (K.who = 0)) ((Ok.emb (hk) (.cons (A := placeP A.pl K.pl) (by with_reducible first | exact sl0 | exact .there sl0 | exact .there sl1 | exact .there sl2 | exact .there sl3 | exact .there sl4 | exact .there sl5 | exact .there sl6 | exact .there sl7 | exact .there sl8 | exact .there sl9 | exact .there sl10 | exact .there sl11 | exact .there sl12) (.same _)))) ?_)
  refine ⟨(K.pl.may kd (decide (K.who = 0)), ()), rfl, ?_⟩
  have h : Ok e (pts d [.int .i64 0, .int .i64 0] :: pts b [.int .i64 (n : Int), .int .i64 x0, .int .i64 x1, .int .i64 x2, .int .i64 x3] :: kerP k A K :: old e :: L) w5 := (kerI ho hk).q2
  unfold KM.call at hm
  refine cs.mk (fun h1 => ?_) (fun h1 => ?_)
  · have h1 : K.may kd ≠ 0 := by simpa [KM.may] using h1
    rw [if_pos h1] at hm
    cases hm
    refine call77 (a1 := ⟨none, 0, 0⟩) (say_code h rfl fun w6 h => ⟨((K.may kd, (0 : Int), ()), ()), rfl, ?_⟩)
    exact st1.mk h (by simp) fun w7 h => st1.mk h (by simp) fun w8 h => ldI.mk (h.cell rfl) (ldI.mk (h.cell rfl) (kk w8 h.drop.drop))
  · have h1 : ¬ K.may kd ≠ 0 := by simpa [KM.may] using h1
    rw [if_neg h1] at hm
    obtain ⟨r, hr, rfl⟩ := Option.map_eq_some_iff.1 hm
    have hg := hg r hr
    refine al.mk h fun c w6 h => ldI.mk (h.p2.cell rfl) ?_
    have fin : ∀ w', Ok e (pts c [.int .i64 r.1.1, .int .i64 r.1.2] :: pts d [.int .i64 0, .int .i64 0] :: pts b [.int .i64 (n : Int), .int .i64 x0, .int .i64 x1, .int .i64 x2, .int .i64 x3] :: kerP k A r.2 :: old e :: L) w' →
        cl Pg 57 [pV k] [] w' fun (r43 : Unit) w44 => ldI w44 .i64 c 0 fun n45 => ldI w44 .i64 c (0 + 1) fun n46 => st1 w44 d 0 (.int .i64 n45) fun w47 => st1 w47 d (0 + 1) (.int .i64 n46) fun w48 => ldI w48 .i64 d 0 fun n49 => ldI w48 .i64 d (0 + 1) fun n50 => R [.agg #[.int .i64 n49, .int .i64 n50]] w48 := by
      intro w' h
      refine call57 (choose_kern tb ((Ok.emb (h) (.cons (A := kerP k A r.2) (by with_reducible first | exact sl0 | exact .there sl0 | exact .there sl1 | exact .there sl2 | exact .there sl3 | exact .there sl4 | exact .there sl5 | exact .there sl6 | exact .there sl7 | exact .there sl8 | exact .there sl9 | exact .there sl10 | exact .there sl11 | exact .there sl12) (.cons (A := old e) (by with_reducible first | exact sl0 | exact .there sl0 | exact .there sl1 | exact .there sl2 | exact .there sl3 | exact .there sl4 | exact .there sl5 | exact .there sl6 | exact .there sl7 | exact .there sl8 | exact .there sl9 | exact .there sl10 | exact .there sl11 | exact .there sl12) (.same _))))) fun w7 h => ⟨(), rfl, ?_⟩)
      have h : Ok e (pts c [.int .i64 r.1.1, .int .i64 r.1.2] :: pts d [.int .i64 0, .int .i64 0] :: kerP k A r.2.choose :: old e :: L) w7 := (h.emb (by repeat' (first | with_reducible exact Emb.same _ | exact Emb.nil _ | refine Emb.cons (by with_reducible first | exact sl0 | exact .there sl0 | exact .there sl1 | exact .there sl2 | exact .there sl3 | exact .there sl4 | exact .there sl5 | exact .there sl6 | exact .there sl7 | exact .there sl8 | exact .there sl9 | exact .there sl10 | exact .there sl11 | exact .there sl12) ?_ | refine Emb.skip ?_)))
      refine ldI.mk (h.cell rfl) (ldI.mk (h.cell rfl) (st1.mk h.p1 (by simp) fun w8 h => st1.mk h (by simp) fun w9 h => ?_))
      exact ldI.mk (h.cell rfl) (ldI.mk (h.cell rfl) (kk w9 h.drop.drop))
    have run : ∀ (f : (List Value → World → Prop) → World → Prop) w', GrpC e k A K r f → Ok e (pts c [.int .i64 0, .int .i64 0] :: pts d [.int .i64 0, .int .i64 0] :: pts b [.int .i64 (n : Int), .int .i64 x0, .int .i64 x1, .int .i64 x2, .int .i64 x3] :: kerP k A K :: old e :: L) w' →
        ∀ (Z : World → Prop), (∀ w'', Ok e (pts c [.int .i64 r.1.1, .int .i64 r.1.2] :: pts d [.int .i64 0, .int .i64 0] :: pts b [.int .i64 (n : Int), .int .i64 x0, .int .i64 x1, .int .i64 x2, .int .i64 x3] :: kerP k A r.2 :: old e :: L) w'' → Z w'') →
        f (fun vs w' => ∃ t : TK [.a [(.i .i64), (.i .i64)]], encK [.a [(.i .i64), (.i .i64)]] t = vs ∧ st1 w' c 0 (.int .i64 t.1.1) fun w57 => st1 w57 c (0 + 1) (.int .i64 t.1.2.1) fun w58 => Z w58) w' := by
      intro f w' hf h Z hZ
      refine hf _ w' _ ((Ok.emb (h) (.cons (A := kerP k A K) (by with_reducible first | exact sl0 | exact .there sl0 | exact .there sl1 | exact .there sl2 | exact .there sl3 | exact .there sl4 | exact .there sl5 | exact .there sl6 | exact .there sl7 | exact .there sl8 | exact .there sl9 | exact .there sl10 | exact .there sl11 | exact .there sl12) (.cons (A := old e) (by with_reducible first | exact sl0 | exact .there sl0 | exact .there sl1 | exact .there sl2 | exact .there sl3 | exact .there sl4 | exact .there sl5 | exact .there sl6 | exact .there sl7 | exact .there sl8 | exact .there sl9 | exact .there sl10 | exact .there sl11 | exact .there sl12) (.same _))))) fun w7 h => ⟨((r.1.1, r.1.2, ()), ()), rfl, ?_⟩
      have h : Ok e (pts c [.int .i64 0, .int .i64 0] :: pts d [.int .i64 0, .int .i64 0] :: pts b [.int .i64 (n : Int), .int .i64 x0, .int .i64 x1, .int .i64 x2, .int .i64 x3] :: kerP k A r.2 :: old e :: L) w7 := (h.emb (by repeat' (first | with_reducible exact Emb.same _ | exact Emb.nil _ | refine Emb.cons (by with_reducible first | exact sl0 | exact .there sl0 | exact .there sl1 | exact .there sl2 | exact .there sl3 | exact .there sl4 | exact .there sl5 | exact .there sl6 | exact .there sl7 | exact .there sl8 | exact .there sl9 | exact .there sl10 | exact .there sl11 | exact .there sl12) ?_ | refine Emb.skip ?_)))
      exact st1.mk h (by simp) fun w8 h => st1.mk h (by simp) fun w9 h => hZ w9 h
    refine jn.at (t := ()) (fun w' => Ok e (pts c [.int .i64 r.1.1, .int .i64 r.1.2] :: pts d [.int .i64 0, .int .i64 0] :: pts b [.int .i64 (n : Int), .int .i64 x0, .int .i64 x1, .int .i64 x2, .int .i64 x3] :: kerP k A r.2 :: old e :: L) w') (fun J hJ => ?_) (fun w' h => fin w' h)
    rcases hg with ⟨h2, hf⟩ | ⟨h2, h3, hf⟩ | ⟨h2, h3, hf⟩ | ⟨h2, h3, hf⟩ | ⟨h2, h3, hf⟩ | ⟨h2, h3, hf⟩ | ⟨h2, h3, hf⟩ | ⟨h2, hf⟩
    · exact cs.yes (by simp; omega) (ldI.mk (h.p2.cell rfl) (ldI.mk (h.p2.cell rfl) (ldI.mk (h.p2.cell rfl) (ldI.mk (h.p2.cell rfl) (ldI.mk (h.p2.cell rfl) (call79 (a0 := some ⟨k, 0, none⟩) (a1 := ((n : Int), x0, x1, x2, x3, ())) (run _ w6 hf h _ fun w'' h => hJ w'' h)))))))
    · refine cs.no (by simp; omega) (ldI.mk (h.p2.cell rfl) (jn.at (t := ()) (fun w' => Ok e (pts c [.int .i64 r.1.1, .int .i64 r.1.2] :: pts d [.int .i64 0, .int .i64 0] :: pts b [.int .i64 (n : Int), .int .i64 x0, .int .i64 x1, .int .i64 x2, .int .i64 x3] :: kerP k A r.2 :: old e :: L) w') (fun J0 hJ0 => ?_) (fun w' h => hJ w' h)))
      exact cs.yes (by simp; omega) (ldI.mk (h.p2.cell rfl) (ldI.mk (h.p2.cell rfl) (ldI.mk (h.p2.cell rfl) (ldI.mk (h.p2.cell rfl) (ldI.mk (h.p2.cell rfl) (call80 (a0 := some ⟨k, 0, none⟩) (a1 := ((n : Int), x0, x1, x2, x3, ())) (run _ w6 hf h _ fun w'' h => hJ0 w'' h)))))))
    · refine cs.no (by simp; omega) (ldI.mk (h.p2.cell rfl) (jn.at (t := ()) (fun w' => Ok e (pts c [.int .i64 r.1.1, .int .i64 r.1.2] :: pts d [.int .i64 0, .int .i64 0] :: pts b [.int .i64 (n : Int), .int .i64 x0, .int .i64 x1, .int .i64 x2, .int .i64 x3] :: kerP k A r.2 :: old e :: L) w') (fun J0 hJ0 => ?_) (fun w' h => hJ w' h)))
      refine cs.no (by simp; omega) (ldI.mk (h.p2.cell rfl) (jn.at (t := ()) (fun w' => Ok e (pts c [.int .i64 r.1.1, .int .i64 r.1.2] :: pts d [.int .i64 0, .int .i64 0] :: pts b [.int .i64 (n : Int), .int .i64 x0, .int .i64 x1, .int .i64 x2, .int .i64 x3] :: kerP k A r.2 :: old e :: L) w') (fun J1 hJ1 => ?_) (fun w' h => hJ0 w' h)))
      exact cs.yes (by simp; omega) (ldI.mk (h.p2.cell rfl) (ldI.mk (h.p2.cell rfl) (ldI.mk (h.p2.cell rfl) (ldI.mk (h.p2.cell rfl) (ldI.mk (h.p2.cell rfl) (call81 (a0 := some ⟨k, 0, none⟩) (a1 := ((n : Int), x0, x1, x2, x3, ())) (run _ w6 hf h _ fun w'' h => hJ1 w'' h)))))))
    · refine cs.no (by simp; omega) (ldI.mk (h.p2.cell rfl) (jn.at (t := ()) (fun w' => Ok e (pts c [.int .i64 r.1.1, .int .i64 r.1.2] :: pts d [.int .i64 0, .int .i64 0] :: pts b [.int .i64 (n : Int), .int .i64 x0, .int .i64 x1, .int .i64 x2, .int .i64 x3] :: kerP k A r.2 :: old e :: L) w') (fun J0 hJ0 => ?_) (fun w' h => hJ w' h)))
      refine cs.no (by simp; omega) (ldI.mk (h.p2.cell rfl) (jn.at (t := ()) (fun w' => Ok e (pts c [.int .i64 r.1.1, .int .i64 r.1.2] :: pts d [.int .i64 0, .int .i64 0] :: pts b [.int .i64 (n : Int), .int .i64 x0, .int .i64 x1, .int .i64 x2, .int .i64 x3] :: kerP k A r.2 :: old e :: L) w') (fun J1 hJ1 => ?_) (fun w' h => hJ0 w' h)))
      refine cs.no (by simp; omega) (ldI.mk (h.p2.cell rfl) (jn.at (t := ()) (fun w' => Ok e (pts c [.int .i64 r.1.1, .int .i64 r.1.2] :: pts d [.int .i64 0, .int .i64 0] :: pts b [.int .i64 (n : Int), .int .i64 x0, .int .i64 x1, .int .i64 x2, .int .i64 x3] :: kerP k A r.2 :: old e :: L) w') (fun J2 hJ2 => ?_) (fun w' h => hJ1 w' h)))
      exact cs.yes (by simp; omega) (ldI.mk (h.p2.cell rfl) (ldI.mk (h.p2.cell rfl) (ldI.mk (h.p2.cell rfl) (ldI.mk (h.p2.cell rfl) (ldI.mk (h.p2.cell rfl) (call82 (a0 := some ⟨k, 0, none⟩) (a1 := ((n : Int), x0, x1, x2, x3, ())) (run _ w6 hf h _ fun w'' h => hJ2 w'' h)))))))
    · refine cs.no (by simp; omega) (ldI.mk (h.p2.cell rfl) (jn.at (t := ()) (fun w' => Ok e (pts c [.int .i64 r.1.1, .int .i64 r.1.2] :: pts d [.int .i64 0, .int .i64 0] :: pts b [.int .i64 (n : Int), .int .i64 x0, .int .i64 x1, .int .i64 x2, .int .i64 x3] :: kerP k A r.2 :: old e :: L) w') (fun J0 hJ0 => ?_) (fun w' h => hJ w' h)))
      refine cs.no (by simp; omega) (ldI.mk (h.p2.cell rfl) (jn.at (t := ()) (fun w' => Ok e (pts c [.int .i64 r.1.1, .int .i64 r.1.2] :: pts d [.int .i64 0, .int .i64 0] :: pts b [.int .i64 (n : Int), .int .i64 x0, .int .i64 x1, .int .i64 x2, .int .i64 x3] :: kerP k A r.2 :: old e :: L) w') (fun J1 hJ1 => ?_) (fun w' h => hJ0 w' h)))
      refine cs.no (by simp; omega) (ldI.mk (h.p2.cell rfl) (jn.at (t := ()) (fun w' => Ok e (pts c [.int .i64 r.1.1, .int .i64 r.1.2] :: pts d [.int .i64 0, .int .i64 0] :: pts b [.int .i64 (n : Int), .int .i64 x0, .int .i64 x1, .int .i64 x2, .int .i64 x3] :: kerP k A r.2 :: old e :: L) w') (fun J2 hJ2 => ?_) (fun w' h => hJ1 w' h)))
      refine cs.no (by simp; omega) (ldI.mk (h.p2.cell rfl) (jn.at (t := ()) (fun w' => Ok e (pts c [.int .i64 r.1.1, .int .i64 r.1.2] :: pts d [.int .i64 0, .int .i64 0] :: pts b [.int .i64 (n : Int), .int .i64 x0, .int .i64 x1, .int .i64 x2, .int .i64 x3] :: kerP k A r.2 :: old e :: L) w') (fun J3 hJ3 => ?_) (fun w' h => hJ2 w' h)))
      exact cs.yes (by simp; omega) (ldI.mk (h.p2.cell rfl) (ldI.mk (h.p2.cell rfl) (ldI.mk (h.p2.cell rfl) (ldI.mk (h.p2.cell rfl) (ldI.mk (h.p2.cell rfl) (call83 (a0 := some ⟨k, 0, none⟩) (a1 := ((n : Int), x0, x1, x2, x3, ())) (run _ w6 hf h _ fun w'' h => hJ3 w'' h)))))))
    · refine cs.no (by simp; omega) (ldI.mk (h.p2.cell rfl) (jn.at (t := ()) (fun w' => Ok e (pts c [.int .i64 r.1.1, .int .i64 r.1.2] :: pts d [.int .i64 0, .int .i64 0] :: pts b [.int .i64 (n : Int), .int .i64 x0, .int .i64 x1, .int .i64 x2, .int .i64 x3] :: kerP k A r.2 :: old e :: L) w') (fun J0 hJ0 => ?_) (fun w' h => hJ w' h)))
      refine cs.no (by simp; omega) (ldI.mk (h.p2.cell rfl) (jn.at (t := ()) (fun w' => Ok e (pts c [.int .i64 r.1.1, .int .i64 r.1.2] :: pts d [.int .i64 0, .int .i64 0] :: pts b [.int .i64 (n : Int), .int .i64 x0, .int .i64 x1, .int .i64 x2, .int .i64 x3] :: kerP k A r.2 :: old e :: L) w') (fun J1 hJ1 => ?_) (fun w' h => hJ0 w' h)))
      refine cs.no (by simp; omega) (ldI.mk (h.p2.cell rfl) (jn.at (t := ()) (fun w' => Ok e (pts c [.int .i64 r.1.1, .int .i64 r.1.2] :: pts d [.int .i64 0, .int .i64 0] :: pts b [.int .i64 (n : Int), .int .i64 x0, .int .i64 x1, .int .i64 x2, .int .i64 x3] :: kerP k A r.2 :: old e :: L) w') (fun J2 hJ2 => ?_) (fun w' h => hJ1 w' h)))
      refine cs.no (by simp; omega) (ldI.mk (h.p2.cell rfl) (jn.at (t := ()) (fun w' => Ok e (pts c [.int .i64 r.1.1, .int .i64 r.1.2] :: pts d [.int .i64 0, .int .i64 0] :: pts b [.int .i64 (n : Int), .int .i64 x0, .int .i64 x1, .int .i64 x2, .int .i64 x3] :: kerP k A r.2 :: old e :: L) w') (fun J3 hJ3 => ?_) (fun w' h => hJ2 w' h)))
      refine cs.no (by simp; omega) (ldI.mk (h.p2.cell rfl) (jn.at (t := ()) (fun w' => Ok e (pts c [.int .i64 r.1.1, .int .i64 r.1.2] :: pts d [.int .i64 0, .int .i64 0] :: pts b [.int .i64 (n : Int), .int .i64 x0, .int .i64 x1, .int .i64 x2, .int .i64 x3] :: kerP k A r.2 :: old e :: L) w') (fun J4 hJ4 => ?_) (fun w' h => hJ3 w' h)))
      exact cs.yes (by simp; omega) (ldI.mk (h.p2.cell rfl) (ldI.mk (h.p2.cell rfl) (ldI.mk (h.p2.cell rfl) (ldI.mk (h.p2.cell rfl) (ldI.mk (h.p2.cell rfl) (call84 (a0 := some ⟨k, 0, none⟩) (a1 := ((n : Int), x0, x1, x2, x3, ())) (run _ w6 hf h _ fun w'' h => hJ4 w'' h)))))))
    · refine cs.no (by simp; omega) (ldI.mk (h.p2.cell rfl) (jn.at (t := ()) (fun w' => Ok e (pts c [.int .i64 r.1.1, .int .i64 r.1.2] :: pts d [.int .i64 0, .int .i64 0] :: pts b [.int .i64 (n : Int), .int .i64 x0, .int .i64 x1, .int .i64 x2, .int .i64 x3] :: kerP k A r.2 :: old e :: L) w') (fun J0 hJ0 => ?_) (fun w' h => hJ w' h)))
      refine cs.no (by simp; omega) (ldI.mk (h.p2.cell rfl) (jn.at (t := ()) (fun w' => Ok e (pts c [.int .i64 r.1.1, .int .i64 r.1.2] :: pts d [.int .i64 0, .int .i64 0] :: pts b [.int .i64 (n : Int), .int .i64 x0, .int .i64 x1, .int .i64 x2, .int .i64 x3] :: kerP k A r.2 :: old e :: L) w') (fun J1 hJ1 => ?_) (fun w' h => hJ0 w' h)))
      refine cs.no (by simp; omega) (ldI.mk (h.p2.cell rfl) (jn.at (t := ()) (fun w' => Ok e (pts c [.int .i64 r.1.1, .int .i64 r.1.2] :: pts d [.int .i64 0, .int .i64 0] :: pts b [.int .i64 (n : Int), .int .i64 x0, .int .i64 x1, .int .i64 x2, .int .i64 x3] :: kerP k A r.2 :: old e :: L) w') (fun J2 hJ2 => ?_) (fun w' h => hJ1 w' h)))
      refine cs.no (by simp; omega) (ldI.mk (h.p2.cell rfl) (jn.at (t := ()) (fun w' => Ok e (pts c [.int .i64 r.1.1, .int .i64 r.1.2] :: pts d [.int .i64 0, .int .i64 0] :: pts b [.int .i64 (n : Int), .int .i64 x0, .int .i64 x1, .int .i64 x2, .int .i64 x3] :: kerP k A r.2 :: old e :: L) w') (fun J3 hJ3 => ?_) (fun w' h => hJ2 w' h)))
      refine cs.no (by simp; omega) (ldI.mk (h.p2.cell rfl) (jn.at (t := ()) (fun w' => Ok e (pts c [.int .i64 r.1.1, .int .i64 r.1.2] :: pts d [.int .i64 0, .int .i64 0] :: pts b [.int .i64 (n : Int), .int .i64 x0, .int .i64 x1, .int .i64 x2, .int .i64 x3] :: kerP k A r.2 :: old e :: L) w') (fun J4 hJ4 => ?_) (fun w' h => hJ3 w' h)))
      refine cs.no (by simp; omega) (ldI.mk (h.p2.cell rfl) (jn.at (t := ()) (fun w' => Ok e (pts c [.int .i64 r.1.1, .int .i64 r.1.2] :: pts d [.int .i64 0, .int .i64 0] :: pts b [.int .i64 (n : Int), .int .i64 x0, .int .i64 x1, .int .i64 x2, .int .i64 x3] :: kerP k A r.2 :: old e :: L) w') (fun J5 hJ5 => ?_) (fun w' h => hJ4 w' h)))
      exact cs.yes (by simp; omega) (ldI.mk (h.p2.cell rfl) (ldI.mk (h.p2.cell rfl) (ldI.mk (h.p2.cell rfl) (ldI.mk (h.p2.cell rfl) (ldI.mk (h.p2.cell rfl) (call85 (a0 := some ⟨k, 0, none⟩) (a1 := ((n : Int), x0, x1, x2, x3, ())) (run _ w6 hf h _ fun w'' h => hJ5 w'' h)))))))
    · refine cs.no (by simp; omega) (ldI.mk (h.p2.cell rfl) (jn.at (t := ()) (fun w' => Ok e (pts c [.int .i64 r.1.1, .int .i64 r.1.2] :: pts d [.int .i64 0, .int .i64 0] :: pts b [.int .i64 (n : Int), .int .i64 x0, .int .i64 x1, .int .i64 x2, .int .i64 x3] :: kerP k A r.2 :: old e :: L) w') (fun J0 hJ0 => ?_) (fun w' h => hJ w' h)))
      refine cs.no (by simp; omega) (ldI.mk (h.p2.cell rfl) (jn.at (t := ()) (fun w' => Ok e (pts c [.int .i64 r.1.1, .int .i64 r.1.2] :: pts d [.int .i64 0, .int .i64 0] :: pts b [.int .i64 (n : Int), .int .i64 x0, .int .i64 x1, .int .i64 x2, .int .i64 x3] :: kerP k A r.2 :: old e :: L) w') (fun J1 hJ1 => ?_) (fun w' h => hJ0 w' h)))
      refine cs.no (by simp; omega) (ldI.mk (h.p2.cell rfl) (jn.at (t := ()) (fun w' => Ok e (pts c [.int .i64 r.1.1, .int .i64 r.1.2] :: pts d [.int .i64 0, .int .i64 0] :: pts b [.int .i64 (n : Int), .int .i64 x0, .int .i64 x1, .int .i64 x2, .int .i64 x3] :: kerP k A r.2 :: old e :: L) w') (fun J2 hJ2 => ?_) (fun w' h => hJ1 w' h)))
      refine cs.no (by simp; omega) (ldI.mk (h.p2.cell rfl) (jn.at (t := ()) (fun w' => Ok e (pts c [.int .i64 r.1.1, .int .i64 r.1.2] :: pts d [.int .i64 0, .int .i64 0] :: pts b [.int .i64 (n : Int), .int .i64 x0, .int .i64 x1, .int .i64 x2, .int .i64 x3] :: kerP k A r.2 :: old e :: L) w') (fun J3 hJ3 => ?_) (fun w' h => hJ2 w' h)))
      refine cs.no (by simp; omega) (ldI.mk (h.p2.cell rfl) (jn.at (t := ()) (fun w' => Ok e (pts c [.int .i64 r.1.1, .int .i64 r.1.2] :: pts d [.int .i64 0, .int .i64 0] :: pts b [.int .i64 (n : Int), .int .i64 x0, .int .i64 x1, .int .i64 x2, .int .i64 x3] :: kerP k A r.2 :: old e :: L) w') (fun J4 hJ4 => ?_) (fun w' h => hJ3 w' h)))
      refine cs.no (by simp; omega) (ldI.mk (h.p2.cell rfl) (jn.at (t := ()) (fun w' => Ok e (pts c [.int .i64 r.1.1, .int .i64 r.1.2] :: pts d [.int .i64 0, .int .i64 0] :: pts b [.int .i64 (n : Int), .int .i64 x0, .int .i64 x1, .int .i64 x2, .int .i64 x3] :: kerP k A r.2 :: old e :: L) w') (fun J5 hJ5 => ?_) (fun w' h => hJ4 w' h)))
      refine cs.no (by simp; omega) ?_
      exact ldI.mk (h.p2.cell rfl) (ldI.mk (h.p2.cell rfl) (ldI.mk (h.p2.cell rfl) (ldI.mk (h.p2.cell rfl) (ldI.mk (h.p2.cell rfl) (call86 (a0 := some ⟨k, 0, none⟩) (a1 := ((n : Int), x0, x1, x2, x3, ())) (run _ w6 hf h _ fun w'' h => hJ5 w'' h))))))


end Go.Proofs.YtenonfkfoedfmaaGreatDoor.B


/- The task that a call names; steps at the end of a call. -/
namespace Go.Proofs.YtenonfkfoedfmaaGreatDoor.B
open Go
set_option linter.unusedVariables false

/-- does a call name no task? -/
def noName (n : Nat) : Bool := [4, 8, 9, 10, 11, 12, 13, 22].contains n

def other (n : Nat) : Bool := [5, 17, 20, 21].contains n

def nmd (K : KM) (n : Nat) (kd x : Int) : Int := if noName n = true then K.who else K.named x (!other n && decide (kd ≠ 3))

theorem named_kern {e w L k A K R} {n : Nat} {a kd x0 x1 x2 x3 : Int} (h : Ok e (kerP k A K :: L) w) (hn : akL[n]? = some (a, kd)) (h0 : 0 < n) (h22 : n ≤ 22)
    (kk : ∀ w', Ok e (kerP k A K :: L) w' → R [.int .i64 (nmd K n kd x0)] w') : sh130 (some ⟨k, 0, none⟩) ((n : Int), x0, x1, x2, x3, ()) R w := by
  obtain ⟨ho, h⟩ := kerE h
  have hul := ptrsB_len h.p1
  have hus := ho.us
  unfold sh130
  refine al.mk h fun b w1 h => ldI.mk (h.cell rfl) ?_
  have who : noName n = true → nn (some ⟨k, 0, none⟩) fun b8 o9 => ldI w1 .i64 b8 (o9 + 12) fun n10 => R [.int .i64 n10] w1 := fun hw => nn.mk (ldI.mk (h.p1.cell rfl) (by
    have := kk w1 (kerI ho h.drop)
    unfold nmd at this
    rw [if_pos hw] at this
    exact this))
  have hk2 : ∀ w2, Ok e (pts b [.int .i64 (n : Int), .int .i64 x0, .int .i64 x1, .int .i64 x2, .int .i64 x3] :: pts k (kC A K) :: unitsP A.ub A.us K.us :: kR A K L) w2 → ∀ z, nmd K n kd x0 = z → R [.int .i64 z] w2 := fun w2 h z hz => hz ▸ kk w2 (kerI ho h.drop)
  clear kk
  refine jn.bool (noName n) (fun J hJ => ?_) (cs.mk (fun hw => who hw) (fun hw => ?_))
  · clear who hk2 h
    have hc : n = 1 ∨ n = 2 ∨ n = 3 ∨ n = 4 ∨ n = 5 ∨ n = 6 ∨ n = 7 ∨ n = 8 ∨ n = 9 ∨ n = 10 ∨ n = 11 ∨ n = 12 ∨ n = 13 ∨ n = 14 ∨ n = 15 ∨ n = 16 ∨ n = 17 ∨ n = 18 ∨ n = 19 ∨ n = 20 ∨ n = 21 ∨ n = 22 := by omega
    rcases hc with rfl | rfl | rfl | rfl | rfl | rfl | rfl | rfl | rfl | rfl | rfl | rfl | rfl | rfl | rfl | rfl | rfl | rfl | rfl | rfl | rfl | rfl
    all_goals (repeat (first | ((with_reducible refine cs.yes ?_ ?_); · rfl) | ((with_reducible refine cs.no ?_ ?_); · rfl) | refine jn.mk fun J hJ => ?_ | with_reducible apply_assumption -exfalso -symm))
  refine ⟨by decide, by decide, ldI.mk (h.cell rfl) ?_⟩
  have hnm : nmd K n kd x0 = K.named x0 (!other n && decide (kd ≠ 3)) := by unfold nmd; rw [if_neg (by intro hc; rw [show noName n = false from hw] at hc; cases hc)]
  rw [hnm] at hk2
  refine jn.bool (decide (1 ≤ x0 ∧ x0 ≤ K.us.length)) (fun J hJ => ?_) (cs.mk (fun h1 => ?_) (fun h1 => ?_))
  · refine cs.mk (fun h1 => ?_) (fun h1 => ?_)
    · have h1 : x0 ≥ 1 := of_decide_eq_true h1
      refine nn.mk (ldS.mk (h.p1.cell rfl) ?_)
      rw [show decide ((x0 : Int) < ((A.us.len : Int) : Int)) = decide (1 ≤ x0 ∧ x0 ≤ K.us.length) from decide_eq_decide.2 (by simp at hul; omega)]
      exact hJ
    · have h1 : ¬ x0 ≥ 1 := of_decide_eq_false h1
      rw [show decide (1 ≤ x0 ∧ x0 ≤ K.us.length) = false from decide_eq_false (by omega)] at hJ
      exact hJ
  · have h1 := of_decide_eq_true h1
    exact hk2 w1 h x0 (if_pos h1)
  have h1 := of_decide_eq_false h1
  refine ldI.mk (h.cell rfl) (jn.bool (other n) (fun J hJ => ?_) (cs.mk (fun h2 => ?_) (fun h2 => ?_)))
  · clear who hk2 h
    have hc : n = 1 ∨ n = 2 ∨ n = 3 ∨ n = 4 ∨ n = 5 ∨ n = 6 ∨ n = 7 ∨ n = 8 ∨ n = 9 ∨ n = 10 ∨ n = 11 ∨ n = 12 ∨ n = 13 ∨ n = 14 ∨ n = 15 ∨ n = 16 ∨ n = 17 ∨ n = 18 ∨ n = 19 ∨ n = 20 ∨ n = 21 ∨ n = 22 := by omega
    rcases hc with rfl | rfl | rfl | rfl | rfl | rfl | rfl | rfl | rfl | rfl | rfl | rfl | rfl | rfl | rfl | rfl | rfl | rfl | rfl | rfl | rfl | rfl
    all_goals (repeat (first | ((with_reducible refine cs.yes ?_ ?_); · rfl) | ((with_reducible refine cs.no ?_ ?_); · rfl) | refine jn.mk fun J hJ => ?_ | with_reducible apply_assumption -exfalso -symm))
  · have h2 : other n = true := h2
    refine hk2 w1 h 0 ?_
    unfold KM.named
    rw [if_neg h1, if_neg (by rw [h2]; simp)]
  · have h2 : other n = false := h2
    refine ⟨by decide, by decide, ldI.mk (h.cell rfl) (jn.mk fun J hJ => cs.mk (fun h3 => ?_) (fun h3 => ?_))⟩
    · have h3 : x0 = 0 := by simpa using h3
      refine ldI.mk (h.cell rfl) (ldI.mk (h.cell rfl) (ldI.mk (h.cell rfl) (ldI.mk (h.cell rfl) (ldI.mk (h.cell rfl) ?_))))
      refine call42 (a0 := ((n : Int), x0, x1, x2, x3, ())) (Kind_calls h hn h0 fun w2 h => ⟨(kd, ()), rfl, hJ _ _ (cs.mk (fun h4 => ?_) (fun h4 => ?_))⟩)
      · have h4 : ¬ kd = 3 := by simpa using h4
        refine nn.mk (ldI.mk (h.p1.cell rfl) (hk2 w2 h _ ?_))
        unfold KM.named
        rw [if_neg h1, if_pos ⟨h3, by rw [h2, decide_eq_true h4]; rfl⟩]
      · have h4 : kd = 3 := by simpa using h4
        refine hk2 w2 h 0 ?_
        unfold KM.named
        rw [if_neg h1, if_neg (by rw [decide_eq_false (fun hc => hc h4)]; simp)]
    · have h3 : ¬ x0 = 0 := by simpa using h3
      refine hJ _ _ (cs.no rfl (hk2 w1 h 0 ?_))
      unfold KM.named
      rw [if_neg h1, if_neg (fun hc => h3 hc.1)]

section
variable {e : World} {L : List SP} {w : World} {d : Nat} {c v : Int} {R : List Value → World → Prop}

/-- a call ends with a code alone -/
theorem fin_code (h : Ok e (pts d [.int .i64 0, .int .i64 0] :: L) w) (k : ∀ w', Ok e L w' → R [.agg #[.int .i64 c, .int .i64 0]] w') :
    cl Pg 77 [.int .i64 c, .slice none 0 0] [.a [(.i .i64), (.i .i64)]] w fun (r : (Int × Int × Unit) × Unit) w1 => st1 w1 d 0 (.int .i64 r.1.1) fun w2 => st1 w2 d (0 + 1) (.int .i64 r.1.2.1) fun w3 => ldI w3 .i64 d 0 fun n => ldI w3 .i64 d (0 + 1) fun m => R [.agg #[.int .i64 n, .int .i64 m]] w3 := by
  refine call77 (a1 := ⟨none, 0, 0⟩) (say_code h rfl fun w1 h => ⟨((c, (0 : Int), ()), ()), rfl, ?_⟩)
  exact st1.mk h (by simp) fun w2 h => st1.mk h (by simp) fun w3 h => ldI.mk (h.cell rfl) (ldI.mk (h.cell rfl) (k w3 h.drop))

/-- a call ends with a value -/
theorem fin_val (h : Ok e (pts d [.int .i64 0, .int .i64 0] :: L) w) (k : ∀ w', Ok e L w' → R [.agg #[.int .i64 0, .int .i64 v]] w') :
    al w 2 [.int .i64 v] fun b w0 => cl Pg 77 [.int .i64 0, vS ⟨some ⟨b, 0, none⟩, 1, 1⟩] [.a [(.i .i64), (.i .i64)]] w0 fun (r : (Int × Int × Unit) × Unit) w1 => st1 w1 d 0 (.int .i64 r.1.1) fun w2 => st1 w2 d (0 + 1) (.int .i64 r.1.2.1) fun w3 => ldI w3 .i64 d 0 fun n => ldI w3 .i64 d (0 + 1) fun m => R [.agg #[.int .i64 n, .int .i64 m]] w3 := by
  refine al.mk h fun b w1 h => ?_
  have h : Ok e (slc 1 ⟨some ⟨b, 0, none⟩, 1, 1⟩ (ints [v]) :: pts d [.int .i64 0, .int .i64 0] :: L) w1 := Ok.slcNew (vs := ints [v]) h rfl (ints_one [v])
  refine call77 (a1 := ⟨some ⟨b, 0, none⟩, 1, 1⟩) (say_val h fun w1 h => ⟨(((0 : Int), v, ()), ()), rfl, ?_⟩)
  exact st1.mk h (by simp) fun w2 h => st1.mk h (by simp) fun w3 h => ldI.mk (h.cell rfl) (ldI.mk (h.cell rfl) (k w3 h.drop))

/-- what a call answers is kept -/
theorem fin_res (h : Ok e (pts d [.int .i64 0, .int .i64 0] :: L) w) (k : ∀ w', Ok e L w' → R [.agg #[.int .i64 c, .int .i64 v]] w') :
    st1 w d 0 (.int .i64 c) fun w2 => st1 w2 d (0 + 1) (.int .i64 v) fun w3 => ldI w3 .i64 d 0 fun n => ldI w3 .i64 d (0 + 1) fun m => R [.agg #[.int .i64 n, .int .i64 m]] w3 :=
  st1.mk h (by simp) fun w2 h => st1.mk h (by simp) fun w3 h => ldI.mk (h.cell rfl) (ldI.mk (h.cell rfl) (k w3 h.drop))

end

end Go.Proofs.YtenonfkfoedfmaaGreatDoor.B


/- Configurations: checked, laid out. -/
namespace Go.Proofs.YtenonfkfoedfmaaGreatDoor.B
open Go
set_option linter.unusedVariables false

/-- where a configuration's rows lie -/
structure CfS where
  ts : Sl
  ss : Sl
  ds : Sl
  ms : Sl
  ps : Sl

def taC (x : Int × Bool) : List Value := [.int .i64 x.1, .bool x.2]

def seC (x : Bool × Int × Int) : List Value := [.bool x.1, .int .i64 x.2.1, .int .i64 x.2.2]

def daC (x : Bool × Int) : List Value := [.bool x.1, .int .i64 x.2]

theorem taC_len (a : Int × Bool) : (taC a).length = 2 := rfl

theorem seC_len (a : Bool × Int × Int) : (seC a).length = 3 := rfl

theorem daC_len (a : Bool × Int) : (daC a).length = 2 := rfl

theorem taC_one (a : Int × Bool) : ∀ v ∈ taC a, v.oneCell' = true := by
  intro v hv
  simp [taC] at hv
  rcases hv with rfl | rfl <;> rfl

abbrev cfC (c : ConfM) (S : CfS) : List Value := [.int .i64 c.tic, vS S.ts, vS S.ss, vS ⟨none, 0, 0⟩, vS S.ds, vS S.ms, vS S.ps, vS ⟨none, 0, 0⟩, .int .i64 0]

abbrev cfR (c : ConfM) (S : CfS) (L : List SP) : List SP :=
  slc 2 S.ts (flat taC c.tasks) :: slc 3 S.ss (flat seC c.sems) :: slc 2 S.ds (flat daC c.datas) :: slc 2 S.ms (flat kdC c.mtxs) :: slc 3 S.ps (flat seC c.pools) :: L

abbrev cfV (c : ConfM) (S : CfS) : (Int × Sl × Sl × Sl × Sl × Sl × Sl × Sl × Int × Unit) := (c.tic, S.ts, S.ss, ⟨none, 0, 0⟩, S.ds, S.ms, S.ps, ⟨none, 0, 0⟩, 0, ())

theorem kdC_one1 (a : Int × Int) : ∀ v ∈ kdC a, v.oneCell' = true := by
  intro v hv
  simp [kdC] at hv
  rcases hv with rfl | rfl <;> rfl

theorem mul_bd2 {a b : Int} (ha : 0 ≤ a ∧ a ≤ 256) (hb : 0 ≤ b ∧ b ≤ 4096) : 0 ≤ a * b ∧ a * b ≤ 1048576 :=
  ⟨Int.mul_nonneg ha.1 hb.1, Int.le_trans (Int.mul_le_mul_of_nonneg_right ha.2 hb.1) (by omega)⟩

theorem Align_nums0 {w z} {R : List Value → World → Prop} (hz : 0 ≤ z ∧ z ≤ 1073741824) (k : R [.int .i64 (stp z)] w) : sh127 z 4 R w := by
  unfold sh127
  refine jn.bool (false) (fun J hJ => ?_) ?_
  · refine cs.no (decide_eq_false (by omega)) ?_
    rw [show decide (z > 1073741824) = false from decide_eq_false (by omega)]
    exact hJ
  refine jn.bool (false) (fun J hJ => ?_) ?_
  · exact cs.no rfl hJ
  refine jn.bool (false) (fun J hJ => ?_) ?_
  · exact cs.no rfl hJ
  refine cs.no rfl (ob.mk (by decide) ?_)
  rw [w64_in (x := z + 4) (by omega) (by omega), w64_in (x := z + 4 - 1) (by omega) (by omega), Int.tdiv_eq_ediv_of_nonneg (by omega), w64_in (x := (z + 4 - 1) / 4) (by omega) (by omega), w64_in (by omega) (by omega), show z + 4 - 1 = z + 3 by omega]
  exact k

theorem next_conf {e w L a p R} (h : Ok e L w) (ha : 0 ≤ a ∧ a ≤ 1048576) (hp : 1 ≤ p.2.1 ∧ p.2.1 ≤ 256 ∧ 1 ≤ p.2.2.1 ∧ p.2.2.1 ≤ 4096) (k : ∀ w', Ok e L w' → R [.int .i64 (stp a), .int .i64 (stp a + p.2.1 * stp p.2.2.1)] w') : sh71 a p R w := by
  unfold sh71
  have hm := mul_bd2 (a := p.2.1) (b := stp p.2.2.1) (by omega) (by have := stp_bd hp.2.2; omega)
  have ha4 : 0 ≤ stp a ∧ stp a ≤ 1048580 := by unfold stp; omega
  refine al.mk h fun b w1 h => ?_
  refine call127 (Align_nums0 (by omega) ⟨(stp a, ()), rfl, ldI.mk (h.cell rfl) ?_⟩)
  refine jn.bool (false) (fun J hJ => ?_) ?_
  · refine cs.no (decide_eq_false (by omega)) (ldI.mk (h.cell rfl) ?_)
    rw [show decide (p.2.1 > 65536) = false from decide_eq_false (by omega)]
    exact hJ
  refine jn.bool (false) (fun J hJ => ?_) ?_
  · refine cs.no rfl (ldI.mk (h.cell rfl) ?_)
    rw [show decide (p.2.2.1 < 0) = false from decide_eq_false (by omega)]
    exact hJ
  refine jn.bool (false) (fun J hJ => ?_) ?_
  · refine cs.no rfl (ldI.mk (h.cell rfl) ?_)
    rw [show decide (p.2.2.1 > 65536) = false from decide_eq_false (by omega)]
    exact hJ
  refine cs.no rfl (dr.mk h fun w2 h => ldI.mk (h.cell rfl) (ldI.mk (h.cell rfl) ?_))
  refine call127 (Align_nums0 (by omega) ⟨(stp p.2.2.1, ()), rfl, h.cell rfl, ?_⟩)
  have h5 : w64 (p.2.1 * stp p.2.2.1) = p.2.1 * stp p.2.2.1 := w64_in (by omega) (by omega)
  rw [h5, w64_in (by omega) (by omega)]
  exact k _ h.drop

theorem pools_get {ps : List (Bool × Int × Int)} {a : Int} {i : Nat} {p} (h : poolsOk a ps = true) (hp : ps[i]? = some p) : mpGood (stp (bytesM a (ps.take i))) p.2.1 p.2.2 ∧ bytesM a (ps.take (i + 1)) = stp (bytesM a (ps.take i)) + p.2.1 * stp p.2.2 := by
  induction ps generalizing a i with
  | nil => simp at hp
  | cons q ps ih =>
    simp only [poolsOk, Bool.and_eq_true, decide_eq_true_eq] at h
    cases i with
    | zero => cases hp; exact ⟨h.1, rfl⟩
    | succ i => exact ih h.2 (by simpa using hp)

theorem pools_bd {ps : List (Bool × Int × Int)} (h : poolsOk 0 ps = true) (i : Nat) : 0 ≤ bytesM 0 (ps.take i) ∧ bytesM 0 (ps.take i) ≤ 65536 := by
  induction i with
  | zero => simp [bytesM]
  | succ i ih =>
    by_cases hi : i < ps.length
    · obtain ⟨h1, h2⟩ := pools_get h (List.getElem?_eq_getElem hi)
      rw [h2]
      obtain ⟨h3, h4, -, h5, h6, h7, h8, h9⟩ := h1
      have := mul_bd2 (a := ps[i].2.1) (b := stp ps[i].2.2) (by omega) (by have := stp_bd ⟨h7, h8⟩; omega)
      omega
    · rw [List.take_of_length_le (by omega)] at ih ⊢
      exact ih

theorem Check1 {e w L b c S R} {i : Int} (h : Ok e (pts b (cfC c S) :: slc 2 S.ts (flat taC c.tasks) :: L) w) (hi : 0 ≤ i ∧ i < c.tasks.length) (ht : ∀ x ∈ c.tasks, 1 ≤ x.1 ∧ x.1 ≤ 16) (k : R [.int .i64 0] w) : sh174 i b R w := by
  unfold sh174
  refine ldS.mk (h.cell rfl) (ix_flat taC_len (by decide) h.p1 (by omega) (by omega) fun b2 o y hy _ _ hc => ldI.mk (hc 0 _ rfl _ ⟨_, h.p1⟩) ?_)
  have hy := ht y (List.mem_of_getElem? hy)
  refine jn.bool (false) (fun J hJ => ?_) ?_
  · refine cs.no (decide_eq_false (by omega)) ?_
    rw [show decide (y.1 > 16) = false from decide_eq_false (by omega)]
    exact hJ
  exact cs.no rfl k

theorem Check2 {e w L b c S R} {i : Int} (h : Ok e (pts b (cfC c S) :: slc 3 S.ss (flat seC c.sems) :: L) w) (hi : 0 ≤ i ∧ i < c.sems.length) (ht : ∀ x ∈ c.sems, semOk x.2.1 x.2.2) (k : ∀ w', Ok e (pts b (cfC c S) :: slc 3 S.ss (flat seC c.sems) :: L) w' → R [.int .i64 0] w') : sh176 i b R w := by
  unfold sh176
  refine dr.mk h fun w1 h => ldS.mk (h.cell rfl) (ix_flat seC_len (by decide) h.p1 (by omega) (by omega) fun b2 o2 y hy _ _ hc => ldB.mk (hc 0 _ rfl _ ⟨_, h.p1⟩) ?_)
  refine ldS.mk (h.cell rfl) (ix_flat seC_len (by decide) h.p1 (by omega) (by omega) fun b3 o3 y3 hy3 _ _ hc3 => ldI.mk (hc3 1 _ rfl _ ⟨_, h.p1⟩) ?_)
  refine ldS.mk (h.cell rfl) (ix_flat seC_len (by decide) h.p1 (by omega) (by omega) fun b4 o4 y4 hy4 _ _ hc4 => ldI.mk (hc4 2 _ rfl _ ⟨_, h.p1⟩) ?_)
  rw [hy] at hy3 hy4; cases hy3; cases hy4
  refine call43 (New_sem h (fun hn => absurd (ht y (List.mem_of_getElem? hy)) hn) fun _ s p w2 h => ⟨(some ⟨s, 0, none⟩, (0 : Int), ()), rfl, k w2 h.drop.drop⟩)

theorem Check3 {e w L b c S R} {i : Int} (h : Ok e (pts b (cfC c S) :: slc 2 S.ds (flat daC c.datas) :: L) w) (hi : 0 ≤ i ∧ i < c.datas.length) (ht : ∀ x ∈ c.datas, 0 ≤ x.2 ∧ x.2 ≤ 64) (k : ∀ w', Ok e (pts b (cfC c S) :: slc 2 S.ds (flat daC c.datas) :: L) w' → R [.int .i64 0] w') : sh178 i b R w := by
  unfold sh178
  refine dr.mk h fun w1 h => ldS.mk (h.cell rfl) (ix_flat daC_len (by decide) h.p1 (by omega) (by omega) fun b2 o2 y hy _ _ hc => ldB.mk (hc 0 _ rfl _ ⟨_, h.p1⟩) ?_)
  refine ldS.mk (h.cell rfl) (ix_flat daC_len (by decide) h.p1 (by omega) (by omega) fun b3 o3 y3 hy3 _ _ hc3 => ldI.mk (hc3 1 _ rfl _ ⟨_, h.p1⟩) ?_)
  rw [hy] at hy3; cases hy3
  refine call179 (New_dtq h (fun hn => absurd (ht y (List.mem_of_getElem? hy)) hn) fun _ s w2 h => ⟨(some ⟨s, 0, none⟩, (0 : Int), ()), rfl, k w2 h.drop⟩)

theorem Check4 {e w L b c S R} {i : Int} (h : Ok e (pts b (cfC c S) :: slc 2 S.ms (flat kdC c.mtxs) :: L) w) (hi : 0 ≤ i ∧ i < c.mtxs.length) (ht : ∀ x ∈ c.mtxs, MM.right x = true) (k : ∀ w', Ok e (pts b (cfC c S) :: slc 2 S.ms (flat kdC c.mtxs) :: L) w' → R [.int .i64 0] w') : sh180 i b R w := by
  unfold sh180
  refine ldS.mk (h.cell rfl) (ix_flat kdC_len (by decide) h.p1 (by omega) (by omega) fun b2 o2 y hy _ _ hc => ldI.mk (hc 0 _ rfl _ ⟨_, h.p1⟩) (ldI.mk (hc 1 _ rfl _ ⟨_, h.p1⟩) ?_))
  refine al.mk h fun b3 w1 h => ?_
  have h : Ok e (slc 2 ⟨some ⟨b3, 0, none⟩, 1, 1⟩ (flat kdC [y]) :: pts b (cfC c S) :: slc 2 S.ms (flat kdC c.mtxs) :: L) w1 := Ok.slcNew (vs := flat kdC [y]) h rfl (flat_one kdC_one1)
  refine call30 (a0 := ⟨some ⟨b3, 0, none⟩, 1, 1⟩) (New_mtx h (by simp) (fun z hz => ?_) fun a w2 h => ⟨(some ⟨a, 0, none⟩, (0 : Int), ()), rfl, k w2 h.drop.drop⟩)
  rw [List.mem_singleton.1 hz]
  exact ht y (List.mem_of_getElem? hy)

theorem Check5 {e w L b d c S R} {i : Nat} (h : Ok e (pts d [.int .i64 (bytesM 0 (c.pools.take i))] :: pts b (cfC c S) :: slc 3 S.ps (flat seC c.pools) :: L) w) (hi : i < c.pools.length) (ht : poolsOk 0 c.pools = true) (k : ∀ w', Ok e (pts d [.int .i64 (bytesM 0 (c.pools.take (i + 1)))] :: pts b (cfC c S) :: slc 3 S.ps (flat seC c.pools) :: L) w' → R [.int .i64 0] w') : sh181 (i : Int) d b R w := by
  unfold sh181
  obtain ⟨hg, hn⟩ := pools_get ht (List.getElem?_eq_getElem hi)
  rw [hn] at k
  have hbd := pools_bd ht i
  have hg2 := hg
  obtain ⟨-, -, -, g1, g2, g3, g4, -⟩ := hg2
  have rd : ∀ {w1 L1} {g : Nat → Nat → Prop}, Ok e (slc 3 S.ps (flat seC c.pools) :: L1) w1 → (∀ b2 o2, (∀ w', (∃ L', Ok e (slc 3 S.ps (flat seC c.pools) :: L') w') → w'.cell? ⟨b2, o2, none⟩ = some (.bool c.pools[i].1) ∧ w'.cell? ⟨b2, o2 + 1, none⟩ = some (.int .i64 c.pools[i].2.1) ∧ w'.cell? ⟨b2, o2 + 2, none⟩ = some (.int .i64 c.pools[i].2.2)) → g b2 o2) → ix S.ps (i : Int) 3 g := by
    intro w1 L1 g h hg
    refine ix_flat seC_len (by decide) h (by omega) (by omega) fun b2 o2 y hy _ _ hc => hg b2 o2 fun w' hw' => ?_
    rw [Int.toNat_natCast, List.getElem?_eq_getElem hi] at hy
    cases hy
    exact ⟨hc 0 _ rfl w' hw', hc 1 _ rfl w' hw', hc 2 _ rfl w' hw'⟩
  refine dr.mk h fun w1 h => ldI.mk (h.cell rfl) (ldS.mk (h.p1.cell rfl) (rd h.p2 fun b2 o2 hc => ldB.mk (hc w1 ⟨_, h.p2⟩).1 (ldI.mk (hc w1 ⟨_, h.p2⟩).2.1 (ldI.mk (hc w1 ⟨_, h.p2⟩).2.2 ?_))))
  refine call71 (a1 := (c.pools[i].1, c.pools[i].2.1, c.pools[i].2.2, ())) (next_conf h (by omega) ⟨g1, g2, g3, g4⟩ fun w2 h => ⟨(stp (bytesM 0 (c.pools.take i)), stp (bytesM 0 (c.pools.take i)) + c.pools[i].2.1 * stp c.pools[i].2.2, ()), rfl, ?_⟩)
  refine dr.mk h fun w1 h => (ldS.mk (h.p1.cell rfl) (rd h.p2 fun b2 o2 hc => ldB.mk (hc w1 ⟨_, h.p2⟩).1 ?_))
  refine ldS.mk (h.p1.cell rfl) (rd h.p2 fun b2 o2 hc => ldI.mk (hc w1 ⟨_, h.p2⟩).2.1 ?_)
  refine ldS.mk (h.p1.cell rfl) (rd h.p2 fun b2 o2 hc => ldI.mk (hc w1 ⟨_, h.p2⟩).2.2 ?_)
  refine call182 (NewPool_mpf h (fun w2 h hn => absurd hg hn) fun _ s w2 h => ⟨(some ⟨s, 0, none⟩, (0 : Int), ()), rfl, ?_⟩)
  exact st1.mk h.p1 (by simp) fun w3 h => k w3 h.p1.drop

theorem objects_conf {e w L nm n f R} (h : Ok e L w) (k : ∀ w', Ok e L w' → R [.agg #[.string nm, .string nm, .int .i64 n, .int .i64 0, .int .i64 8, vF f]] w') : sh175 nm n f R w := by
  unfold sh175
  refine al.mk h fun b w1 h => ?_
  refine st1.mk h (by simp) fun w1 h => st1.mk h (by simp) fun w1 h => st1.mk h (by simp) fun w1 h => st1.mk h (by simp) fun w1 h => st1.mk h (by simp) fun w1 h => st1.mk h (by simp) fun w1 h => ?_
  exact ⟨_, h.cell rfl, _, h.cell rfl, _, h.cell rfl, _, h.cell rfl, _, h.cell rfl, _, h.cell rfl, k w1 h.drop⟩

/-- a part of a configuration -/
structure PtD where
  nm : ByteArray
  al : ByteArray
  n : Nat
  lo : Nat
  hi : Nat
  f : Fv

def ptC (p : PtD) : List Value := [.string p.nm, .string p.al, .int .i64 p.n, .int .i64 p.lo, .int .i64 p.hi, vF p.f]

theorem ptC_len (a : PtD) : (ptC a).length = 6 := rfl

theorem ptC_one (a : PtD) : ∀ v ∈ ptC a, v.oneCell' = true := by
  intro v hv
  simp [ptC] at hv
  rcases hv with rfl | rfl | rfl | rfl | rfl | rfl <;> rfl

theorem first_conf {e w R s M} {ps : List PtD} (P : Nat → Nat → SP) (h : Ok e (slc 6 s (flat ptC ps) :: P 0 0 :: M) w) (hl : ps.length ≤ 8)
    (hp : ∀ j p, ps[j]? = some p → p.lo ≤ p.n ∧ p.n ≤ p.hi ∧ p.hi ≤ 16 ∧ enterable Pg p.f.fid = true ∧ P j p.n = P (j + 1) 0 ∧ ∀ i, i < p.n → ∀ L w (K : TK [kI] → World → Prop), Ok e (P j i :: L) w → (∀ w', Ok e (P j (i + 1) :: L) w' → K ((0 : Int), ()) w') → cl Pg p.f.fid (p.f.pre ++ ([.int .i64 (i : Int)] ++ p.f.post)) [kI] w K)
    (k : ∀ w', Ok e (P ps.length 0 :: M) w' → R [.string (bs []), .int .i64 0, .int .i64 0] w') : sh173 s R w := by
  unfold sh173
  have hsl : ps.length = s.len := slc_flat_len ptC_len (by decide) h
  refine lp.mk (fun t w1 => ∃ j : Nat, @Eq Int t.1 (j : Int) ∧ j ≤ ps.length ∧ Ok e (slc 6 s (flat ptC ps) :: P j 0 :: M) w1) (fun t _ => Int.toNat (Int.sub ps.length t.1)) ⟨0, rfl, by omega, h⟩ ?_
  rintro ⟨(t : Int), _⟩ w1 ⟨j, (rfl : t = (j : Int)), hj, h⟩
  refine cs.mk (fun h1 => ?_) (fun h1 => ?_)
  · have h1 : j < ps.length := by have := of_decide_eq_true h1; dsimp only at this; omega
    obtain ⟨g1, g2, g3, g4, g5, g6⟩ := hp j _ (List.getElem?_eq_getElem h1)
    refine ix_flat ptC_len (by decide) h (by dsimp only; omega) (by dsimp only; omega) fun b o y hy _ _ hc => ?_
    rw [show Int.toNat ((j : Int), ()).1 = j from Int.toNat_natCast j, List.getElem?_eq_getElem h1] at hy
    cases hy
    refine ⟨_, hc 0 _ rfl _ ⟨_, h⟩, _, hc 1 _ rfl _ ⟨_, h⟩, _, hc 2 _ rfl _ ⟨_, h⟩, _, hc 3 _ rfl _ ⟨_, h⟩, _, hc 4 _ rfl _ ⟨_, h⟩, _, hc 5 _ rfl _ ⟨_, h⟩, ?_⟩
    refine al.mk h fun d w2 h => ?_
    refine st1.mk h (by simp) fun w1 h => st1.mk h (by simp) fun w1 h => st1.mk h (by simp) fun w1 h => st1.mk h (by simp) fun w1 h => st1.mk h (by simp) fun w1 h => st1.mk h (by simp) fun w1 h => ?_
    refine ldI.mk (h.cell rfl) (ldI.mk (h.cell rfl) ?_)
    refine jn.bool (false) (fun J hJ => ?_) ?_
    · refine cs.no (decide_eq_false (by omega)) (ldI.mk (h.cell rfl) (ldI.mk (h.cell rfl) ?_))
      rw [show decide ((ps[j].n : Int) > (ps[j].hi : Int)) = false from decide_eq_false (by omega)]
      exact hJ
    refine cs.no rfl (ldI.mk (h.cell rfl) ?_)
    refine lp.mk (fun t w1 => ∃ i : Nat, @Eq Int t.1 (i : Int) ∧ i ≤ ps[j].n ∧ Ok e (P j i :: pts d (ptC ps[j]) :: slc 6 s (flat ptC ps) :: M) w1) (fun t _ => Int.toNat (Int.sub ps[j].n t.1)) ⟨0, rfl, by omega, h.p2⟩ ?_
    rintro ⟨(t : Int), _⟩ w3 ⟨i, (rfl : t = (i : Int)), hi, h⟩
    refine cs.mk (fun h2 => ?_) (fun h2 => ?_)
    · have h2 : i < ps[j].n := by have := of_decide_eq_true h2; dsimp only at this; omega
      refine ⟨_, h.p1.cell rfl, g4, ?_⟩
      refine g6 i h2 _ w3 _ h fun w4 h => cs.no rfl ⟨⟨i + 1, ?_, by omega, h⟩, ?_⟩
      · exact w64_in (by omega) (by omega)
      · dsimp only
        rw [w64_in (by omega) (by omega)]
        show ((ps[j].n : Int) - ((i : Int) + 1)).toNat < ((ps[j].n : Int) - (i : Int)).toNat
        omega
    · have h2 : ¬ i < ps[j].n := by have := of_decide_eq_false h2; dsimp only at this; omega
      have hin : i = ps[j].n := by omega
      subst hin
      rw [g5] at h
      refine ⟨⟨j + 1, ?_, by omega, h.p1.drop.p1⟩, ?_⟩
      · exact w64_in (by omega) (by omega)
      · dsimp only
        rw [w64_in (by omega) (by omega)]
        show ((ps.length : Int) - ((j : Int) + 1)).toNat < ((ps.length : Int) - (j : Int)).toNat
        omega
  · have h1 : ¬ j < ps.length := by have := of_decide_eq_false h1; dsimp only at this; omega
    have hjn : j = ps.length := by omega
    subst hjn
    exact k w1 h.drop

end Go.Proofs.YtenonfkfoedfmaaGreatDoor.B


/- Configurations: the check, the layout, the objects. -/
namespace Go.Proofs.YtenonfkfoedfmaaGreatDoor.B
open Go
set_option linter.unusedVariables false

structure CfOk (c : ConfM) : Prop where
  tic : 1 ≤ c.tic ∧ c.tic ≤ 1000
  tl : 1 ≤ c.tasks.length ∧ c.tasks.length ≤ 16
  sl : c.sems.length ≤ 8
  dl : c.datas.length ≤ 8
  ml : c.mtxs.length ≤ 8
  pl : c.pools.length ≤ 8
  t : ∀ x ∈ c.tasks, 1 ≤ x.1 ∧ x.1 ≤ 16
  s : ∀ x ∈ c.sems, semOk x.2.1 x.2.2
  d : ∀ x ∈ c.datas, 0 ≤ x.2 ∧ x.2 ≤ 64
  m : ∀ x ∈ c.mtxs, MM.right x = true
  p : poolsOk 0 c.pools = true

theorem CfOk.of {c : ConfM} (h : c.ok = true) : CfOk c := by
  simp only [ConfM.ok, Bool.and_eq_true, decide_eq_true_eq, List.all_eq_true] at h
  obtain ⟨⟨⟨⟨⟨h1, h2⟩, h3⟩, h4⟩, h5⟩, h6⟩ := h
  exact ⟨⟨h1.1, h1.2.1⟩, ⟨h1.2.2.1, h1.2.2.2.1⟩, h1.2.2.2.2.1, h1.2.2.2.2.2.1, h1.2.2.2.2.2.2.1, h1.2.2.2.2.2.2.2, fun x hx => of_decide_eq_true (by simpa using h2 x hx), fun x hx => by have := h3 x hx; simpa [semOk] using this, h4, h5, h6⟩

theorem Check_conf {e w L c S R} (h : Ok e (cfR c S L) w) (hc : CfOk c) (k : ∀ w', Ok e (cfR c S L) w' → R [.string (bs []), .int .i64 0, .int .i64 0] w') : sh98 (cfV c S) R w := by
  unfold sh98
  have l1 : c.tasks.length = S.ts.len := slc_flat_len taC_len (by decide) h
  have l2 : c.sems.length = S.ss.len := slc_flat_len seC_len (by decide) h.p1
  have l3 : c.datas.length = S.ds.len := slc_flat_len daC_len (by decide) h.p2
  have l4 : c.mtxs.length = S.ms.len := slc_flat_len kdC_len (by decide) h.p3
  have l5 : c.pools.length = S.ps.len := slc_flat_len seC_len (by decide) h.p4
  refine al.mk h fun b w1 h => ?_
  have h : Ok e (pts b (cfC c S) :: cfR c S L) w1 := h
  refine ldI.mk (h.cell rfl) ?_
  refine call101 (NewHands_cyc h hc.tic fun hb w2 h => ⟨(some ⟨hb, 0, none⟩, (0 : Int), ()), rfl, ?_⟩)
  refine al.mk h fun hd w3 h => st1.mk h (by simp) fun w4 h => cs.no rfl ?_
  have h : Ok e (pts hd [pV hb] :: hnP hb c.tic 0 0 0 [] :: pts b (cfC c S) :: cfR c S L) w4 := h
  refine al.mk h fun d w5 h => st1.mk h (by simp) fun w6 h => dr.mk h fun w7 h => ?_
  have h : Ok e (pts d [.int .i64 0] :: pts hd [pV hb] :: hnP hb c.tic 0 0 0 [] :: pts b (cfC c S) :: cfR c S L) w7 := h
  have h : Ok e (pts b (cfC c S) :: pts d [.int .i64 0] :: cfR c S (pts hd [pV hb] :: hnP hb c.tic 0 0 0 [] :: L)) w7 := (h.emb (by repeat' (first | with_reducible exact Emb.same _ | exact Emb.nil _ | refine Emb.cons (by with_reducible first | exact sl0 | exact .there sl0 | exact .there sl1 | exact .there sl2 | exact .there sl3 | exact .there sl4 | exact .there sl5 | exact .there sl6 | exact .there sl7 | exact .there sl8 | exact .there sl9 | exact .there sl10 | exact .there sl11 | exact .there sl12) ?_ | refine Emb.skip ?_)))
  refine ldS.mk (h.cell rfl) (ldS.mk (h.cell rfl) (ldS.mk (h.cell rfl) (ldS.mk (h.cell rfl) (ldS.mk (h.cell rfl) (ldS.mk (h.cell rfl) (ldS.mk (h.cell rfl) (ldI.mk (h.cell rfl) ?_)))))))
  refine call175 (a2 := ⟨176, [], [pV b]⟩) (objects_conf h fun w8 h => ⟨(((bs [115, 101, 109]), (bs [115, 101, 109]), ((S.ss.len : Nat) : Int), (0 : Int), (8 : Int), (⟨176, [], [pV b]⟩ : Fv), ()), ()), rfl, h.cell rfl, h.cell rfl, h.cell rfl, h.cell rfl, h.cell rfl, h.cell rfl, h.cell rfl, ?_⟩)
  refine call175 (a2 := ⟨177, [], []⟩) (objects_conf h fun w8 h => ⟨(((bs [102, 108, 97, 103]), (bs [102, 108, 97, 103]), (((0 : Nat) : Nat) : Int), (0 : Int), (8 : Int), (⟨177, [], []⟩ : Fv), ()), ()), rfl, h.cell rfl, h.cell rfl, h.cell rfl, h.cell rfl, h.cell rfl, h.cell rfl, ?_⟩)
  refine call175 (a2 := ⟨178, [], [pV b]⟩) (objects_conf h fun w8 h => ⟨(((bs [100, 97, 116, 97]), (bs [100, 97, 116, 97]), ((S.ds.len : Nat) : Int), (0 : Int), (8 : Int), (⟨178, [], [pV b]⟩ : Fv), ()), ()), rfl, h.cell rfl, h.cell rfl, h.cell rfl, h.cell rfl, h.cell rfl, ?_⟩)
  refine call175 (a2 := ⟨180, [], [pV b]⟩) (objects_conf h fun w8 h => ⟨(((bs [109, 116, 120]), (bs [109, 116, 120]), ((S.ms.len : Nat) : Int), (0 : Int), (8 : Int), (⟨180, [], [pV b]⟩ : Fv), ()), ()), rfl, h.cell rfl, h.cell rfl, h.cell rfl, h.cell rfl, ?_⟩)
  refine call175 (a2 := ⟨181, [], [pV d, pV b]⟩) (objects_conf h fun w8 h => ⟨(((bs [112, 111, 111, 108]), (bs [112, 111, 111, 108]), ((S.ps.len : Nat) : Int), (0 : Int), (8 : Int), (⟨181, [], [pV d, pV b]⟩ : Fv), ()), ()), rfl, h.cell rfl, h.cell rfl, h.cell rfl, ?_⟩)
  refine call175 (a2 := ⟨183, [], [pV b, pV hd]⟩) (objects_conf h fun w8 h => ⟨(((bs [99, 121, 99]), (bs [99, 121, 99]), (((0 : Nat) : Nat) : Int), (0 : Int), (8 : Int), (⟨183, [], [pV b, pV hd]⟩ : Fv), ()), ()), rfl, h.cell rfl, h.cell rfl, ?_⟩)
  refine call175 (a2 := ⟨177, [], []⟩) (objects_conf h fun w8 h => ⟨(((bs [97, 108, 97, 114, 109]), (bs [97, 108, 97, 114, 109]), (0 : Int), (0 : Int), (8 : Int), (⟨177, [], []⟩ : Fv), ()), ()), rfl, h.cell rfl, ?_⟩)
  let ps : List PtD := [⟨bs [116, 97, 115, 107], bs [116, 97, 115, 107, 115], S.ts.len, 1, 16, ⟨174, [], [pV b]⟩⟩, ⟨bs [115, 101, 109], bs [115, 101, 109], S.ss.len, 0, 8, ⟨176, [], [pV b]⟩⟩,
    ⟨bs [102, 108, 97, 103], bs [102, 108, 97, 103], 0, 0, 8, ⟨177, [], []⟩⟩, ⟨bs [100, 97, 116, 97], bs [100, 97, 116, 97], S.ds.len, 0, 8, ⟨178, [], [pV b]⟩⟩,
    ⟨bs [109, 116, 120], bs [109, 116, 120], S.ms.len, 0, 8, ⟨180, [], [pV b]⟩⟩, ⟨bs [112, 111, 111, 108], bs [112, 111, 111, 108], S.ps.len, 0, 8, ⟨181, [], [pV d, pV b]⟩⟩,
    ⟨bs [99, 121, 99], bs [99, 121, 99], 0, 0, 8, ⟨183, [], [pV b, pV hd]⟩⟩, ⟨bs [97, 108, 97, 114, 109], bs [97, 108, 97, 114, 109], 0, 0, 8, ⟨177, [], []⟩⟩]
  let P : Nat → Nat → SP := fun j i => oksH (pts b (cfC c S) :: pts d [.int .i64 (bytesM 0 (c.pools.take (if j < 5 then 0 else if j = 5 then i else c.pools.length)))] :: cfR c S [])
  refine al.mk h fun f w9 h => ?_
  have h : Ok e (slc 6 ⟨some ⟨f, 0, none⟩, 8, 8⟩ (flat ptC ps) :: pts b (cfC c S) :: pts d [.int .i64 0] :: cfR c S (pts hd [pV hb] :: hnP hb c.tic 0 0 0 [] :: L)) w9 := Ok.slcNew (vs := flat ptC ps) h rfl (flat_one ptC_one)
  have h : Ok e (slc 6 ⟨some ⟨f, 0, none⟩, 8, 8⟩ (flat ptC ps) :: P 0 0 :: pts hd [pV hb] :: hnP hb c.tic 0 0 0 [] :: L) w9 := (Ok.pack (M := pts b (cfC c S) :: pts d [.int .i64 0] :: cfR c S []) (L := slc 6 ⟨some ⟨f, 0, none⟩, 8, 8⟩ (flat ptC ps) :: pts hd [pV hb] :: hnP hb c.tic 0 0 0 [] :: L) (h.emb (by repeat' (first | with_reducible exact Emb.same _ | exact Emb.nil _ | refine Emb.cons (by with_reducible first | exact sl0 | exact .there sl0 | exact .there sl1 | exact .there sl2 | exact .there sl3 | exact .there sl4 | exact .there sl5 | exact .there sl6 | exact .there sl7 | exact .there sl8 | exact .there sl9 | exact .there sl10 | exact .there sl11 | exact .there sl12) ?_ | refine Emb.skip ?_)))).p1
  refine call173 (a0 := ⟨some ⟨f, 0, none⟩, 8, 8⟩) (first_conf (ps := ps) P h (Nat.le_refl 8) (fun j p hj => ?_) fun w10 h => ⟨(bs [], (0 : Int), (0 : Int), ()), rfl, ?_⟩)
  · have hj8 : j < 8 := (List.getElem?_eq_some_iff.1 hj).1
    obtain rfl | rfl | rfl | rfl | rfl | rfl | rfl | rfl : j = 0 ∨ j = 1 ∨ j = 2 ∨ j = 3 ∨ j = 4 ∨ j = 5 ∨ j = 6 ∨ j = 7 := by omega
    · cases hj
      refine ⟨l1 ▸ hc.tl.1, l1 ▸ hc.tl.2, Nat.le_refl 16, by kernel_rfl, rfl, fun i hi L w K h kk => ?_⟩
      have hi : i < S.ts.len := hi
      show cl Pg 174 [.int .i64 (i : Int), pV b] [kI] w K
      have h2 : Ok e (pts b (cfC c S) :: pts d [.int .i64 0] :: cfR c S L) w := h.unpack
      exact call174 (Check1 ((Ok.emb (h2) (.cons (A := pts b (cfC c S)) (by with_reducible first | exact sl0 | exact .there sl0 | exact .there sl1 | exact .there sl2 | exact .there sl3 | exact .there sl4 | exact .there sl5 | exact .there sl6 | exact .there sl7 | exact .there sl8 | exact .there sl9 | exact .there sl10 | exact .there sl11 | exact .there sl12) (.cons (A := slc 2 S.ts (flat taC c.tasks)) (by with_reducible first | exact sl0 | exact .there sl0 | exact .there sl1 | exact .there sl2 | exact .there sl3 | exact .there sl4 | exact .there sl5 | exact .there sl6 | exact .there sl7 | exact .there sl8 | exact .there sl9 | exact .there sl10 | exact .there sl11 | exact .there sl12) (.same _))))) (by omega) hc.t ⟨((0 : Int), ()), rfl, kk w h⟩)
    · cases hj
      refine ⟨Nat.zero_le _, l2 ▸ hc.sl, (show (8 : Nat) ≤ 16 by decide), by kernel_rfl, rfl, fun i hi L w K h kk => ?_⟩
      have hi : i < S.ss.len := hi
      show cl Pg 176 [.int .i64 (i : Int), pV b] [kI] w K
      have h2 : Ok e (pts b (cfC c S) :: pts d [.int .i64 0] :: cfR c S L) w := h.unpack
      exact call176 (Check2 ((Ok.emb (h2) (.cons (A := pts b (cfC c S)) (by with_reducible first | exact sl0 | exact .there sl0 | exact .there sl1 | exact .there sl2 | exact .there sl3 | exact .there sl4 | exact .there sl5 | exact .there sl6 | exact .there sl7 | exact .there sl8 | exact .there sl9 | exact .there sl10 | exact .there sl11 | exact .there sl12) (.cons (A := slc 3 S.ss (flat seC c.sems)) (by with_reducible first | exact sl0 | exact .there sl0 | exact .there sl1 | exact .there sl2 | exact .there sl3 | exact .there sl4 | exact .there sl5 | exact .there sl6 | exact .there sl7 | exact .there sl8 | exact .there sl9 | exact .there sl10 | exact .there sl11 | exact .there sl12) (.same _))))) (by omega) hc.s fun w' h => ⟨((0 : Int), ()), rfl, kk w' (Ok.pack (M := pts b (cfC c S) :: pts d [.int .i64 0] :: cfR c S []) (L := L) (show Ok e (pts b (cfC c S) :: pts d [.int .i64 0] :: cfR c S L) w' from (h.emb (by repeat' (first | with_reducible exact Emb.same _ | exact Emb.nil _ | refine Emb.cons (by with_reducible first | exact sl0 | exact .there sl0 | exact .there sl1 | exact .there sl2 | exact .there sl3 | exact .there sl4 | exact .there sl5 | exact .there sl6 | exact .there sl7 | exact .there sl8 | exact .there sl9 | exact .there sl10 | exact .there sl11 | exact .there sl12) ?_ | refine Emb.skip ?_)))))⟩)
    · cases hj
      exact ⟨Nat.zero_le _, Nat.zero_le _, (show (8 : Nat) ≤ 16 by decide), by kernel_rfl, rfl, fun i hi => absurd hi (Nat.not_lt_zero i)⟩
    · cases hj
      refine ⟨Nat.zero_le _, l3 ▸ hc.dl, (show (8 : Nat) ≤ 16 by decide), by kernel_rfl, rfl, fun i hi L w K h kk => ?_⟩
      have hi : i < S.ds.len := hi
      show cl Pg 178 [.int .i64 (i : Int), pV b] [kI] w K
      have h2 : Ok e (pts b (cfC c S) :: pts d [.int .i64 0] :: cfR c S L) w := h.unpack
      exact call178 (Check3 ((Ok.emb (h2) (.cons (A := pts b (cfC c S)) (by with_reducible first | exact sl0 | exact .there sl0 | exact .there sl1 | exact .there sl2 | exact .there sl3 | exact .there sl4 | exact .there sl5 | exact .there sl6 | exact .there sl7 | exact .there sl8 | exact .there sl9 | exact .there sl10 | exact .there sl11 | exact .there sl12) (.cons (A := slc 2 S.ds (flat daC c.datas)) (by with_reducible first | exact sl0 | exact .there sl0 | exact .there sl1 | exact .there sl2 | exact .there sl3 | exact .there sl4 | exact .there sl5 | exact .there sl6 | exact .there sl7 | exact .there sl8 | exact .there sl9 | exact .there sl10 | exact .there sl11 | exact .there sl12) (.same _))))) (by omega) hc.d fun w' h => ⟨((0 : Int), ()), rfl, kk w' (Ok.pack (M := pts b (cfC c S) :: pts d [.int .i64 0] :: cfR c S []) (L := L) (show Ok e (pts b (cfC c S) :: pts d [.int .i64 0] :: cfR c S L) w' from (h.emb (by repeat' (first | with_reducible exact Emb.same _ | exact Emb.nil _ | refine Emb.cons (by with_reducible first | exact sl0 | exact .there sl0 | exact .there sl1 | exact .there sl2 | exact .there sl3 | exact .there sl4 | exact .there sl5 | exact .there sl6 | exact .there sl7 | exact .there sl8 | exact .there sl9 | exact .there sl10 | exact .there sl11 | exact .there sl12) ?_ | refine Emb.skip ?_)))))⟩)
    · cases hj
      refine ⟨Nat.zero_le _, l4 ▸ hc.ml, (show (8 : Nat) ≤ 16 by decide), by kernel_rfl, rfl, fun i hi L w K h kk => ?_⟩
      have hi : i < S.ms.len := hi
      show cl Pg 180 [.int .i64 (i : Int), pV b] [kI] w K
      have h2 : Ok e (pts b (cfC c S) :: pts d [.int .i64 0] :: cfR c S L) w := h.unpack
      exact call180 (Check4 ((Ok.emb (h2) (.cons (A := pts b (cfC c S)) (by with_reducible first | exact sl0 | exact .there sl0 | exact .there sl1 | exact .there sl2 | exact .there sl3 | exact .there sl4 | exact .there sl5 | exact .there sl6 | exact .there sl7 | exact .there sl8 | exact .there sl9 | exact .there sl10 | exact .there sl11 | exact .there sl12) (.cons (A := slc 2 S.ms (flat kdC c.mtxs)) (by with_reducible first | exact sl0 | exact .there sl0 | exact .there sl1 | exact .there sl2 | exact .there sl3 | exact .there sl4 | exact .there sl5 | exact .there sl6 | exact .there sl7 | exact .there sl8 | exact .there sl9 | exact .there sl10 | exact .there sl11 | exact .there sl12) (.same _))))) (by omega) hc.m fun w' h => ⟨((0 : Int), ()), rfl, kk w' (Ok.pack (M := pts b (cfC c S) :: pts d [.int .i64 0] :: cfR c S []) (L := L) (show Ok e (pts b (cfC c S) :: pts d [.int .i64 0] :: cfR c S L) w' from (h.emb (by repeat' (first | with_reducible exact Emb.same _ | exact Emb.nil _ | refine Emb.cons (by with_reducible first | exact sl0 | exact .there sl0 | exact .there sl1 | exact .there sl2 | exact .there sl3 | exact .there sl4 | exact .there sl5 | exact .there sl6 | exact .there sl7 | exact .there sl8 | exact .there sl9 | exact .there sl10 | exact .there sl11 | exact .there sl12) ?_ | refine Emb.skip ?_)))))⟩)
    · cases hj
      refine ⟨Nat.zero_le _, l5 ▸ hc.pl, (show (8 : Nat) ≤ 16 by decide), by kernel_rfl, ?_, fun i hi L w K h kk => ?_⟩
      · show oksH _ = oksH _
        rw [← l5]
        rfl
      have hi : i < S.ps.len := hi
      show cl Pg 181 [.int .i64 (i : Int), pV d, pV b] [kI] w K
      have h2 : Ok e (pts b (cfC c S) :: pts d [.int .i64 (bytesM 0 (c.pools.take i))] :: cfR c S L) w := h.unpack
      exact call181 (Check5 ((Ok.emb (h2) (.cons (A := pts d [.int .i64 (bytesM 0 (c.pools.take i))]) (by with_reducible first | exact sl0 | exact .there sl0 | exact .there sl1 | exact .there sl2 | exact .there sl3 | exact .there sl4 | exact .there sl5 | exact .there sl6 | exact .there sl7 | exact .there sl8 | exact .there sl9 | exact .there sl10 | exact .there sl11 | exact .there sl12) (.cons (A := pts b (cfC c S)) (by with_reducible first | exact sl0 | exact .there sl0 | exact .there sl1 | exact .there sl2 | exact .there sl3 | exact .there sl4 | exact .there sl5 | exact .there sl6 | exact .there sl7 | exact .there sl8 | exact .there sl9 | exact .there sl10 | exact .there sl11 | exact .there sl12) (.cons (A := slc 3 S.ps (flat seC c.pools)) (by with_reducible first | exact sl0 | exact .there sl0 | exact .there sl1 | exact .there sl2 | exact .there sl3 | exact .there sl4 | exact .there sl5 | exact .there sl6 | exact .there sl7 | exact .there sl8 | exact .there sl9 | exact .there sl10 | exact .there sl11 | exact .there sl12) (.same _)))))) (by omega) hc.p fun w' h => ⟨((0 : Int), ()), rfl, kk w' (Ok.pack (M := pts b (cfC c S) :: pts d [.int .i64 (bytesM 0 (c.pools.take (i + 1)))] :: cfR c S []) (L := L) (show Ok e (pts b (cfC c S) :: pts d [.int .i64 (bytesM 0 (c.pools.take (i + 1)))] :: cfR c S L) w' from (h.emb (by repeat' (first | with_reducible exact Emb.same _ | exact Emb.nil _ | refine Emb.cons (by with_reducible first | exact sl0 | exact .there sl0 | exact .there sl1 | exact .there sl2 | exact .there sl3 | exact .there sl4 | exact .there sl5 | exact .there sl6 | exact .there sl7 | exact .there sl8 | exact .there sl9 | exact .there sl10 | exact .there sl11 | exact .there sl12) ?_ | refine Emb.skip ?_)))))⟩)
    · cases hj
      exact ⟨Nat.zero_le _, Nat.zero_le _, (show (8 : Nat) ≤ 16 by decide), by kernel_rfl, rfl, fun i hi => absurd hi (Nat.not_lt_zero i)⟩
    · cases hj
      exact ⟨Nat.zero_le _, Nat.zero_le _, (show (8 : Nat) ≤ 16 by decide), by kernel_rfl, rfl, fun i hi => absurd hi (Nat.not_lt_zero i)⟩
  · have h2 : Ok e (pts b (cfC c S) :: pts d [.int .i64 (bytesM 0 (c.pools.take c.pools.length))] :: cfR c S (pts hd [pV hb] :: hnP hb c.tic 0 0 0 [] :: L)) w10 := h.unpack
    exact k w10 (Ok.emb (h2) (by repeat' (first | with_reducible exact Emb.same _ | exact Emb.nil _ | refine Emb.cons (by with_reducible first | exact sl0 | exact .there sl0 | exact .there sl1 | exact .there sl2 | exact .there sl3 | exact .there sl4 | exact .there sl5 | exact .there sl6 | exact .there sl7 | exact .there sl8 | exact .there sl9 | exact .there sl10 | exact .there sl11 | exact .there sl12) ?_ | refine Emb.skip ?_)))

theorem layout_get {ps : List (Bool × Int × Int)} {a : Int} {i : Nat} (hi : i < ps.length) : (layoutM a ps)[i]? = some (stp (bytesM a (ps.take i))) := by
  induction ps generalizing a i with
  | nil => simp at hi
  | cons q ps ih =>
    cases i with
    | zero => rfl
    | succ i => exact ih (by simpa using hi)

theorem layout_len {ps : List (Bool × Int × Int)} {a : Int} : (layoutM a ps).length = ps.length := by
  induction ps generalizing a with
  | nil => rfl
  | cons q ps ih => simp [layoutM, ih]

/-- a configuration's pools are read -/
theorem ix_pool {e w L s} {ps : List (Bool × Int × Int)} {i : Nat} {g : Nat → Nat → Prop} (h : Ok e (slc 3 s (flat seC ps) :: L) w) (hi : i < ps.length)
    (hg : ∀ b2 o2, (∀ w', (∃ L', Ok e (slc 3 s (flat seC ps) :: L') w') → w'.cell? ⟨b2, o2, none⟩ = some (.bool ps[i].1) ∧ w'.cell? ⟨b2, o2 + 1, none⟩ = some (.int .i64 ps[i].2.1) ∧ w'.cell? ⟨b2, o2 + 2, none⟩ = some (.int .i64 ps[i].2.2)) → g b2 o2) : ix s (i : Int) 3 g := by
  refine ix_flat seC_len (by decide) h (by omega) (by omega) fun b2 o2 y hy _ _ hc => hg b2 o2 fun w' hw' => ?_
  rw [Int.toNat_natCast, List.getElem?_eq_getElem hi] at hy
  cases hy
  exact ⟨hc 0 _ rfl w' hw', hc 1 _ rfl w' hw', hc 2 _ rfl w' hw'⟩

theorem Layout_conf {e w L c S R} (h : Ok e (cfR c S L) w) (hc : CfOk c) (k : ∀ x w', Ok e (slc 1 x (ints (layoutM 0 c.pools)) :: cfR c S L) w' → R [vS x] w') : sh185 (cfV c S) R w := by
  unfold sh185
  have l5 : c.pools.length = S.ps.len := slc_flat_len seC_len (by decide) h.p4
  have hpl := hc.pl
  refine al.mk h fun b w1 h => ldS.mk (h.cell rfl) ?_
  refine lp.mk (fun t w1 => ∃ i : Nat, @Eq Int t.2.2.1 (i : Int) ∧ @Eq Int t.2.1 (bytesM 0 (c.pools.take i)) ∧ i ≤ c.pools.length ∧ Ok e (slc 1 t.1 (ints ((layoutM 0 c.pools).take i)) :: slc 3 S.ps (flat seC c.pools) :: slc 2 S.ts (flat taC c.tasks) :: slc 3 S.ss (flat seC c.sems) :: slc 2 S.ds (flat daC c.datas) :: slc 2 S.ms (flat kdC c.mtxs) :: L) w1)
    (fun t _ => Int.toNat (Int.sub c.pools.length t.2.2.1)) ⟨0, rfl, rfl, by omega, ?_⟩ ?_
  · have h2 : Ok e (slc 1 ⟨none, 0, 0⟩ (ints ((layoutM 0 c.pools).take 0)) :: cfR c S L) w1 := h.drop.slcNil 1
    have h3 : Ok e (slc 1 ⟨none, 0, 0⟩ (ints ((layoutM 0 c.pools).take 0)) :: slc 3 S.ps (flat seC c.pools) :: slc 2 S.ts (flat taC c.tasks) :: slc 3 S.ss (flat seC c.sems) :: slc 2 S.ds (flat daC c.datas) :: slc 2 S.ms (flat kdC c.mtxs) :: L) w1 := (Ok.emb (h2) (by repeat' (first | with_reducible exact Emb.same _ | exact Emb.nil _ | refine Emb.cons (by with_reducible first | exact sl0 | exact .there sl0 | exact .there sl1 | exact .there sl2 | exact .there sl3 | exact .there sl4 | exact .there sl5 | exact .there sl6 | exact .there sl7 | exact .there sl8 | exact .there sl9 | exact .there sl10 | exact .there sl11 | exact .there sl12) ?_ | refine Emb.skip ?_)))
    exact h3
  rintro ⟨x, (at' : Int), (t : Int), _⟩ w3 ⟨i, (rfl : t = (i : Int)), (rfl : at' = _), hi, h⟩
  dsimp only at h ⊢
  refine cs.mk (fun h2 => ?_) (fun h2 => ?_)
  · have h2 : i < c.pools.length := by have := of_decide_eq_true h2; omega
    obtain ⟨hg, hn⟩ := pools_get hc.p (List.getElem?_eq_getElem h2)
    have hbd := pools_bd hc.p i
    have hg2 := hg
    obtain ⟨-, -, -, g1, g2, g3, g4, -⟩ := hg2
    refine ix_pool h.p1 h2 fun b2 o2 hc2 => ldB.mk (hc2 w3 ⟨_, h.p1⟩).1 (ldI.mk (hc2 w3 ⟨_, h.p1⟩).2.1 (ldI.mk (hc2 w3 ⟨_, h.p1⟩).2.2 ?_))
    refine al.mk h fun d w4 h => st1.mk h (by simp) fun w5 h => st1.mk h (by simp) fun w5 h => st1.mk h (by simp) fun w5 h => ldB.mk (h.cell rfl) (ldI.mk (h.cell rfl) (ldI.mk (h.cell rfl) ?_))
    refine call71 (a1 := (c.pools[i].1, c.pools[i].2.1, c.pools[i].2.2, ())) (next_conf h (by omega) ⟨g1, g2, g3, g4⟩ fun w2 h => ⟨(stp (bytesM 0 (c.pools.take i)), stp (bytesM 0 (c.pools.take i)) + c.pools[i].2.1 * stp c.pools[i].2.2, ()), rfl, ?_⟩)
    have h := h.drop
    have hxl := h.slc_len
    simp [layout_len] at hxl
    refine al.mk h fun f w6 h => ?_
    refine ef.append1 (n := 1) slT_int (by decide) h rfl (by simp; rfl) (by omega) fun s' w7 hl' h => ?_
    refine ⟨⟨i + 1, ?_, ?_, h2, ?_⟩, ?_⟩
    · exact w64_in (by omega) (by omega)
    · exact hn.symm
    · rw [List.take_add_one, layout_get h2]
      simpa using h
    · show ((c.pools.length : Int) - w64 ((i : Int) + 1)).toNat < ((c.pools.length : Int) - (i : Int)).toNat
      rw [w64_in (by omega) (by omega)]
      omega
  · have h2 : i = c.pools.length := by have := of_decide_eq_false h2; omega
    subst h2
    rw [List.take_of_length_le (by rw [layout_len]; omega)] at h
    exact k x w3 (h.emb (by repeat' (first | with_reducible exact Emb.same _ | exact Emb.nil _ | refine Emb.cons (by with_reducible first | exact sl0 | exact .there sl0 | exact .there sl1 | exact .there sl2 | exact .there sl3 | exact .there sl4 | exact .there sl5 | exact .there sl6 | exact .there sl7 | exact .there sl8 | exact .there sl9 | exact .there sl10 | exact .there sl11 | exact .there sl12) ?_ | refine Emb.skip ?_)))

end Go.Proofs.YtenonfkfoedfmaaGreatDoor.B


/- A kernel is made. -/
namespace Go.Proofs.YtenonfkfoedfmaaGreatDoor.B
open Go
set_option linter.unusedVariables false

theorem slT_semp : SlT Pg 122 1 := .of (by kernel_rfl)

theorem slT_datp : SlT Pg 124 1 := .of (by kernel_rfl)

theorem slT_poolp : SlT Pg 125 1 := .of (by kernel_rfl)

theorem slT_unitp : SlT Pg 130 1 := .of (by kernel_rfl)

abbrev semN (s : Bool × Int × Int) : SemM := ⟨s.1, s.2.1, s.2.2, []⟩

abbrev datN (d : Bool × Int) : DatM := ⟨d.1, d.2, dqNew⟩

abbrev poolN (a : Int) (p : Bool × Int × Int) : PoolM := ⟨p.1, a, p.2.1, p.2.2, mp0⟩

theorem zip_take {ps : List (Bool × Int × Int)} {ys : List Int} {i : Nat} {a p} (ha : ys[i]? = some a) (hp : ps[i]? = some p) : List.zipWith poolN (ys.take (i + 1)) (ps.take (i + 1)) = List.zipWith poolN (ys.take i) (ps.take i) ++ [poolN a p] := by
  have h1 := (List.getElem?_eq_some_iff.1 ha).1
  have h2 := (List.getElem?_eq_some_iff.1 hp).1
  rw [List.take_add_one, List.take_add_one, ha, hp, Option.toList_some, Option.toList_some, List.zipWith_append (by simp; omega)]
  rfl

set_option maxHeartbeats 1000000 in
theorem build_kern {e w L k c S R} {x6 x7 x8 x9 x10 x11 x12 : Value} (h : Ok e (pts k [vS ⟨none, 0, 0⟩, vS ⟨none, 0, 0⟩, vS ⟨none, 0, 0⟩, vS ⟨none, 0, 0⟩, .int .i64 0, .pointer none, x6, x7, x8, x9, x10, x11, x12] :: cfR c S L) w) (hc : CfOk c)
    (kk : ∀ ss ds ps lk w', Ok e (pts k [vS ss, vS ⟨none, 0, 0⟩, vS ds, vS ps, .int .i64 (c.mtxs.length : Int), pV lk, x6, x7, x8, x9, x10, x11, x12] :: semsP ss (c.sems.map semN) :: datasP ds (c.datas.map datN) :: poolsP ps (List.zipWith poolN (layoutM 0 c.pools) c.pools) :: mmP lk (MM.new c.mtxs) :: cfR c S L) w' → R [] w') : sh100 (some ⟨k, 0, none⟩) (cfV c S) R w := by
  unfold sh100
  have l2 : c.sems.length = S.ss.len := slc_flat_len seC_len (by decide) h.p2
  have l3 : c.datas.length = S.ds.len := slc_flat_len daC_len (by decide) h.p3
  have l4 : c.mtxs.length = S.ms.len := slc_flat_len kdC_len (by decide) h.p4
  have hpl := hc.pl; have hsl := hc.sl; have hdl := hc.dl
  refine al.mk h fun b w1 h => ldS.mk (h.cell rfl) ?_
  have h : Ok e (pts b (cfC c S) :: pts k [vS ⟨none, 0, 0⟩, vS ⟨none, 0, 0⟩, vS ⟨none, 0, 0⟩, vS ⟨none, 0, 0⟩, .int .i64 0, .pointer none, x6, x7, x8, x9, x10, x11, x12] :: cfR c S L) w1 := h
  refine call30 (New_mtx ((Ok.emb (h) (.cons (A := slc 2 S.ms (flat kdC c.mtxs)) (by with_reducible first | exact sl0 | exact .there sl0 | exact .there sl1 | exact .there sl2 | exact .there sl3 | exact .there sl4 | exact .there sl5 | exact .there sl6 | exact .there sl7 | exact .there sl8 | exact .there sl9 | exact .there sl10 | exact .there sl11 | exact .there sl12) (.same _)))) hc.ml hc.m fun lk w2 h => ⟨(some ⟨lk, 0, none⟩, (0 : Int), ()), rfl, nn.mk ?_⟩)
  refine st1.mk ((Ok.emb (h) (.cons (A := pts k [vS ⟨none, 0, 0⟩, vS ⟨none, 0, 0⟩, vS ⟨none, 0, 0⟩, vS ⟨none, 0, 0⟩, .int .i64 0, .pointer none, x6, x7, x8, x9, x10, x11, x12]) (by with_reducible first | exact sl0 | exact .there sl0 | exact .there sl1 | exact .there sl2 | exact .there sl3 | exact .there sl4 | exact .there sl5 | exact .there sl6 | exact .there sl7 | exact .there sl8 | exact .there sl9 | exact .there sl10 | exact .there sl11 | exact .there sl12) (.same _)))) (by simp) fun w3 h => ldS.mk (by refine Ok.cellS h (by with_reducible first | exact sl0 | exact .there sl0 | exact .there sl1 | exact .there sl2 | exact .there sl3 | exact .there sl4 | exact .there sl5 | exact .there sl6 | exact .there sl7 | exact .there sl8 | exact .there sl9 | exact .there sl10 | exact .there sl11 | exact .there sl12) ?_; rfl) (nn.mk (st1.mk h (by simp) fun w4 h => ldS.mk (by refine Ok.cellS h (by with_reducible first | exact sl0 | exact .there sl0 | exact .there sl1 | exact .there sl2 | exact .there sl3 | exact .there sl4 | exact .there sl5 | exact .there sl6 | exact .there sl7 | exact .there sl8 | exact .there sl9 | exact .there sl10 | exact .there sl11 | exact .there sl12) ?_; rfl) ?_))
  dsimp only [List.set] at h
  rw [← l4] at h
  let Q : List SP := pts b (cfC c S) :: mmP lk (MM.new c.mtxs) :: cfR c S L
  have h : Ok e (pts k [vS ⟨none, 0, 0⟩, vS ⟨none, 0, 0⟩, vS ⟨none, 0, 0⟩, vS ⟨none, 0, 0⟩, .int .i64 (c.mtxs.length : Int), pV lk, x6, x7, x8, x9, x10, x11, x12] :: pts b (cfC c S) :: mmP lk (MM.new c.mtxs) :: cfR c S L) w4 := (h.emb (by repeat' (first | with_reducible exact Emb.same _ | exact Emb.nil _ | refine Emb.cons (by with_reducible first | exact sl0 | exact .there sl0 | exact .there sl1 | exact .there sl2 | exact .there sl3 | exact .there sl4 | exact .there sl5 | exact .there sl6 | exact .there sl7 | exact .there sl8 | exact .there sl9 | exact .there sl10 | exact .there sl11 | exact .there sl12) ?_ | refine Emb.skip ?_)))
  refine lp.mk (fun t w1 => ∃ (i : Nat) (s : Sl), @Eq Int t.1 (i : Int) ∧ i ≤ c.sems.length ∧ Ok e (pts k [vS s, vS ⟨none, 0, 0⟩, vS ⟨none, 0, 0⟩, vS ⟨none, 0, 0⟩, .int .i64 (c.mtxs.length : Int), pV lk, x6, x7, x8, x9, x10, x11, x12] :: semsP s ((c.sems.take i).map semN) :: pts b (cfC c S) :: mmP lk (MM.new c.mtxs) :: cfR c S L) w1)
    (fun t _ => Int.toNat (Int.sub c.sems.length t.1)) ⟨0, ⟨none, 0, 0⟩, rfl, by omega, (ptrs_nil (h.slcNil 1)).p1⟩ ?_
  rintro ⟨(t : Int), _⟩ w5 ⟨i, s, (rfl : t = (i : Int)), hi, h⟩
  dsimp only
  refine cs.mk (fun h2 => ?_) (fun h2 => ?_)
  · have h2 : i < c.sems.length := by have := of_decide_eq_true h2; omega
    refine ix_pool ((Ok.emb (h) (.cons (A := slc 3 S.ss (flat seC c.sems)) (by with_reducible first | exact sl0 | exact .there sl0 | exact .there sl1 | exact .there sl2 | exact .there sl3 | exact .there sl4 | exact .there sl5 | exact .there sl6 | exact .there sl7 | exact .there sl8 | exact .there sl9 | exact .there sl10 | exact .there sl11 | exact .there sl12) (.same _)))) h2 fun b2 o2 hc2 => ?_
    obtain ⟨r1, r2, r3⟩ := hc2 w5 ⟨_, (Ok.emb (h) (.cons (A := slc 3 S.ss (flat seC c.sems)) (by with_reducible first | exact sl0 | exact .there sl0 | exact .there sl1 | exact .there sl2 | exact .there sl3 | exact .there sl4 | exact .there sl5 | exact .there sl6 | exact .there sl7 | exact .there sl8 | exact .there sl9 | exact .there sl10 | exact .there sl11 | exact .there sl12) (.same _)))⟩
    have hs := hc.s c.sems[i] (List.getElem_mem h2)
    refine ldB.mk r1 (ldI.mk r2 (ldI.mk r3 (al.mk h fun d w6 h => st1.mk h (by simp) fun w6 h => st1.mk h (by simp) fun w6 h => st1.mk h (by simp) fun w6 h => ldB.mk (h.cell rfl) (ldI.mk (h.cell rfl) (ldI.mk (h.cell rfl) ?_)))))
    have h := h.drop
    refine call43 (New_sem h (fun hn => absurd hs hn) fun _ sb p w7 h => ⟨(some ⟨sb, 0, none⟩, (0 : Int), ()), rfl, nn.mk ?_⟩)
    have h := semI (s := semN c.sems[i]) okL_nil hs h
    have hkl := ptrs_len ((Ok.emb (h) (.cons (A := semsP s ((c.sems.take i).map semN)) (by with_reducible first | exact sl0 | exact .there sl0 | exact .there sl1 | exact .there sl2 | exact .there sl3 | exact .there sl4 | exact .there sl5 | exact .there sl6 | exact .there sl7 | exact .there sl8 | exact .there sl9 | exact .there sl10 | exact .there sl11 | exact .there sl12) (.same _))))
    refine ldS.mk (h.p1.cell rfl) (al.mk h fun f w8 h => ?_)
    refine ef.appendPtr (P := semQ) (pre := []) slT_semp ((Ok.emb (h) (.cons (A := pts f [pV sb]) (by with_reducible first | exact sl0 | exact .there sl0 | exact .there sl1 | exact .there sl2 | exact .there sl3 | exact .there sl4 | exact .there sl5 | exact .there sl6 | exact .there sl7 | exact .there sl8 | exact .there sl9 | exact .there sl10 | exact .there sl11 | exact .there sl12) (.cons (A := semQ sb (semN c.sems[i])) (by with_reducible first | exact sl0 | exact .there sl0 | exact .there sl1 | exact .there sl2 | exact .there sl3 | exact .there sl4 | exact .there sl5 | exact .there sl6 | exact .there sl7 | exact .there sl8 | exact .there sl9 | exact .there sl10 | exact .there sl11 | exact .there sl12) (.cons (A := semsP s ((c.sems.take i).map semN)) (by with_reducible first | exact sl0 | exact .there sl0 | exact .there sl1 | exact .there sl2 | exact .there sl3 | exact .there sl4 | exact .there sl5 | exact .there sl6 | exact .there sl7 | exact .there sl8 | exact .there sl9 | exact .there sl10 | exact .there sl11 | exact .there sl12) (.same _)))))) (by simp; omega) fun s' w9 h => nn.mk (st1.mk h.p1 (by simp) fun w10 h => ?_)
    refine ⟨⟨i + 1, s', w64_in (by omega) (by omega), h2, ?_⟩, ?_⟩
    · rw [List.take_add_one, List.getElem?_eq_getElem h2, List.map_append]
      exact h
    · show ((c.sems.length : Int) - w64 ((i : Int) + 1)).toNat < ((c.sems.length : Int) - (i : Int)).toNat
      rw [w64_in (by omega) (by omega)]
      omega
  have h2 : i = c.sems.length := by have := of_decide_eq_false h2; omega
  subst h2
  rw [List.take_length] at h
  refine ldS.mk (by refine Ok.cellS h (by with_reducible first | exact sl0 | exact .there sl0 | exact .there sl1 | exact .there sl2 | exact .there sl3 | exact .there sl4 | exact .there sl5 | exact .there sl6 | exact .there sl7 | exact .there sl8 | exact .there sl9 | exact .there sl10 | exact .there sl11 | exact .there sl12) ?_; rfl) ?_
  refine lp.mk (fun t w1 => @Eq Int t.1 0 ∧ w1 = w5) (fun _ _ => 0) ⟨rfl, rfl⟩ ?_
  rintro ⟨(t : Int), _⟩ w6 ⟨(rfl : t = 0), rfl⟩
  refine cs.no rfl (ldS.mk (by refine Ok.cellS h (by with_reducible first | exact sl0 | exact .there sl0 | exact .there sl1 | exact .there sl2 | exact .there sl3 | exact .there sl4 | exact .there sl5 | exact .there sl6 | exact .there sl7 | exact .there sl8 | exact .there sl9 | exact .there sl10 | exact .there sl11 | exact .there sl12) ?_; rfl) ?_)
  refine lp.mk (fun t w1 => ∃ (i : Nat) (s2 : Sl), @Eq Int t.1 (i : Int) ∧ i ≤ c.datas.length ∧ Ok e (pts k [vS s, vS ⟨none, 0, 0⟩, vS s2, vS ⟨none, 0, 0⟩, .int .i64 (c.mtxs.length : Int), pV lk, x6, x7, x8, x9, x10, x11, x12] :: datasP s2 ((c.datas.take i).map datN) :: semsP s (c.sems.map semN) :: pts b (cfC c S) :: mmP lk (MM.new c.mtxs) :: cfR c S L) w1)
    (fun t _ => Int.toNat (Int.sub c.datas.length t.1)) ⟨0, ⟨none, 0, 0⟩, rfl, by omega, (ptrs_nil (h.slcNil 1)).p1⟩ ?_
  rintro ⟨(t : Int), _⟩ w5 ⟨i, s2, (rfl : t = (i : Int)), hi, h⟩
  dsimp only
  refine cs.mk (fun h2 => ?_) (fun h2 => ?_)
  · have h2 : i < c.datas.length := by have := of_decide_eq_true h2; omega
    refine ix_flat daC_len (by decide) ((Ok.emb (h) (.cons (A := slc 2 S.ds (flat daC c.datas)) (by with_reducible first | exact sl0 | exact .there sl0 | exact .there sl1 | exact .there sl2 | exact .there sl3 | exact .there sl4 | exact .there sl5 | exact .there sl6 | exact .there sl7 | exact .there sl8 | exact .there sl9 | exact .there sl10 | exact .there sl11 | exact .there sl12) (.same _)))) (by omega) (by omega) fun b2 o2 y hy _ _ hc2 => ?_
    rw [Int.toNat_natCast, List.getElem?_eq_getElem h2] at hy
    cases hy
    have r1 := hc2 0 _ rfl w5 ⟨_, (Ok.emb (h) (.cons (A := slc 2 S.ds (flat daC c.datas)) (by with_reducible first | exact sl0 | exact .there sl0 | exact .there sl1 | exact .there sl2 | exact .there sl3 | exact .there sl4 | exact .there sl5 | exact .there sl6 | exact .there sl7 | exact .there sl8 | exact .there sl9 | exact .there sl10 | exact .there sl11 | exact .there sl12) (.same _)))⟩
    have r2 := hc2 1 _ rfl w5 ⟨_, (Ok.emb (h) (.cons (A := slc 2 S.ds (flat daC c.datas)) (by with_reducible first | exact sl0 | exact .there sl0 | exact .there sl1 | exact .there sl2 | exact .there sl3 | exact .there sl4 | exact .there sl5 | exact .there sl6 | exact .there sl7 | exact .there sl8 | exact .there sl9 | exact .there sl10 | exact .there sl11 | exact .there sl12) (.same _)))⟩
    have hs := hc.d c.datas[i] (List.getElem_mem h2)
    refine ldB.mk r1 (ldI.mk r2 (al.mk h fun d w6 h => st1.mk h (by simp) fun w6 h => st1.mk h (by simp) fun w6 h => ldB.mk (h.cell rfl) (ldI.mk (h.cell rfl) ?_)))
    have h := h.drop
    refine call179 (New_dtq h (fun hn => absurd hs hn) fun _ sb w7 h => ⟨(some ⟨sb, 0, none⟩, (0 : Int), ()), rfl, nn.mk ?_⟩)
    have h := h.imp (B := datQ sb (datN c.datas[i])) fun k hk => ⟨dqNew_ok hs, hk⟩
    have hkl := ptrs_len ((Ok.emb (h) (.cons (A := datasP s2 ((c.datas.take i).map datN)) (by with_reducible first | exact sl0 | exact .there sl0 | exact .there sl1 | exact .there sl2 | exact .there sl3 | exact .there sl4 | exact .there sl5 | exact .there sl6 | exact .there sl7 | exact .there sl8 | exact .there sl9 | exact .there sl10 | exact .there sl11 | exact .there sl12) (.same _))))
    refine ldS.mk (h.p1.cell rfl) (al.mk h fun f w8 h => ?_)
    refine ef.appendPtr (P := datQ) (pre := []) slT_datp ((Ok.emb (h) (.cons (A := pts f [pV sb]) (by with_reducible first | exact sl0 | exact .there sl0 | exact .there sl1 | exact .there sl2 | exact .there sl3 | exact .there sl4 | exact .there sl5 | exact .there sl6 | exact .there sl7 | exact .there sl8 | exact .there sl9 | exact .there sl10 | exact .there sl11 | exact .there sl12) (.cons (A := datQ sb (datN c.datas[i])) (by with_reducible first | exact sl0 | exact .there sl0 | exact .there sl1 | exact .there sl2 | exact .there sl3 | exact .there sl4 | exact .there sl5 | exact .there sl6 | exact .there sl7 | exact .there sl8 | exact .there sl9 | exact .there sl10 | exact .there sl11 | exact .there sl12) (.cons (A := datasP s2 ((c.datas.take i).map datN)) (by with_reducible first | exact sl0 | exact .there sl0 | exact .there sl1 | exact .there sl2 | exact .there sl3 | exact .there sl4 | exact .there sl5 | exact .there sl6 | exact .there sl7 | exact .there sl8 | exact .there sl9 | exact .there sl10 | exact .there sl11 | exact .there sl12) (.same _)))))) (by simp; omega) fun s' w9 h => nn.mk (st1.mk h.p1 (by simp) fun w10 h => ?_)
    refine ⟨⟨i + 1, s', w64_in (by omega) (by omega), h2, ?_⟩, ?_⟩
    · rw [List.take_add_one, List.getElem?_eq_getElem h2, List.map_append]
      exact h
    · show ((c.datas.length : Int) - w64 ((i : Int) + 1)).toNat < ((c.datas.length : Int) - (i : Int)).toNat
      rw [w64_in (by omega) (by omega)]
      omega
  have h2 : i = c.datas.length := by have := of_decide_eq_false h2; omega
  subst h2
  rw [List.take_length] at h
  refine ldI.mk (by refine Ok.cellS h (by with_reducible first | exact sl0 | exact .there sl0 | exact .there sl1 | exact .there sl2 | exact .there sl3 | exact .there sl4 | exact .there sl5 | exact .there sl6 | exact .there sl7 | exact .there sl8 | exact .there sl9 | exact .there sl10 | exact .there sl11 | exact .there sl12) ?_; rfl) (ldS.mk (by refine Ok.cellS h (by with_reducible first | exact sl0 | exact .there sl0 | exact .there sl1 | exact .there sl2 | exact .there sl3 | exact .there sl4 | exact .there sl5 | exact .there sl6 | exact .there sl7 | exact .there sl8 | exact .there sl9 | exact .there sl10 | exact .there sl11 | exact .there sl12) ?_; rfl) (ldS.mk (by refine Ok.cellS h (by with_reducible first | exact sl0 | exact .there sl0 | exact .there sl1 | exact .there sl2 | exact .there sl3 | exact .there sl4 | exact .there sl5 | exact .there sl6 | exact .there sl7 | exact .there sl8 | exact .there sl9 | exact .there sl10 | exact .there sl11 | exact .there sl12) ?_; rfl) (ldS.mk (by refine Ok.cellS h (by with_reducible first | exact sl0 | exact .there sl0 | exact .there sl1 | exact .there sl2 | exact .there sl3 | exact .there sl4 | exact .there sl5 | exact .there sl6 | exact .there sl7 | exact .there sl8 | exact .there sl9 | exact .there sl10 | exact .there sl11 | exact .there sl12) ?_; rfl) (ldS.mk (by refine Ok.cellS h (by with_reducible first | exact sl0 | exact .there sl0 | exact .there sl1 | exact .there sl2 | exact .there sl3 | exact .there sl4 | exact .there sl5 | exact .there sl6 | exact .there sl7 | exact .there sl8 | exact .there sl9 | exact .there sl10 | exact .there sl11 | exact .there sl12) ?_; rfl) (ldS.mk (by refine Ok.cellS h (by with_reducible first | exact sl0 | exact .there sl0 | exact .there sl1 | exact .there sl2 | exact .there sl3 | exact .there sl4 | exact .there sl5 | exact .there sl6 | exact .there sl7 | exact .there sl8 | exact .there sl9 | exact .there sl10 | exact .there sl11 | exact .there sl12) ?_; rfl) (ldS.mk (by refine Ok.cellS h (by with_reducible first | exact sl0 | exact .there sl0 | exact .there sl1 | exact .there sl2 | exact .there sl3 | exact .there sl4 | exact .there sl5 | exact .there sl6 | exact .there sl7 | exact .there sl8 | exact .there sl9 | exact .there sl10 | exact .there sl11 | exact .there sl12) ?_; rfl) (ldS.mk (by refine Ok.cellS h (by with_reducible first | exact sl0 | exact .there sl0 | exact .there sl1 | exact .there sl2 | exact .there sl3 | exact .there sl4 | exact .there sl5 | exact .there sl6 | exact .there sl7 | exact .there sl8 | exact .there sl9 | exact .there sl10 | exact .there sl11 | exact .there sl12) ?_; rfl) (ldI.mk (by refine Ok.cellS h (by with_reducible first | exact sl0 | exact .there sl0 | exact .there sl1 | exact .there sl2 | exact .there sl3 | exact .there sl4 | exact .there sl5 | exact .there sl6 | exact .there sl7 | exact .there sl8 | exact .there sl9 | exact .there sl10 | exact .there sl11 | exact .there sl12) ?_; rfl) ?_))))))))
  have h : Ok e (cfR c S (pts k [vS s, vS ⟨none, 0, 0⟩, vS s2, vS ⟨none, 0, 0⟩, .int .i64 (c.mtxs.length : Int), pV lk, x6, x7, x8, x9, x10, x11, x12] :: datasP s2 (c.datas.map datN) :: semsP s (c.sems.map semN) :: pts b (cfC c S) :: mmP lk (MM.new c.mtxs) :: L)) w5 := (h.emb (by repeat' (first | with_reducible exact Emb.same _ | exact Emb.nil _ | refine Emb.cons (by with_reducible first | exact sl0 | exact .there sl0 | exact .there sl1 | exact .there sl2 | exact .there sl3 | exact .there sl4 | exact .there sl5 | exact .there sl6 | exact .there sl7 | exact .there sl8 | exact .there sl9 | exact .there sl10 | exact .there sl11 | exact .there sl12) ?_ | refine Emb.skip ?_)))
  refine call185 (a0 := cfV c S) (Layout_conf h hc fun x w6 h => ⟨(x, ()), rfl, ?_⟩)
  have hxl := h.slc_len
  simp [layout_len] at hxl
  refine lp.mk (fun t w1 => ∃ (i : Nat) (s3 : Sl), @Eq Int t.1 (i : Int) ∧ i ≤ c.pools.length ∧ Ok e (pts k [vS s, vS ⟨none, 0, 0⟩, vS s2, vS s3, .int .i64 (c.mtxs.length : Int), pV lk, x6, x7, x8, x9, x10, x11, x12] :: poolsP s3 (List.zipWith poolN ((layoutM 0 c.pools).take i) (c.pools.take i)) :: slc 1 x (ints (layoutM 0 c.pools)) :: datasP s2 (c.datas.map datN) :: semsP s (c.sems.map semN) :: pts b (cfC c S) :: mmP lk (MM.new c.mtxs) :: cfR c S L) w1)
    (fun t _ => Int.toNat (Int.sub c.pools.length t.1)) ⟨0, ⟨none, 0, 0⟩, rfl, by omega, ?_⟩ ?_
  · have h := ptrs_nil (P := poolQ) (d := ⟨false, 0, 0, 0, mp0⟩) (h.slcNil 1)
    have h : Ok e (pts k [vS s, vS ⟨none, 0, 0⟩, vS s2, vS ⟨none, 0, 0⟩, .int .i64 (c.mtxs.length : Int), pV lk, x6, x7, x8, x9, x10, x11, x12] :: ptrsP poolQ [] ⟨false, 0, 0, 0, mp0⟩ ⟨none, 0, 0⟩ [] :: slc 1 x (ints (layoutM 0 c.pools)) :: datasP s2 (c.datas.map datN) :: semsP s (c.sems.map semN) :: pts b (cfC c S) :: mmP lk (MM.new c.mtxs) :: cfR c S L) w6 := (h.emb (by repeat' (first | with_reducible exact Emb.same _ | exact Emb.nil _ | refine Emb.cons (by with_reducible first | exact sl0 | exact .there sl0 | exact .there sl1 | exact .there sl2 | exact .there sl3 | exact .there sl4 | exact .there sl5 | exact .there sl6 | exact .there sl7 | exact .there sl8 | exact .there sl9 | exact .there sl10 | exact .there sl11 | exact .there sl12) ?_ | refine Emb.skip ?_)))
    exact h
  rintro ⟨(t : Int), _⟩ w5 ⟨i, s3, (rfl : t = (i : Int)), hi, h⟩
  dsimp only
  refine cs.mk (fun h2 => ?_) (fun h2 => ?_)
  · have h2 : i < c.pools.length := by have := of_decide_eq_true h2; omega
    obtain ⟨hg, hn⟩ := pools_get hc.p (List.getElem?_eq_getElem h2)
    refine ix_int ((Ok.emb (h) (.cons (A := slc 1 x (ints (layoutM 0 c.pools))) (by with_reducible first | exact sl0 | exact .there sl0 | exact .there sl1 | exact .there sl2 | exact .there sl3 | exact .there sl4 | exact .there sl5 | exact .there sl6 | exact .there sl7 | exact .there sl8 | exact .there sl9 | exact .there sl10 | exact .there sl11 | exact .there sl12) (.same _)))) (by omega) (by omega) fun b1 o1 z hz hcz => ldI.mk (hcz _ ⟨_, (Ok.emb (h) (.cons (A := slc 1 x (ints (layoutM 0 c.pools))) (by with_reducible first | exact sl0 | exact .there sl0 | exact .there sl1 | exact .there sl2 | exact .there sl3 | exact .there sl4 | exact .there sl5 | exact .there sl6 | exact .there sl7 | exact .there sl8 | exact .there sl9 | exact .there sl10 | exact .there sl11 | exact .there sl12) (.same _)))⟩) (ldS.mk (by refine Ok.cellS h (by with_reducible first | exact sl0 | exact .there sl0 | exact .there sl1 | exact .there sl2 | exact .there sl3 | exact .there sl4 | exact .there sl5 | exact .there sl6 | exact .there sl7 | exact .there sl8 | exact .there sl9 | exact .there sl10 | exact .there sl11 | exact .there sl12) ?_; rfl) ?_)
    rw [Int.toNat_natCast, layout_get h2] at hz
    cases hz
    refine ix_pool ((Ok.emb (h) (.cons (A := slc 3 S.ps (flat seC c.pools)) (by with_reducible first | exact sl0 | exact .there sl0 | exact .there sl1 | exact .there sl2 | exact .there sl3 | exact .there sl4 | exact .there sl5 | exact .there sl6 | exact .there sl7 | exact .there sl8 | exact .there sl9 | exact .there sl10 | exact .there sl11 | exact .there sl12) (.same _)))) h2 fun b2 o2 hc2 => ?_
    obtain ⟨r1, r2, r3⟩ := hc2 w5 ⟨_, (Ok.emb (h) (.cons (A := slc 3 S.ps (flat seC c.pools)) (by with_reducible first | exact sl0 | exact .there sl0 | exact .there sl1 | exact .there sl2 | exact .there sl3 | exact .there sl4 | exact .there sl5 | exact .there sl6 | exact .there sl7 | exact .there sl8 | exact .there sl9 | exact .there sl10 | exact .there sl11 | exact .there sl12) (.same _)))⟩
    refine ldB.mk r1 (ldI.mk r2 (ldI.mk r3 (al.mk h fun d w6 h => st1.mk h (by simp) fun w6 h => st1.mk h (by simp) fun w6 h => st1.mk h (by simp) fun w6 h => ldB.mk (h.cell rfl) (ldI.mk (h.cell rfl) (ldI.mk (h.cell rfl) ?_)))))
    have h := h.drop
    refine call182 (NewPool_mpf h (fun _ _ hn => absurd hg hn) fun _ sb w7 h => ⟨(some ⟨sb, 0, none⟩, (0 : Int), ()), rfl, nn.mk ?_⟩)
    have h := h.imp (B := poolQ sb (poolN (stp (bytesM 0 (c.pools.take i))) c.pools[i])) fun k hk => ⟨mp0_ok hg, hk⟩
    have hkl := ptrs_len ((Ok.emb (h) (.cons (A := poolsP s3 (List.zipWith poolN ((layoutM 0 c.pools).take i) (c.pools.take i))) (by with_reducible first | exact sl0 | exact .there sl0 | exact .there sl1 | exact .there sl2 | exact .there sl3 | exact .there sl4 | exact .there sl5 | exact .there sl6 | exact .there sl7 | exact .there sl8 | exact .there sl9 | exact .there sl10 | exact .there sl11 | exact .there sl12) (.same _))))
    refine ldS.mk (h.p1.cell rfl) (al.mk h fun f w8 h => ?_)
    refine ef.appendPtr (P := poolQ) (pre := []) slT_poolp ((Ok.emb (h) (.cons (A := pts f [pV sb]) (by with_reducible first | exact sl0 | exact .there sl0 | exact .there sl1 | exact .there sl2 | exact .there sl3 | exact .there sl4 | exact .there sl5 | exact .there sl6 | exact .there sl7 | exact .there sl8 | exact .there sl9 | exact .there sl10 | exact .there sl11 | exact .there sl12) (.cons (A := poolQ sb (poolN (stp (bytesM 0 (c.pools.take i))) c.pools[i])) (by with_reducible first | exact sl0 | exact .there sl0 | exact .there sl1 | exact .there sl2 | exact .there sl3 | exact .there sl4 | exact .there sl5 | exact .there sl6 | exact .there sl7 | exact .there sl8 | exact .there sl9 | exact .there sl10 | exact .there sl11 | exact .there sl12) (.cons (A := poolsP s3 (List.zipWith poolN ((layoutM 0 c.pools).take i) (c.pools.take i))) (by with_reducible first | exact sl0 | exact .there sl0 | exact .there sl1 | exact .there sl2 | exact .there sl3 | exact .there sl4 | exact .there sl5 | exact .there sl6 | exact .there sl7 | exact .there sl8 | exact .there sl9 | exact .there sl10 | exact .there sl11 | exact .there sl12) (.same _)))))) (by simp; omega) fun s' w9 h => nn.mk (st1.mk h.p1 (by simp) fun w10 h => ?_)
    refine ⟨⟨i + 1, s', w64_in (by omega) (by omega), h2, ?_⟩, ?_⟩
    · rw [zip_take (layout_get h2) (List.getElem?_eq_getElem h2)]
      exact h
    · show ((c.pools.length : Int) - w64 ((i : Int) + 1)).toNat < ((c.pools.length : Int) - (i : Int)).toNat
      rw [w64_in (by omega) (by omega)]
      omega
  have h2 : i = c.pools.length := by have := of_decide_eq_false h2; omega
  subst h2
  rw [List.take_length, List.take_of_length_le (by rw [layout_len]; omega)] at h
  exact kk s s2 s3 lk w5 (h.emb (by repeat' (first | with_reducible exact Emb.same _ | exact Emb.nil _ | refine Emb.cons (by with_reducible first | exact sl0 | exact .there sl0 | exact .there sl1 | exact .there sl2 | exact .there sl3 | exact .there sl4 | exact .there sl5 | exact .there sl6 | exact .there sl7 | exact .there sl8 | exact .there sl9 | exact .there sl10 | exact .there sl11 | exact .there sl12) ?_ | refine Emb.skip ?_)))

end Go.Proofs.YtenonfkfoedfmaaGreatDoor.B

