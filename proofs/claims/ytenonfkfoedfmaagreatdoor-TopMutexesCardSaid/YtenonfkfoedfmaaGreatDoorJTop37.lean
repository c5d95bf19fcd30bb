/- Texts of ours, joined: Ker5, Cal, Do, Nam, Conf, Conf2, New, New2, Top, Top2. -/
import Derived.Test.YtenonfkfoedfmaaGreatDoorJTop36
set_option linter.unusedSimpArgs false
set_option linter.unusedVariables false
/- Contracts of the kernel's functions: a tick; interrupts; what is told of a task. -/
namespace Go.Proofs.YtenonfkfoedfmaaGreatDoor.B
open Go
set_option linter.unusedVariables false

theorem Running_kern {e w L k A K R} (h : Ok e (kerP k A K :: L) w) (kk : R [.int .i64 K.who] w) : sh21 (some ⟨k, 0, none⟩) R w := by
  obtain ⟨ho, h⟩ := kerE h
  unfold sh21
  exact nn.mk (ldI.mk (h.cell rfl) kk)

theorem Tick_kern {e w L k A K K' R} (tb : TabE e) (h : Ok e (kerP k A K :: old e :: L) w) (hm : K.tick = some K') (kk : ∀ w', Ok e (kerP k A K' :: old e :: L) w' → R [vS ⟨none, 0, 0⟩] w') : sh22 (some ⟨k, 0, none⟩) R w := by
  unfold sh22
  unfold KM.tick at hm
  split at hm
  · next hu =>
    obtain ⟨K2, hK2, rfl⟩ := Option.map_eq_some_iff.1 hm
    obtain ⟨ho, h⟩ := kerE h
    have hdl : ((dueE (K.up + K.tic) K.ents).map Ent.arg).length ≤ 256 := by
      obtain ⟨c0, t0, h0⟩ := hnE ((Ok.emb (h) (.cons (A := hnP A.hn K.tic K.up K.tb K.last K.ents) (by with_reducible first | exact sl0 | exact .there sl0 | exact .there sl1 | exact .there sl2 | exact .there sl3 | exact .there sl4 | exact .there sl5 | exact .there sl6 | exact .there sl7 | exact .there sl8 | exact .there sl9 | exact .there sl10 | exact .there sl11 | exact .there sl12) (.same _))))
      have h1 := (tm_ok h0.p2).len
      have h2 : (dueE (K.up + K.tic) K.ents).length ≤ K.ents.length := (List.takeWhile_sublist _).length_le
      rw [List.length_map]; omega
    refine nn.mk (ldP.mk (h.cell rfl) ?_)
    refine call53 (Pass_cyc ((Ok.emb (h) (.cons (A := hnP A.hn K.tic K.up K.tb K.last K.ents) (by with_reducible first | exact sl0 | exact .there sl0 | exact .there sl1 | exact .there sl2 | exact .there sl3 | exact .there sl4 | exact .there sl5 | exact .there sl6 | exact .there sl7 | exact .there sl8 | exact .there sl9 | exact .there sl10 | exact .there sl11 | exact .there sl12) (.same _)))) ⟨ho.t0, ho.t1⟩ hu fun s w1 h => ⟨(⟨none, 0, 0⟩, s, ()), rfl, ?_⟩)
    have h := kerI (K := { K with up := K.up + K.tic, ents := restE (K.up + K.tic) K.ents }) (A := A) (ho.of rfl rfl rfl rfl rfl) ((h.emb (by repeat' (first | with_reducible exact Emb.same _ | exact Emb.nil _ | refine Emb.cons (by with_reducible first | exact sl0 | exact .there sl0 | exact .there sl1 | exact .there sl2 | exact .there sl3 | exact .there sl4 | exact .there sl5 | exact .there sl6 | exact .there sl7 | exact .there sl8 | exact .there sl9 | exact .there sl10 | exact .there sl11 | exact .there sl12) ?_ | refine Emb.skip ?_))) : Ok e (pts k (kC A K) :: unitsP A.ub A.us K.us :: semsP A.ss K.sems :: flgP A.fs :: datasP A.ds K.datas :: poolsP A.ps K.pools :: mmP A.lk K.mm :: placeP A.pl K.pl :: hnP A.hn K.tic (K.up + K.tic) K.tb K.last (restE (K.up + K.tic) K.ents) :: rdyP A.rq K.rdy :: old e :: slc 1 s (ints ((dueE (K.up + K.tic) K.ents).map Ent.arg)) :: L) w1)
    have hsl : ((dueE (K.up + K.tic) K.ents).map Ent.arg).length = s.len := by have := h.p2.slc_len; rw [ints_len] at this; omega
    generalize (dueE (K.up + K.tic) K.ents).map Ent.arg = l at *
    refine lp.mk (fun t w1 => ∃ (i : Nat) (N : KM), @Eq Int t.1 (i : Int) ∧ i ≤ l.length ∧ KM.tickL (l.drop i) N = some K2 ∧ Ok e (kerP k A N :: old e :: slc 1 s (ints l) :: L) w1) (fun t _ => Int.toNat (Int.sub l.length t.1)) ⟨0, _, rfl, Nat.zero_le _, hK2, h⟩ ?_
    rintro ⟨(t : Int), _⟩ w2 ⟨i, N, (rfl : t = (i : Int)), hi, hm, h⟩
    refine cs.mk (fun h1 => ?_) (fun h1 => ?_)
    · have h1 : i < l.length := by have := of_decide_eq_true h1; dsimp only at this; omega
      rw [List.drop_eq_getElem_cons h1, KM.tickL] at hm
      obtain ⟨u, hu, hm⟩ := Option.bind_eq_some_iff.1 hm
      obtain ⟨N2, hN2, hm⟩ := Option.bind_eq_some_iff.1 hm
      obtain ⟨N3, hN3, hm⟩ := Option.bind_eq_some_iff.1 hm
      obtain ⟨N4, hN4, hm⟩ := Option.bind_eq_some_iff.1 hm
      refine ix_int h.p2 (by dsimp only; omega) (by dsimp only; omega) fun b o y hy hc => ldI.mk (hc _ ⟨_, h.p2⟩) ?_
      rw [Int.toNat_natCast, List.getElem?_eq_getElem h1] at hy
      cases hy
      obtain ⟨t0, H0, _, h0, _, read0⟩ := ker_un h hu
      refine nn.mk (ldS.mk (h0.cell rfl) (read0 e _ w2 _ ((Ok.emb (h0) (.cons (A := H0) (by with_reducible first | exact sl0 | exact .there sl0 | exact .there sl1 | exact .there sl2 | exact .there sl3 | exact .there sl4 | exact .there sl5 | exact .there sl6 | exact .there sl7 | exact .there sl8 | exact .there sl9 | exact .there sl10 | exact .there sl11 | exact .there sl12) (.same _)))) fun b2 o2 hc => ldP.mk hc (nn.mk (ldI.mk (h0.p1.cell rfl) ?_))))
      refine jn.at (t := ((if u.kind = 2 then 0 else -50 : Int), ())) (fun w' => w' = w2) (fun J hJ => cs.mk (fun h2 => ?_) (fun h2 => ?_)) ?_
      · have h2 : u.kind = 2 := by simpa using h2
        rw [if_pos h2] at hJ
        exact hJ _ rfl
      · have h2 : ¬ u.kind = 2 := by simpa using h2
        rw [if_neg h2] at hJ
        exact hJ _ rfl
      rintro w' rfl
      refine call54 (leave_kern h hN2 fun w3 h => ⟨(), rfl, ?_⟩)
      refine call55 (a2 := ((if u.kind = 2 then 0 else -50 : Int), (0 : Int), ())) (wake_kern h hN3 fun w4 h => ⟨(), rfl, ?_⟩)
      refine call56 (settle_kern h hN4 fun w5 h => ⟨(), rfl, ?_⟩)
      refine ⟨⟨i + 1, N4, ?_, h1, hm, h⟩, ?_⟩
      · show w64 ((i : Int) + 1) = _
        rw [w64_in (by omega) (by omega)]; rfl
      · show Int.toNat (Int.sub _ (w64 ((i : Int) + 1))) < Int.toNat (Int.sub _ (i : Int))
        rw [w64_in (by omega) (by omega)]
        show Int.toNat ((l.length : Int) - ((i : Int) + 1)) < Int.toNat ((l.length : Int) - (i : Int))
        omega
    · have h1 : l.length ≤ i := by have := of_decide_eq_false h1; dsimp only at this; omega
      rw [List.drop_eq_nil_of_le h1] at hm
      cases hm
      exact call57 (choose_kern tb h fun w3 h => ⟨(), rfl, kk w3 h.p2.drop⟩)
  · cases hm

theorem Task_kern {e w L k A K n f R} (h : Ok e (kerP k A K :: L) w) (hm : K.task n = some f)
    (kk : ∀ w', Ok e (kerP k A K :: L) w' → R [.agg #[.int .i64 f.state, .int .i64 f.pri, .int .i64 f.base, .int .i64 0, .int .i64 f.kind, .int .i64 f.obj, .int .i64 f.lc, .int .i64 f.lv], .agg #[.int .i64 f.acts, .int .i64 f.wups, .int .i64 f.susps], .int .i64 0] w') : sh24 (some ⟨k, 0, none⟩) n R w := by
  unfold sh24
  obtain ⟨u, hu, hm⟩ := Option.bind_eq_some_iff.1 hm
  obtain ⟨p, hp, hm⟩ := Option.bind_eq_some_iff.1 hm
  obtain ⟨q, hq, rfl⟩ := Option.map_eq_some_iff.1 hm
  refine al.mk h fun b1 w1 h => al.mk h fun b3 w2 h => ?_
  obtain ⟨hn1, hn2, _⟩ := un_get hu
  obtain ⟨t, H, ho, h, back, read⟩ := ker_un (L := pts b3 [.int .i64 0, .int .i64 0, .int .i64 0] :: pts b1 [.int .i64 0, .int .i64 0, .int .i64 0, .int .i64 0, .int .i64 0, .int .i64 0, .int .i64 0, .int .i64 0] :: L) h.p2 hu
  have husl : A.us.len = 1 + K.us.length := by
    obtain ⟨_, h9⟩ := kerE (back K u e _ w2 ho rfl h)
    have := ptrsB_len (h9.p1 : Ok e (ptrsB unP [.pointer none] un0 A.ub A.us (K.setU n u).us :: _) w2)
    rw [setU_same hu] at this
    simpa using this
  refine jn.bool false (fun J hJ => cs.no (by simp; omega) (nn.mk (ldS.mk (h.cell rfl) ?_))) (cs.no rfl ?_)
  · rw [decide_eq_false (by omega)]
    exact hJ
  refine nn.mk (ldS.mk (h.cell rfl) (read e _ w2 _ ((Ok.emb (h) (.cons (A := H) (by with_reducible first | exact sl0 | exact .there sl0 | exact .there sl1 | exact .there sl2 | exact .there sl3 | exact .there sl4 | exact .there sl5 | exact .there sl6 | exact .there sl7 | exact .there sl8 | exact .there sl9 | exact .there sl10 | exact .there sl11 | exact .there sl12) (.same _)))) fun b2 o2 hc => ldP.mk hc (dr.mk h fun w3 h => ?_)))
  refine nn.mk (ldP.mk (h.p1.cell rfl) (nn.mk (ldI.mk (h.p2.cell rfl) ?_)))
  refine nn.mk (ldP.mk (h.cell rfl) (nn.mk (ldP.mk (h.cell rfl) ?_)))
  refine nn.mk (ldI.mk (h.p1.cell rfl) (nn.mk (ldI.mk (h.p1.cell rfl) ?_)))
  refine nn.mk (ldI.mk (h.p1.cell rfl) (ldI.mk (h.p1.cell rfl) ?_))
  have pri : ∀ {w L} {K0 : TK [kI] → World → Prop}, Ok e (mmP A.lk K.mm :: L) w → K0 (p, ()) w → cl Pg 35 [pV A.lk, .int .i64 n] [kI] w K0 := fun h k0 => call35 (Pri_mtx h hp ⟨(p, ()), rfl, k0⟩)
  have bas : ∀ {w L} {K0 : TK [kI] → World → Prop}, Ok e (mmP A.lk K.mm :: L) w → K0 (q, ()) w → cl Pg 36 [pV A.lk, .int .i64 n] [kI] w K0 := fun h k0 => call36 (Base_mtx h hq ⟨(q, ()), rfl, k0⟩)
  refine ⟨pri ((Ok.emb (h) (.cons (A := mmP A.lk K.mm) (by with_reducible first | exact sl0 | exact .there sl0 | exact .there sl1 | exact .there sl2 | exact .there sl3 | exact .there sl4 | exact .there sl5 | exact .there sl6 | exact .there sl7 | exact .there sl8 | exact .there sl9 | exact .there sl10 | exact .there sl11 | exact .there sl12) (.same _)))) ⟨⟨(by refine Ok.cellS h (by with_reducible first | exact sl0 | exact .there sl0 | exact .there sl1 | exact .there sl2 | exact .there sl3 | exact .there sl4 | exact .there sl5 | exact .there sl6 | exact .there sl7 | exact .there sl8 | exact .there sl9 | exact .there sl10 | exact .there sl11 | exact .there sl12) ?_; rfl), (by refine Ok.cellS h (by with_reducible first | exact sl0 | exact .there sl0 | exact .there sl1 | exact .there sl2 | exact .there sl3 | exact .there sl4 | exact .there sl5 | exact .there sl6 | exact .there sl7 | exact .there sl8 | exact .there sl9 | exact .there sl10 | exact .there sl11 | exact .there sl12) ?_; rfl)⟩, (by refine Ok.cellS h (by with_reducible first | exact sl0 | exact .there sl0 | exact .there sl1 | exact .there sl2 | exact .there sl3 | exact .there sl4 | exact .there sl5 | exact .there sl6 | exact .there sl7 | exact .there sl8 | exact .there sl9 | exact .there sl10 | exact .there sl11 | exact .there sl12) ?_; rfl), (by refine Ok.cellS h (by with_reducible first | exact sl0 | exact .there sl0 | exact .there sl1 | exact .there sl2 | exact .there sl3 | exact .there sl4 | exact .there sl5 | exact .there sl6 | exact .there sl7 | exact .there sl8 | exact .there sl9 | exact .there sl10 | exact .there sl11 | exact .there sl12) ?_; rfl), (by refine Ok.cellS h (by with_reducible first | exact sl0 | exact .there sl0 | exact .there sl1 | exact .there sl2 | exact .there sl3 | exact .there sl4 | exact .there sl5 | exact .there sl6 | exact .there sl7 | exact .there sl8 | exact .there sl9 | exact .there sl10 | exact .there sl11 | exact .there sl12) ?_; rfl), (by refine Ok.cellS h (by with_reducible first | exact sl0 | exact .there sl0 | exact .there sl1 | exact .there sl2 | exact .there sl3 | exact .there sl4 | exact .there sl5 | exact .there sl6 | exact .there sl7 | exact .there sl8 | exact .there sl9 | exact .there sl10 | exact .there sl11 | exact .there sl12) ?_; rfl), (by refine Ok.cellS h (by with_reducible first | exact sl0 | exact .there sl0 | exact .there sl1 | exact .there sl2 | exact .there sl3 | exact .there sl4 | exact .there sl5 | exact .there sl6 | exact .there sl7 | exact .there sl8 | exact .there sl9 | exact .there sl10 | exact .there sl11 | exact .there sl12) ?_; rfl), ?_⟩, al.mk h fun fb w4 h => ⟨⟨(by refine Ok.cellS h (by with_reducible first | exact sl0 | exact .there sl0 | exact .there sl1 | exact .there sl2 | exact .there sl3 | exact .there sl4 | exact .there sl5 | exact .there sl6 | exact .there sl7 | exact .there sl8 | exact .there sl9 | exact .there sl10 | exact .there sl11 | exact .there sl12) ?_; rfl), (by refine Ok.cellS h (by with_reducible first | exact sl0 | exact .there sl0 | exact .there sl1 | exact .there sl2 | exact .there sl3 | exact .there sl4 | exact .there sl5 | exact .there sl6 | exact .there sl7 | exact .there sl8 | exact .there sl9 | exact .there sl10 | exact .there sl11 | exact .there sl12) ?_; rfl)⟩, (by refine Ok.cellS h (by with_reducible first | exact sl0 | exact .there sl0 | exact .there sl1 | exact .there sl2 | exact .there sl3 | exact .there sl4 | exact .there sl5 | exact .there sl6 | exact .there sl7 | exact .there sl8 | exact .there sl9 | exact .there sl10 | exact .there sl11 | exact .there sl12) ?_; rfl), (by refine Ok.cellS h (by with_reducible first | exact sl0 | exact .there sl0 | exact .there sl1 | exact .there sl2 | exact .there sl3 | exact .there sl4 | exact .there sl5 | exact .there sl6 | exact .there sl7 | exact .there sl8 | exact .there sl9 | exact .there sl10 | exact .there sl11 | exact .there sl12) ?_; rfl), (by refine Ok.cellS h (by with_reducible first | exact sl0 | exact .there sl0 | exact .there sl1 | exact .there sl2 | exact .there sl3 | exact .there sl4 | exact .there sl5 | exact .there sl6 | exact .there sl7 | exact .there sl8 | exact .there sl9 | exact .there sl10 | exact .there sl11 | exact .there sl12) ?_; rfl), (by refine Ok.cellS h (by with_reducible first | exact sl0 | exact .there sl0 | exact .there sl1 | exact .there sl2 | exact .there sl3 | exact .there sl4 | exact .there sl5 | exact .there sl6 | exact .there sl7 | exact .there sl8 | exact .there sl9 | exact .there sl10 | exact .there sl11 | exact .there sl12) ?_; rfl), (by refine Ok.cellS h (by with_reducible first | exact sl0 | exact .there sl0 | exact .there sl1 | exact .there sl2 | exact .there sl3 | exact .there sl4 | exact .there sl5 | exact .there sl6 | exact .there sl7 | exact .there sl8 | exact .there sl9 | exact .there sl10 | exact .there sl11 | exact .there sl12) ?_; rfl), (by refine Ok.cellS h (by with_reducible first | exact sl0 | exact .there sl0 | exact .there sl1 | exact .there sl2 | exact .there sl3 | exact .there sl4 | exact .there sl5 | exact .there sl6 | exact .there sl7 | exact .there sl8 | exact .there sl9 | exact .there sl10 | exact .there sl11 | exact .there sl12) ?_; rfl), ?_⟩⟩
  · refine ⟨bas ((Ok.emb (h) (.cons (A := mmP A.lk K.mm) (by with_reducible first | exact sl0 | exact .there sl0 | exact .there sl1 | exact .there sl2 | exact .there sl3 | exact .there sl4 | exact .there sl5 | exact .there sl6 | exact .there sl7 | exact .there sl8 | exact .there sl9 | exact .there sl10 | exact .there sl11 | exact .there sl12) (.same _)))) ⟨⟨(by refine Ok.cellS h (by with_reducible first | exact sl0 | exact .there sl0 | exact .there sl1 | exact .there sl2 | exact .there sl3 | exact .there sl4 | exact .there sl5 | exact .there sl6 | exact .there sl7 | exact .there sl8 | exact .there sl9 | exact .there sl10 | exact .there sl11 | exact .there sl12) ?_; rfl), (by refine Ok.cellS h (by with_reducible first | exact sl0 | exact .there sl0 | exact .there sl1 | exact .there sl2 | exact .there sl3 | exact .there sl4 | exact .there sl5 | exact .there sl6 | exact .there sl7 | exact .there sl8 | exact .there sl9 | exact .there sl10 | exact .there sl11 | exact .there sl12) ?_; rfl)⟩, (by refine Ok.cellS h (by with_reducible first | exact sl0 | exact .there sl0 | exact .there sl1 | exact .there sl2 | exact .there sl3 | exact .there sl4 | exact .there sl5 | exact .there sl6 | exact .there sl7 | exact .there sl8 | exact .there sl9 | exact .there sl10 | exact .there sl11 | exact .there sl12) ?_; rfl), (by refine Ok.cellS h (by with_reducible first | exact sl0 | exact .there sl0 | exact .there sl1 | exact .there sl2 | exact .there sl3 | exact .there sl4 | exact .there sl5 | exact .there sl6 | exact .there sl7 | exact .there sl8 | exact .there sl9 | exact .there sl10 | exact .there sl11 | exact .there sl12) ?_; rfl), (by refine Ok.cellS h (by with_reducible first | exact sl0 | exact .there sl0 | exact .there sl1 | exact .there sl2 | exact .there sl3 | exact .there sl4 | exact .there sl5 | exact .there sl6 | exact .there sl7 | exact .there sl8 | exact .there sl9 | exact .there sl10 | exact .there sl11 | exact .there sl12) ?_; rfl), (by refine Ok.cellS h (by with_reducible first | exact sl0 | exact .there sl0 | exact .there sl1 | exact .there sl2 | exact .there sl3 | exact .there sl4 | exact .there sl5 | exact .there sl6 | exact .there sl7 | exact .there sl8 | exact .there sl9 | exact .there sl10 | exact .there sl11 | exact .there sl12) ?_; rfl), ?_⟩, al.mk h fun fb w4 h => ⟨⟨(by refine Ok.cellS h (by with_reducible first | exact sl0 | exact .there sl0 | exact .there sl1 | exact .there sl2 | exact .there sl3 | exact .there sl4 | exact .there sl5 | exact .there sl6 | exact .there sl7 | exact .there sl8 | exact .there sl9 | exact .there sl10 | exact .there sl11 | exact .there sl12) ?_; rfl), (by refine Ok.cellS h (by with_reducible first | exact sl0 | exact .there sl0 | exact .there sl1 | exact .there sl2 | exact .there sl3 | exact .there sl4 | exact .there sl5 | exact .there sl6 | exact .there sl7 | exact .there sl8 | exact .there sl9 | exact .there sl10 | exact .there sl11 | exact .there sl12) ?_; rfl)⟩, (by refine Ok.cellS h (by with_reducible first | exact sl0 | exact .there sl0 | exact .there sl1 | exact .there sl2 | exact .there sl3 | exact .there sl4 | exact .there sl5 | exact .there sl6 | exact .there sl7 | exact .there sl8 | exact .there sl9 | exact .there sl10 | exact .there sl11 | exact .there sl12) ?_; rfl), (by refine Ok.cellS h (by with_reducible first | exact sl0 | exact .there sl0 | exact .there sl1 | exact .there sl2 | exact .there sl3 | exact .there sl4 | exact .there sl5 | exact .there sl6 | exact .there sl7 | exact .there sl8 | exact .there sl9 | exact .there sl10 | exact .there sl11 | exact .there sl12) ?_; rfl), (by refine Ok.cellS h (by with_reducible first | exact sl0 | exact .there sl0 | exact .there sl1 | exact .there sl2 | exact .there sl3 | exact .there sl4 | exact .there sl5 | exact .there sl6 | exact .there sl7 | exact .there sl8 | exact .there sl9 | exact .there sl10 | exact .there sl11 | exact .there sl12) ?_; rfl), (by refine Ok.cellS h (by with_reducible first | exact sl0 | exact .there sl0 | exact .there sl1 | exact .there sl2 | exact .there sl3 | exact .there sl4 | exact .there sl5 | exact .there sl6 | exact .there sl7 | exact .there sl8 | exact .there sl9 | exact .there sl10 | exact .there sl11 | exact .there sl12) ?_; rfl), (by refine Ok.cellS h (by with_reducible first | exact sl0 | exact .there sl0 | exact .there sl1 | exact .there sl2 | exact .there sl3 | exact .there sl4 | exact .there sl5 | exact .there sl6 | exact .there sl7 | exact .there sl8 | exact .there sl9 | exact .there sl10 | exact .there sl11 | exact .there sl12) ?_; rfl), (by refine Ok.cellS h (by with_reducible first | exact sl0 | exact .there sl0 | exact .there sl1 | exact .there sl2 | exact .there sl3 | exact .there sl4 | exact .there sl5 | exact .there sl6 | exact .there sl7 | exact .there sl8 | exact .there sl9 | exact .there sl10 | exact .there sl11 | exact .there sl12) ?_; rfl), ?_⟩⟩
    · refine al.mk h fun fb w5 h => ⟨⟨(by refine Ok.cellS h (by with_reducible first | exact sl0 | exact .there sl0 | exact .there sl1 | exact .there sl2 | exact .there sl3 | exact .there sl4 | exact .there sl5 | exact .there sl6 | exact .there sl7 | exact .there sl8 | exact .there sl9 | exact .there sl10 | exact .there sl11 | exact .there sl12) ?_; rfl), (by refine Ok.cellS h (by with_reducible first | exact sl0 | exact .there sl0 | exact .there sl1 | exact .there sl2 | exact .there sl3 | exact .there sl4 | exact .there sl5 | exact .there sl6 | exact .there sl7 | exact .there sl8 | exact .there sl9 | exact .there sl10 | exact .there sl11 | exact .there sl12) ?_; rfl)⟩, (by refine Ok.cellS h (by with_reducible first | exact sl0 | exact .there sl0 | exact .there sl1 | exact .there sl2 | exact .there sl3 | exact .there sl4 | exact .there sl5 | exact .there sl6 | exact .there sl7 | exact .there sl8 | exact .there sl9 | exact .there sl10 | exact .there sl11 | exact .there sl12) ?_; rfl), (by refine Ok.cellS h (by with_reducible first | exact sl0 | exact .there sl0 | exact .there sl1 | exact .there sl2 | exact .there sl3 | exact .there sl4 | exact .there sl5 | exact .there sl6 | exact .there sl7 | exact .there sl8 | exact .there sl9 | exact .there sl10 | exact .there sl11 | exact .there sl12) ?_; rfl), (by refine Ok.cellS h (by with_reducible first | exact sl0 | exact .there sl0 | exact .there sl1 | exact .there sl2 | exact .there sl3 | exact .there sl4 | exact .there sl5 | exact .there sl6 | exact .there sl7 | exact .there sl8 | exact .there sl9 | exact .there sl10 | exact .there sl11 | exact .there sl12) ?_; rfl), (by refine Ok.cellS h (by with_reducible first | exact sl0 | exact .there sl0 | exact .there sl1 | exact .there sl2 | exact .there sl3 | exact .there sl4 | exact .there sl5 | exact .there sl6 | exact .there sl7 | exact .there sl8 | exact .there sl9 | exact .there sl10 | exact .there sl11 | exact .there sl12) ?_; rfl), (by refine Ok.cellS h (by with_reducible first | exact sl0 | exact .there sl0 | exact .there sl1 | exact .there sl2 | exact .there sl3 | exact .there sl4 | exact .there sl5 | exact .there sl6 | exact .there sl7 | exact .there sl8 | exact .there sl9 | exact .there sl10 | exact .there sl11 | exact .there sl12) ?_; rfl), (by refine Ok.cellS h (by with_reducible first | exact sl0 | exact .there sl0 | exact .there sl1 | exact .there sl2 | exact .there sl3 | exact .there sl4 | exact .there sl5 | exact .there sl6 | exact .there sl7 | exact .there sl8 | exact .there sl9 | exact .there sl10 | exact .there sl11 | exact .there sl12) ?_; rfl), ?_⟩
      have h := ((h.emb (by repeat' (first | with_reducible exact Emb.same _ | exact Emb.nil _ | refine Emb.cons (by with_reducible first | exact sl0 | exact .there sl0 | exact .there sl1 | exact .there sl2 | exact .there sl3 | exact .there sl4 | exact .there sl5 | exact .there sl6 | exact .there sl7 | exact .there sl8 | exact .there sl9 | exact .there sl10 | exact .there sl11 | exact .there sl12) ?_ | refine Emb.skip ?_))) : Ok e (pts fb [.int .i64 0, .int .i64 0, .int .i64 0, .int .i64 0, .int .i64 0, .int .i64 0, .int .i64 0, .int .i64 0] :: pts k (kC A K) :: pts (A.ub (n - 1).toNat) (unC t u) :: pts t (tcC u) :: H :: kR A K (pts b3 [.int .i64 0, .int .i64 0, .int .i64 0] :: pts b1 [.int .i64 0, .int .i64 0, .int .i64 0, .int .i64 0, .int .i64 0, .int .i64 0, .int .i64 0, .int .i64 0] :: L)) _)
      refine st1.mk h (by simp) fun _ h => st1.mk h (by simp) fun _ h => st1.mk h (by simp) fun _ h => st1.mk h (by simp) fun _ h => st1.mk h (by simp) fun _ h => st1.mk h (by simp) fun _ h => st1.mk h (by simp) fun _ h => st1.mk h (by simp) fun w9 h => ?_
      have h : Ok e (pts fb [.int .i64 u.state, .int .i64 p, .int .i64 q, .int .i64 0, .int .i64 u.kind, .int .i64 u.obj, .int .i64 u.lc, .int .i64 u.lv] :: pts k (kC A K) :: pts (A.ub (n - 1).toNat) (unC t u) :: pts t (tcC u) :: H :: kR A K (pts b3 [.int .i64 0, .int .i64 0, .int .i64 0] :: pts b1 [.int .i64 0, .int .i64 0, .int .i64 0, .int .i64 0, .int .i64 0, .int .i64 0, .int .i64 0, .int .i64 0] :: L)) w9 := h
      refine nn.mk (ldI.mk (h.p1.cell rfl) ?_)
      refine jn.at (t := ()) (fun w' => Ok e (pts fb [.int .i64 (if n = K.who then 1 else u.state), .int .i64 p, .int .i64 q, .int .i64 0, .int .i64 u.kind, .int .i64 u.obj, .int .i64 u.lc, .int .i64 u.lv] :: pts k (kC A K) :: pts (A.ub (n - 1).toNat) (unC t u) :: pts t (tcC u) :: H :: kR A K (pts b3 [.int .i64 0, .int .i64 0, .int .i64 0] :: pts b1 [.int .i64 0, .int .i64 0, .int .i64 0, .int .i64 0, .int .i64 0, .int .i64 0, .int .i64 0, .int .i64 0] :: L)) w') (fun J hJ => cs.mk (fun h2 => ?_) (fun h2 => ?_)) (fun w10 h => ?_)
      · have h2 : n = K.who := by simpa using h2
        rw [if_pos h2] at hJ
        exact st1.mk h (by simp) fun w10 h => hJ w10 h
      · have h2 : ¬ n = K.who := by simpa using h2
        rw [if_neg h2] at hJ
        exact hJ w9 h
      refine dr.mk h fun w11 h => ldI.mk (h.cell rfl) (ldI.mk (h.cell rfl) (ldI.mk (h.cell rfl) (ldI.mk (h.cell rfl) (ldI.mk (h.cell rfl) (ldI.mk (h.cell rfl) (ldI.mk (h.cell rfl) (ldI.mk (h.cell rfl) ?_)))))))
      refine nn.mk (ldP.mk (h.p2.cell rfl) (nn.mk (ldI.mk (h.p3.cell rfl) (ldI.mk (h.p3.cell rfl) (ldI.mk (h.p3.cell rfl) ?_)))))
      have h := ((h.emb (by repeat' (first | with_reducible exact Emb.same _ | exact Emb.nil _ | refine Emb.cons (by with_reducible first | exact sl0 | exact .there sl0 | exact .there sl1 | exact .there sl2 | exact .there sl3 | exact .there sl4 | exact .there sl5 | exact .there sl6 | exact .there sl7 | exact .there sl8 | exact .there sl9 | exact .there sl10 | exact .there sl11 | exact .there sl12) ?_ | refine Emb.skip ?_))) : Ok e (pts b1 [.int .i64 0, .int .i64 0, .int .i64 0, .int .i64 0, .int .i64 0, .int .i64 0, .int .i64 0, .int .i64 0] :: pts b3 [.int .i64 0, .int .i64 0, .int .i64 0] :: pts t (tcC u) :: pts (A.ub (n - 1).toNat) (unC t u) :: pts k (kC A K) :: H :: kR A K L) _)
      refine st1.mk h (by simp) fun _ h => st1.mk h (by simp) fun _ h => st1.mk h (by simp) fun _ h => st1.mk h (by simp) fun _ h => st1.mk h (by simp) fun _ h => st1.mk h (by simp) fun _ h => st1.mk h (by simp) fun _ h => st1.mk h (by simp) fun w12 h => ?_
      refine ⟨⟨h.p2.cell rfl, h.p2.cell rfl, h.p2.cell rfl⟩, h.p3.cell rfl, ?_⟩
      refine st1.mk h.p1 (by simp) fun _ h => st1.mk h (by simp) fun _ h => st1.mk h (by simp) fun w13 h => ?_
      refine ldI.mk (h.p1.cell rfl) (ldI.mk (h.p1.cell rfl) (ldI.mk (h.p1.cell rfl) (ldI.mk (h.p1.cell rfl) (ldI.mk (h.p1.cell rfl) (ldI.mk (h.p1.cell rfl) (ldI.mk (h.p1.cell rfl) (ldI.mk (h.p1.cell rfl) ?_)))))))
      refine ldI.mk (h.cell rfl) (ldI.mk (h.cell rfl) (ldI.mk (h.cell rfl) (kk w13 ?_)))
      have h := back K u e L w13 ho rfl (h.emb (by repeat' (first | with_reducible exact Emb.same _ | exact Emb.nil _ | refine Emb.cons (by with_reducible first | exact sl0 | exact .there sl0 | exact .there sl1 | exact .there sl2 | exact .there sl3 | exact .there sl4 | exact .there sl5 | exact .there sl6 | exact .there sl7 | exact .there sl8 | exact .there sl9 | exact .there sl10 | exact .there sl11 | exact .there sl12) ?_ | refine Emb.skip ?_)))
      rw [setU_same hu] at h
      exact h
    · refine bas ((Ok.emb (h) (.cons (A := mmP A.lk K.mm) (by with_reducible first | exact sl0 | exact .there sl0 | exact .there sl1 | exact .there sl2 | exact .there sl3 | exact .there sl4 | exact .there sl5 | exact .there sl6 | exact .there sl7 | exact .there sl8 | exact .there sl9 | exact .there sl10 | exact .there sl11 | exact .there sl12) (.same _)))) ⟨⟨(by refine Ok.cellS h (by with_reducible first | exact sl0 | exact .there sl0 | exact .there sl1 | exact .there sl2 | exact .there sl3 | exact .there sl4 | exact .there sl5 | exact .there sl6 | exact .there sl7 | exact .there sl8 | exact .there sl9 | exact .there sl10 | exact .there sl11 | exact .there sl12) ?_; rfl), (by refine Ok.cellS h (by with_reducible first | exact sl0 | exact .there sl0 | exact .there sl1 | exact .there sl2 | exact .there sl3 | exact .there sl4 | exact .there sl5 | exact .there sl6 | exact .there sl7 | exact .there sl8 | exact .there sl9 | exact .there sl10 | exact .there sl11 | exact .there sl12) ?_; rfl)⟩, (by refine Ok.cellS h (by with_reducible first | exact sl0 | exact .there sl0 | exact .there sl1 | exact .there sl2 | exact .there sl3 | exact .there sl4 | exact .there sl5 | exact .there sl6 | exact .there sl7 | exact .there sl8 | exact .there sl9 | exact .there sl10 | exact .there sl11 | exact .there sl12) ?_; rfl), (by refine Ok.cellS h (by with_reducible first | exact sl0 | exact .there sl0 | exact .there sl1 | exact .there sl2 | exact .there sl3 | exact .there sl4 | exact .there sl5 | exact .there sl6 | exact .there sl7 | exact .there sl8 | exact .there sl9 | exact .there sl10 | exact .there sl11 | exact .there sl12) ?_; rfl), (by refine Ok.cellS h (by with_reducible first | exact sl0 | exact .there sl0 | exact .there sl1 | exact .there sl2 | exact .there sl3 | exact .there sl4 | exact .there sl5 | exact .there sl6 | exact .there sl7 | exact .there sl8 | exact .there sl9 | exact .there sl10 | exact .there sl11 | exact .there sl12) ?_; rfl), (by refine Ok.cellS h (by with_reducible first | exact sl0 | exact .there sl0 | exact .there sl1 | exact .there sl2 | exact .there sl3 | exact .there sl4 | exact .there sl5 | exact .there sl6 | exact .there sl7 | exact .there sl8 | exact .there sl9 | exact .there sl10 | exact .there sl11 | exact .there sl12) ?_; rfl), ?_⟩
      have h := ((h.emb (by repeat' (first | with_reducible exact Emb.same _ | exact Emb.nil _ | refine Emb.cons (by with_reducible first | exact sl0 | exact .there sl0 | exact .there sl1 | exact .there sl2 | exact .there sl3 | exact .there sl4 | exact .there sl5 | exact .there sl6 | exact .there sl7 | exact .there sl8 | exact .there sl9 | exact .there sl10 | exact .there sl11 | exact .there sl12) ?_ | refine Emb.skip ?_))) : Ok e (pts fb [.int .i64 0, .int .i64 0, .int .i64 0, .int .i64 0, .int .i64 0, .int .i64 0, .int .i64 0, .int .i64 0] :: pts k (kC A K) :: pts (A.ub (n - 1).toNat) (unC t u) :: pts t (tcC u) :: H :: kR A K (pts b3 [.int .i64 0, .int .i64 0, .int .i64 0] :: pts b1 [.int .i64 0, .int .i64 0, .int .i64 0, .int .i64 0, .int .i64 0, .int .i64 0, .int .i64 0, .int .i64 0] :: L)) _)
      refine st1.mk h (by simp) fun _ h => st1.mk h (by simp) fun _ h => st1.mk h (by simp) fun _ h => st1.mk h (by simp) fun _ h => st1.mk h (by simp) fun _ h => st1.mk h (by simp) fun _ h => st1.mk h (by simp) fun _ h => st1.mk h (by simp) fun w9 h => ?_
      have h : Ok e (pts fb [.int .i64 u.state, .int .i64 p, .int .i64 q, .int .i64 0, .int .i64 u.kind, .int .i64 u.obj, .int .i64 u.lc, .int .i64 u.lv] :: pts k (kC A K) :: pts (A.ub (n - 1).toNat) (unC t u) :: pts t (tcC u) :: H :: kR A K (pts b3 [.int .i64 0, .int .i64 0, .int .i64 0] :: pts b1 [.int .i64 0, .int .i64 0, .int .i64 0, .int .i64 0, .int .i64 0, .int .i64 0, .int .i64 0, .int .i64 0] :: L)) w9 := h
      refine nn.mk (ldI.mk (h.p1.cell rfl) ?_)
      refine jn.at (t := ()) (fun w' => Ok e (pts fb [.int .i64 (if n = K.who then 1 else u.state), .int .i64 p, .int .i64 q, .int .i64 0, .int .i64 u.kind, .int .i64 u.obj, .int .i64 u.lc, .int .i64 u.lv] :: pts k (kC A K) :: pts (A.ub (n - 1).toNat) (unC t u) :: pts t (tcC u) :: H :: kR A K (pts b3 [.int .i64 0, .int .i64 0, .int .i64 0] :: pts b1 [.int .i64 0, .int .i64 0, .int .i64 0, .int .i64 0, .int .i64 0, .int .i64 0, .int .i64 0, .int .i64 0] :: L)) w') (fun J hJ => cs.mk (fun h2 => ?_) (fun h2 => ?_)) (fun w10 h => ?_)
      · have h2 : n = K.who := by simpa using h2
        rw [if_pos h2] at hJ
        exact st1.mk h (by simp) fun w10 h => hJ w10 h
      · have h2 : ¬ n = K.who := by simpa using h2
        rw [if_neg h2] at hJ
        exact hJ w9 h
      refine dr.mk h fun w11 h => ldI.mk (h.cell rfl) (ldI.mk (h.cell rfl) (ldI.mk (h.cell rfl) (ldI.mk (h.cell rfl) (ldI.mk (h.cell rfl) (ldI.mk (h.cell rfl) (ldI.mk (h.cell rfl) (ldI.mk (h.cell rfl) ?_)))))))
      refine nn.mk (ldP.mk (h.p2.cell rfl) (nn.mk (ldI.mk (h.p3.cell rfl) (ldI.mk (h.p3.cell rfl) (ldI.mk (h.p3.cell rfl) ?_)))))
      have h := ((h.emb (by repeat' (first | with_reducible exact Emb.same _ | exact Emb.nil _ | refine Emb.cons (by with_reducible first | exact sl0 | exact .there sl0 | exact .there sl1 | exact .there sl2 | exact .there sl3 | exact .there sl4 | exact .there sl5 | exact .there sl6 | exact .there sl7 | exact .there sl8 | exact .there sl9 | exact .there sl10 | exact .there sl11 | exact .there sl12) ?_ | refine Emb.skip ?_))) : Ok e (pts b1 [.int .i64 0, .int .i64 0, .int .i64 0, .int .i64 0, .int .i64 0, .int .i64 0, .int .i64 0, .int .i64 0] :: pts b3 [.int .i64 0, .int .i64 0, .int .i64 0] :: pts t (tcC u) :: pts (A.ub (n - 1).toNat) (unC t u) :: pts k (kC A K) :: H :: kR A K L) _)
      refine st1.mk h (by simp) fun _ h => st1.mk h (by simp) fun _ h => st1.mk h (by simp) fun _ h => st1.mk h (by simp) fun _ h => st1.mk h (by simp) fun _ h => st1.mk h (by simp) fun _ h => st1.mk h (by simp) fun _ h => st1.mk h (by simp) fun w12 h => ?_
      refine ⟨⟨h.p2.cell rfl, h.p2.cell rfl, h.p2.cell rfl⟩, h.p3.cell rfl, ?_⟩
      refine st1.mk h.p1 (by simp) fun _ h => st1.mk h (by simp) fun _ h => st1.mk h (by simp) fun w13 h => ?_
      refine ldI.mk (h.p1.cell rfl) (ldI.mk (h.p1.cell rfl) (ldI.mk (h.p1.cell rfl) (ldI.mk (h.p1.cell rfl) (ldI.mk (h.p1.cell rfl) (ldI.mk (h.p1.cell rfl) (ldI.mk (h.p1.cell rfl) (ldI.mk (h.p1.cell rfl) ?_)))))))
      refine ldI.mk (h.cell rfl) (ldI.mk (h.cell rfl) (ldI.mk (h.cell rfl) (kk w13 ?_)))
      have h := back K u e L w13 ho rfl (h.emb (by repeat' (first | with_reducible exact Emb.same _ | exact Emb.nil _ | refine Emb.cons (by with_reducible first | exact sl0 | exact .there sl0 | exact .there sl1 | exact .there sl2 | exact .there sl3 | exact .there sl4 | exact .there sl5 | exact .there sl6 | exact .there sl7 | exact .there sl8 | exact .there sl9 | exact .there sl10 | exact .there sl11 | exact .there sl12) ?_ | refine Emb.skip ?_)))
      rw [setU_same hu] at h
      exact h
  · refine pri ((Ok.emb (h) (.cons (A := mmP A.lk K.mm) (by with_reducible first | exact sl0 | exact .there sl0 | exact .there sl1 | exact .there sl2 | exact .there sl3 | exact .there sl4 | exact .there sl5 | exact .there sl6 | exact .there sl7 | exact .there sl8 | exact .there sl9 | exact .there sl10 | exact .there sl11 | exact .there sl12) (.same _)))) ⟨⟨(by refine Ok.cellS h (by with_reducible first | exact sl0 | exact .there sl0 | exact .there sl1 | exact .there sl2 | exact .there sl3 | exact .there sl4 | exact .there sl5 | exact .there sl6 | exact .there sl7 | exact .there sl8 | exact .there sl9 | exact .there sl10 | exact .there sl11 | exact .there sl12) ?_; rfl), (by refine Ok.cellS h (by with_reducible first | exact sl0 | exact .there sl0 | exact .there sl1 | exact .there sl2 | exact .there sl3 | exact .there sl4 | exact .there sl5 | exact .there sl6 | exact .there sl7 | exact .there sl8 | exact .there sl9 | exact .there sl10 | exact .there sl11 | exact .there sl12) ?_; rfl)⟩, (by refine Ok.cellS h (by with_reducible first | exact sl0 | exact .there sl0 | exact .there sl1 | exact .there sl2 | exact .there sl3 | exact .there sl4 | exact .there sl5 | exact .there sl6 | exact .there sl7 | exact .there sl8 | exact .there sl9 | exact .there sl10 | exact .there sl11 | exact .there sl12) ?_; rfl), (by refine Ok.cellS h (by with_reducible first | exact sl0 | exact .there sl0 | exact .there sl1 | exact .there sl2 | exact .there sl3 | exact .there sl4 | exact .there sl5 | exact .there sl6 | exact .there sl7 | exact .there sl8 | exact .there sl9 | exact .there sl10 | exact .there sl11 | exact .there sl12) ?_; rfl), (by refine Ok.cellS h (by with_reducible first | exact sl0 | exact .there sl0 | exact .there sl1 | exact .there sl2 | exact .there sl3 | exact .there sl4 | exact .there sl5 | exact .there sl6 | exact .there sl7 | exact .there sl8 | exact .there sl9 | exact .there sl10 | exact .there sl11 | exact .there sl12) ?_; rfl), (by refine Ok.cellS h (by with_reducible first | exact sl0 | exact .there sl0 | exact .there sl1 | exact .there sl2 | exact .there sl3 | exact .there sl4 | exact .there sl5 | exact .there sl6 | exact .there sl7 | exact .there sl8 | exact .there sl9 | exact .there sl10 | exact .there sl11 | exact .there sl12) ?_; rfl), (by refine Ok.cellS h (by with_reducible first | exact sl0 | exact .there sl0 | exact .there sl1 | exact .there sl2 | exact .there sl3 | exact .there sl4 | exact .there sl5 | exact .there sl6 | exact .there sl7 | exact .there sl8 | exact .there sl9 | exact .there sl10 | exact .there sl11 | exact .there sl12) ?_; rfl), ?_⟩
    refine bas ((Ok.emb (h) (.cons (A := mmP A.lk K.mm) (by with_reducible first | exact sl0 | exact .there sl0 | exact .there sl1 | exact .there sl2 | exact .there sl3 | exact .there sl4 | exact .there sl5 | exact .there sl6 | exact .there sl7 | exact .there sl8 | exact .there sl9 | exact .there sl10 | exact .there sl11 | exact .there sl12) (.same _)))) ⟨⟨(by refine Ok.cellS h (by with_reducible first | exact sl0 | exact .there sl0 | exact .there sl1 | exact .there sl2 | exact .there sl3 | exact .there sl4 | exact .there sl5 | exact .there sl6 | exact .there sl7 | exact .there sl8 | exact .there sl9 | exact .there sl10 | exact .there sl11 | exact .there sl12) ?_; rfl), (by refine Ok.cellS h (by with_reducible first | exact sl0 | exact .there sl0 | exact .there sl1 | exact .there sl2 | exact .there sl3 | exact .there sl4 | exact .there sl5 | exact .there sl6 | exact .there sl7 | exact .there sl8 | exact .there sl9 | exact .there sl10 | exact .there sl11 | exact .there sl12) ?_; rfl)⟩, (by refine Ok.cellS h (by with_reducible first | exact sl0 | exact .there sl0 | exact .there sl1 | exact .there sl2 | exact .there sl3 | exact .there sl4 | exact .there sl5 | exact .there sl6 | exact .there sl7 | exact .there sl8 | exact .there sl9 | exact .there sl10 | exact .there sl11 | exact .there sl12) ?_; rfl), (by refine Ok.cellS h (by with_reducible first | exact sl0 | exact .there sl0 | exact .there sl1 | exact .there sl2 | exact .there sl3 | exact .there sl4 | exact .there sl5 | exact .there sl6 | exact .there sl7 | exact .there sl8 | exact .there sl9 | exact .there sl10 | exact .there sl11 | exact .there sl12) ?_; rfl), (by refine Ok.cellS h (by with_reducible first | exact sl0 | exact .there sl0 | exact .there sl1 | exact .there sl2 | exact .there sl3 | exact .there sl4 | exact .there sl5 | exact .there sl6 | exact .there sl7 | exact .there sl8 | exact .there sl9 | exact .there sl10 | exact .there sl11 | exact .there sl12) ?_; rfl), (by refine Ok.cellS h (by with_reducible first | exact sl0 | exact .there sl0 | exact .there sl1 | exact .there sl2 | exact .there sl3 | exact .there sl4 | exact .there sl5 | exact .there sl6 | exact .there sl7 | exact .there sl8 | exact .there sl9 | exact .there sl10 | exact .there sl11 | exact .there sl12) ?_; rfl), ?_⟩
    have h := ((h.emb (by repeat' (first | with_reducible exact Emb.same _ | exact Emb.nil _ | refine Emb.cons (by with_reducible first | exact sl0 | exact .there sl0 | exact .there sl1 | exact .there sl2 | exact .there sl3 | exact .there sl4 | exact .there sl5 | exact .there sl6 | exact .there sl7 | exact .there sl8 | exact .there sl9 | exact .there sl10 | exact .there sl11 | exact .there sl12) ?_ | refine Emb.skip ?_))) : Ok e (pts fb [.int .i64 0, .int .i64 0, .int .i64 0, .int .i64 0, .int .i64 0, .int .i64 0, .int .i64 0, .int .i64 0] :: pts k (kC A K) :: pts (A.ub (n - 1).toNat) (unC t u) :: pts t (tcC u) :: H :: kR A K (pts b3 [.int .i64 0, .int .i64 0, .int .i64 0] :: pts b1 [.int .i64 0, .int .i64 0, .int .i64 0, .int .i64 0, .int .i64 0, .int .i64 0, .int .i64 0, .int .i64 0] :: L)) _)
    refine st1.mk h (by simp) fun _ h => st1.mk h (by simp) fun _ h => st1.mk h (by simp) fun _ h => st1.mk h (by simp) fun _ h => st1.mk h (by simp) fun _ h => st1.mk h (by simp) fun _ h => st1.mk h (by simp) fun _ h => st1.mk h (by simp) fun w9 h => ?_
    have h : Ok e (pts fb [.int .i64 u.state, .int .i64 p, .int .i64 q, .int .i64 0, .int .i64 u.kind, .int .i64 u.obj, .int .i64 u.lc, .int .i64 u.lv] :: pts k (kC A K) :: pts (A.ub (n - 1).toNat) (unC t u) :: pts t (tcC u) :: H :: kR A K (pts b3 [.int .i64 0, .int .i64 0, .int .i64 0] :: pts b1 [.int .i64 0, .int .i64 0, .int .i64 0, .int .i64 0, .int .i64 0, .int .i64 0, .int .i64 0, .int .i64 0] :: L)) w9 := h
    refine nn.mk (ldI.mk (h.p1.cell rfl) ?_)
    refine jn.at (t := ()) (fun w' => Ok e (pts fb [.int .i64 (if n = K.who then 1 else u.state), .int .i64 p, .int .i64 q, .int .i64 0, .int .i64 u.kind, .int .i64 u.obj, .int .i64 u.lc, .int .i64 u.lv] :: pts k (kC A K) :: pts (A.ub (n - 1).toNat) (unC t u) :: pts t (tcC u) :: H :: kR A K (pts b3 [.int .i64 0, .int .i64 0, .int .i64 0] :: pts b1 [.int .i64 0, .int .i64 0, .int .i64 0, .int .i64 0, .int .i64 0, .int .i64 0, .int .i64 0, .int .i64 0] :: L)) w') (fun J hJ => cs.mk (fun h2 => ?_) (fun h2 => ?_)) (fun w10 h => ?_)
    · have h2 : n = K.who := by simpa using h2
      rw [if_pos h2] at hJ
      exact st1.mk h (by simp) fun w10 h => hJ w10 h
    · have h2 : ¬ n = K.who := by simpa using h2
      rw [if_neg h2] at hJ
      exact hJ w9 h
    refine dr.mk h fun w11 h => ldI.mk (h.cell rfl) (ldI.mk (h.cell rfl) (ldI.mk (h.cell rfl) (ldI.mk (h.cell rfl) (ldI.mk (h.cell rfl) (ldI.mk (h.cell rfl) (ldI.mk (h.cell rfl) (ldI.mk (h.cell rfl) ?_)))))))
    refine nn.mk (ldP.mk (h.p2.cell rfl) (nn.mk (ldI.mk (h.p3.cell rfl) (ldI.mk (h.p3.cell rfl) (ldI.mk (h.p3.cell rfl) ?_)))))
    have h := ((h.emb (by repeat' (first | with_reducible exact Emb.same _ | exact Emb.nil _ | refine Emb.cons (by with_reducible first | exact sl0 | exact .there sl0 | exact .there sl1 | exact .there sl2 | exact .there sl3 | exact .there sl4 | exact .there sl5 | exact .there sl6 | exact .there sl7 | exact .there sl8 | exact .there sl9 | exact .there sl10 | exact .there sl11 | exact .there sl12) ?_ | refine Emb.skip ?_))) : Ok e (pts b1 [.int .i64 0, .int .i64 0, .int .i64 0, .int .i64 0, .int .i64 0, .int .i64 0, .int .i64 0, .int .i64 0] :: pts b3 [.int .i64 0, .int .i64 0, .int .i64 0] :: pts t (tcC u) :: pts (A.ub (n - 1).toNat) (unC t u) :: pts k (kC A K) :: H :: kR A K L) _)
    refine st1.mk h (by simp) fun _ h => st1.mk h (by simp) fun _ h => st1.mk h (by simp) fun _ h => st1.mk h (by simp) fun _ h => st1.mk h (by simp) fun _ h => st1.mk h (by simp) fun _ h => st1.mk h (by simp) fun _ h => st1.mk h (by simp) fun w12 h => ?_
    refine ⟨⟨h.p2.cell rfl, h.p2.cell rfl, h.p2.cell rfl⟩, h.p3.cell rfl, ?_⟩
    refine st1.mk h.p1 (by simp) fun _ h => st1.mk h (by simp) fun _ h => st1.mk h (by simp) fun w13 h => ?_
    refine ldI.mk (h.p1.cell rfl) (ldI.mk (h.p1.cell rfl) (ldI.mk (h.p1.cell rfl) (ldI.mk (h.p1.cell rfl) (ldI.mk (h.p1.cell rfl) (ldI.mk (h.p1.cell rfl) (ldI.mk (h.p1.cell rfl) (ldI.mk (h.p1.cell rfl) ?_)))))))
    refine ldI.mk (h.cell rfl) (ldI.mk (h.cell rfl) (ldI.mk (h.cell rfl) (kk w13 ?_)))
    have h := back K u e L w13 ho rfl (h.emb (by repeat' (first | with_reducible exact Emb.same _ | exact Emb.nil _ | refine Emb.cons (by with_reducible first | exact sl0 | exact .there sl0 | exact .there sl1 | exact .there sl2 | exact .there sl3 | exact .there sl4 | exact .there sl5 | exact .there sl6 | exact .there sl7 | exact .there sl8 | exact .there sl9 | exact .there sl10 | exact .there sl11 | exact .there sl12) ?_ | refine Emb.skip ?_)))
    rw [setU_same hu] at h
    exact h

end Go.Proofs.YtenonfkfoedfmaaGreatDoor.B


/- Contracts of the package calls; what a call is told. -/
namespace Go.Proofs.YtenonfkfoedfmaaGreatDoor.B
open Go
set_option linter.unusedVariables false

/-! ### the rows of the table -/
abbrev rowC (x : ByteArray × Int × Int) : List Value := [.string x.1, .int .i64 x.2.1, .int .i64 x.2.2]

theorem rowC_len (x : ByteArray × Int × Int) : (rowC x).length = 3 := rfl

theorem rowC_one (x : ByteArray × Int × Int) : ∀ v ∈ rowC x, v.oneCell' = true := by
  intro v hv
  simp only [rowC, List.mem_cons, List.not_mem_nil, or_false] at hv
  rcases hv with rfl | rfl | rfl <;> rfl

def unflat : List Value → List (ByteArray × Int × Int)
  | .string g :: .int _ a :: .int _ k :: r => (g, a, k) :: unflat r
  | _ => []

/-- how many arguments, and of which kind, a call is -/
def akL : List (Int × Int) := [(0, 0), (1, 1), (1, 3), (1, 1), (0, 4), (1, 1), (2, 1), (1, 1), (1, 1), (1, 3), (0, 1), (0, 3), (0, 2), (1, 2), (1, 1), (1, 3), (1, 1), (1, 1), (1, 3), (1, 1), (1, 1), (1, 1), (1, 2),
  (1, 1), (1, 3), (1, 2), (1, 1), (2, 2), (2, 1), (2, 3), (2, 1), (3, 2), (3, 1), (4, 2), (2, 2), (2, 1), (2, 3), (3, 2), (2, 1), (2, 3), (1, 2), (1, 1), (2, 2), (1, 2), (1, 1), (2, 2), (1, 1),
  (1, 2), (1, 1), (2, 2), (2, 1), (1, 1), (0, 1), (1, 1), (1, 1), (2, 1), (1, 1), (0, 4), (0, 4), (0, 1), (0, 1), (0, 0), (0, 0), (0, 0), (0, 0)]

/-- the table is so -/
def tabOk (t : List (ByteArray × Int × Int)) : Bool := (t.map (·.2) == akL) && (t.drop 1).all fun x => decide (0 < x.1.size)

theorem tab_get {t : List (ByteArray × Int × Int)} (h : tabOk t = true) {n : Nat} {a k : Int} (hn : akL[n]? = some (a, k)) (h0 : 0 < n) : ∃ g, t[n]? = some (g, a, k) ∧ 0 < g.size := by
  unfold tabOk at h
  simp only [Bool.and_eq_true, beq_iff_eq, List.all_eq_true, decide_eq_true_eq] at h
  have h1 : (t.map (·.2))[n]? = some (a, k) := by rw [h.1]; exact hn
  rw [List.getElem?_map] at h1
  obtain ⟨⟨g, a', k'⟩, hx, he⟩ := Option.map_eq_some_iff.1 h1
  cases he
  refine ⟨g, hx, h.2 (g, a, k) ?_⟩
  refine List.mem_of_getElem? (i := n - 1) ?_
  rw [List.getElem?_drop, show 1 + (n - 1) = n by omega]
  exact hx

theorem size_ne {g : ByteArray} (h : 0 < g.size) : (!(g.toList == (bs []).toList)) = true := by
  have h1 : g.toList ≠ (bs []).toList := by
    intro e
    have h2 : g.toList.length = (bs []).toList.length := congrArg List.length e
    rw [ByteArray.toList_eq, ByteArray.toList_eq] at h2
    have h3 : g.data.toList.length = g.size := rfl
    have h4 : ((bs []).data.toList).length = 0 := rfl
    omega
  simpa using h1

theorem table_calls {e w L R} (h : Ok e L w) (k : ∀ t s w', tabOk t = true → s.len = 65 → Ok e (slc 3 s (flat rowC t) :: L) w' → R [vS s] w') : sh167 R w := by
  unfold sh167
  refine al.mk h fun b w1 h => ?_
  have conv : ∀ (cs : List Value), Ok e (pts b cs :: L) w1 → cs = flat rowC (unflat cs) → tabOk (unflat cs) = true → R [vS ⟨some ⟨b, 0, none⟩, 65, 65⟩] w1 := by
    intro cs h e1 e2
    refine k (unflat cs) _ w1 e2 rfl ?_
    rw [← e1]
    refine h.slcNew (n := 65) ?_ (by rw [e1]; exact flat_one rowC_one)
    have hl : (unflat cs).length = 65 := by
      unfold tabOk at e2
      simp only [Bool.and_eq_true, beq_iff_eq] at e2
      have := congrArg List.length e2.1
      rw [List.length_map] at this
      rw [this]; rfl
    rw [e1, flat_len rowC_len, hl]
  exact conv _ h (by kernel_rfl) (by kernel_rfl)

theorem of_calls {e w L R} {n : Nat} {a kd : Int} (h : Ok e L w) (hn : akL[n]? = some (a, kd)) (h0 : 0 < n)
    (k : ∀ g w', 0 < g.size → Ok e L w' → R [.agg #[.string g, .int .i64 a, .int .i64 kd]] w') : sh87 (n : Int) R w := by
  unfold sh87
  have hn65 : n < 65 := (List.getElem?_eq_some_iff.1 hn).1
  refine al.mk h fun b w1 h => ?_
  refine call167 (table_calls h fun t s w2 ht hs h => ⟨(s, ()), rfl, ?_⟩)
  obtain ⟨g, hg, hgs⟩ := tab_get ht hn h0
  refine jn.bool false (fun J hJ => cs.no (by simp; omega) ?_) (cs.no rfl ?_)
  · rw [decide_eq_false (by dsimp only; omega)]
    exact hJ
  refine ix_flat rowC_len (by decide) h (by omega) (by have := (List.getElem?_eq_some_iff.1 hg).1; omega) fun b2 o2 x hx _ _ hc => ?_
  rw [Int.toNat_natCast, hg] at hx
  cases hx
  refine ⟨g, hc 0 _ rfl _ ⟨_, h⟩, ldI.mk (hc 1 _ rfl _ ⟨_, h⟩) (ldI.mk (hc 2 _ rfl _ ⟨_, h⟩) ?_)⟩
  refine st1.mk h.p1 (by simp) fun w3 h => st1.mk h (by simp) fun w4 h => st1.mk h (by simp) fun w5 h => ?_
  exact ⟨g, h.cell rfl, ldI.mk (h.cell rfl) (ldI.mk (h.cell rfl) (k g w5 hgs h.drop.drop))⟩

theorem Known_calls {e w L R} {n : Nat} {a kd : Int} (h : Ok e L w) (hn : akL[n]? = some (a, kd)) (h0 : 0 < n) (k : ∀ w', Ok e L w' → R [.bool true] w') : sh76 (n : Int) R w := by
  unfold sh76
  refine call87 (of_calls h hn h0 fun g w1 hg h => ⟨((g, a, kd, ()), ()), rfl, ?_⟩)
  dsimp only
  rw [size_ne hg]
  exact k w1 h

theorem Arity_calls {e w L R} {n : Nat} {a kd : Int} (h : Ok e L w) (hn : akL[n]? = some (a, kd)) (h0 : 0 < n) (k : ∀ w', Ok e L w' → R [.int .i64 a] w') : sh213 (n : Int) R w := by
  unfold sh213
  exact call87 (of_calls h hn h0 fun g w1 hg h => ⟨((g, a, kd, ()), ()), rfl, k w1 h⟩)

theorem Kind_calls {e w L R} {n : Nat} {a kd x0 x1 x2 x3 : Int} (h : Ok e L w) (hn : akL[n]? = some (a, kd)) (h0 : 0 < n) (k : ∀ w', Ok e L w' → R [.int .i64 kd] w') : sh42 ((n : Int), x0, x1, x2, x3, ()) R w := by
  unfold sh42
  refine al.mk h fun b w1 h => ldI.mk (h.cell rfl) ?_
  exact call87 (of_calls h hn h0 fun g w2 hg h => ⟨((g, a, kd, ()), ()), rfl, k w2 h.drop⟩)

theorem slT_i64 : SlT Pg 39 1 := .of (by kernel_rfl)

theorem copy4 (v : Value) (xs : List Int) (hl : xs.length ≤ 4) : ([v, .int .i64 0, .int .i64 0, .int .i64 0, .int .i64 0] : List Value).take (0 + 1) ++ ints xs ++ ([v, .int .i64 0, .int .i64 0, .int .i64 0, .int .i64 0] : List Value).drop (0 + 1 + (ints xs).length) =
    [v, .int .i64 (xs[0]?.getD 0), .int .i64 (xs[1]?.getD 0), .int .i64 (xs[2]?.getD 0), .int .i64 (xs[3]?.getD 0)] := by
  rcases xs with _ | ⟨x0, _ | ⟨x1, _ | ⟨x2, _ | ⟨x3, _ | ⟨x4, r⟩⟩⟩⟩⟩
  · rfl
  · rfl
  · rfl
  · rfl
  · rfl
  · simp at hl

theorem Make_calls {e w L s R} {fn : Int} {xs : List Int} (h : Ok e (slc 1 s (ints xs) :: L) w) (hl : xs.length ≤ 4)
    (k : ∀ w', Ok e L w' → R [.agg #[.int .i64 fn, .int .i64 (xs[0]?.getD 0), .int .i64 (xs[1]?.getD 0), .int .i64 (xs[2]?.getD 0), .int .i64 (xs[3]?.getD 0)]] w') : sh52 fn s R w := by
  unfold sh52
  have hs : xs.length = s.len := by have := h.slc_len; rw [ints_len] at this; omega
  refine al.mk h fun b w1 h => al.mk h fun c w2 h => ?_
  refine st1.mk h (by simp) fun w3 h => st1.mk h (by simp) fun w4 h => st1.mk h (by simp) fun w5 h => st1.mk h (by simp) fun w6 h => st1.mk h (by simp) fun w7 h => ?_
  have h : Ok e (pts c [.int .i64 fn, .int .i64 0, .int .i64 0, .int .i64 0, .int .i64 0] :: pts b [.int .i64 0, .int .i64 0, .int .i64 0, .int .i64 0, .int .i64 0] :: slc 1 s (ints xs) :: L) w7 := h
  refine ef.copy (b := c) (o := 0 + 1) (n := s.len) (us := ints xs) slT_i64 h rfl (by show s.len = Nat.min s.len 4; exact (Nat.min_eq_left (by omega)).symm) (by rw [ints_len, hs]; omega) (fun ha => ?_) (fun a ha => h.p2.slc_cells ha) (ints_one xs) (by rw [ints_len]; simp; omega) fun w8 h => ?_
  · rcases h.p2.slcE.2.2.2 with ⟨_, h0, _⟩ | ⟨b2, post, h0, _⟩
    · have := h.p2.slcE.2.2.1
      exact List.eq_nil_of_length_eq_zero (by rw [ints_len]; omega)
    · rw [h0] at ha; cases ha
  rw [copy4 _ xs hl] at h
  refine ldI.mk (h.cell rfl) (ldI.mk (h.cell rfl) (ldI.mk (h.cell rfl) (ldI.mk (h.cell rfl) (ldI.mk (h.cell rfl) ?_))))
  refine st1.mk h.p1 (by simp) fun w9 h => st1.mk h (by simp) fun w10 h => st1.mk h (by simp) fun w11 h => st1.mk h (by simp) fun w12 h => st1.mk h (by simp) fun w13 h => ?_
  exact ldI.mk (h.cell rfl) (ldI.mk (h.cell rfl) (ldI.mk (h.cell rfl) (ldI.mk (h.cell rfl) (ldI.mk (h.cell rfl) (k w13 h.drop.drop.drop)))))

/-- what a call is told: a code alone -/
theorem say_code {e w L R} {c : Int} {s : Sl} (h : Ok e L w) (hs : s.len = 0) (k : ∀ w', Ok e L w' → R [.agg #[.int .i64 c, .int .i64 0]] w') : sh77 c s R w := by
  unfold sh77
  refine al.mk h fun b w1 h => al.mk h fun d w2 h => st1.mk h (by simp) fun w3 h => st1.mk h (by simp) fun w4 h => ?_
  refine lp.mk (fun t w5 => @Eq Int t.1 0 ∧ Ok e (pts d [.int .i64 c, .int .i64 0] :: pts b [.int .i64 0, .int .i64 0] :: L) w5) (fun _ _ => 0) ⟨rfl, h⟩ ?_
  rintro ⟨(t : Int), _⟩ w5 ⟨(rfl : t = 0), h⟩
  refine cs.no (by rw [hs]; rfl) (cs.mk (fun h1 => ?_) (fun h1 => ?_))
  · refine st1.mk h (by simp) fun w6 h => ldI.mk (h.cell rfl) (ldI.mk (h.cell rfl) (st1.mk h.p1 (by simp) fun w7 h => st1.mk h (by simp) fun w8 h => ?_))
    exact ldI.mk (h.cell rfl) (ldI.mk (h.cell rfl) (k w8 h.drop.drop))
  · refine ldI.mk (h.cell rfl) (ldI.mk (h.cell rfl) (st1.mk h.p1 (by simp) fun w7 h => st1.mk h (by simp) fun w8 h => ?_))
    exact ldI.mk (h.cell rfl) (ldI.mk (h.cell rfl) (k w8 h.drop.drop))

/-- a code and a value -/
theorem say_val {e w L R} {c v : Int} {s : Sl} (h : Ok e (slc 1 s (ints [v]) :: L) w) (k : ∀ w', Ok e L w' → R [.agg #[.int .i64 c, .int .i64 (if c ≠ 0 then 0 else v)]] w') : sh77 c s R w := by
  unfold sh77
  have hs : s.len = 1 := by have := h.slc_len; simp at this; omega
  refine al.mk h fun b w1 h => al.mk h fun d w2 h => st1.mk h (by simp) fun w3 h => st1.mk h (by simp) fun w4 h => ?_
  refine lp.mk (fun t w5 => (@Eq Int t.1 0 ∧ Ok e (pts d [.int .i64 c, .int .i64 0] :: pts b [.int .i64 0, .int .i64 0] :: slc 1 s (ints [v]) :: L) w5) ∨ (@Eq Int t.1 1 ∧ Ok e (pts d [.int .i64 c, .int .i64 v] :: pts b [.int .i64 0, .int .i64 0] :: slc 1 s (ints [v]) :: L) w5)) (fun t _ => Int.toNat (Int.sub 1 t.1)) (.inl ⟨rfl, h⟩) ?_
  rintro ⟨(t : Int), _⟩ w5 (⟨(rfl : t = 0), h⟩ | ⟨(rfl : t = 1), h⟩)
  · refine cs.yes (by rw [hs]; rfl) ?_
    refine ix_int h.p2 (by simp) (by rw [hs]; exact (show (0 : Int) < ((1 : Nat) : Int) by decide)) fun b2 o z hz hc => ldI.mk (hc _ ⟨_, h.p2⟩) ?_
    have hz : z = v := by simpa using hz.symm
    subst hz
    exact st1.mk h (by simp) fun w6 h => ⟨.inr ⟨rfl, h⟩, (show Int.toNat (Int.sub 1 1) < Int.toNat (Int.sub 1 0) by decide)⟩
  · refine cs.no (by rw [hs]; rfl) (cs.mk (fun h1 => ?_) (fun h1 => ?_))
    · have h1 : c ≠ 0 := by simpa using h1
      rw [if_pos h1] at k
      refine st1.mk h (by simp) fun w6 h => ldI.mk (h.cell rfl) (ldI.mk (h.cell rfl) (st1.mk h.p1 (by simp) fun w7 h => st1.mk h (by simp) fun w8 h => ?_))
      exact ldI.mk (h.cell rfl) (ldI.mk (h.cell rfl) (k w8 h.drop.drop.drop))
    · have h1 : ¬ c ≠ 0 := by simpa using h1
      rw [if_neg h1] at k
      refine ldI.mk (h.cell rfl) (ldI.mk (h.cell rfl) (st1.mk h.p1 (by simp) fun w7 h => st1.mk h (by simp) fun w8 h => ?_))
      exact ldI.mk (h.cell rfl) (ldI.mk (h.cell rfl) (k w8 h.drop.drop.drop))

theorem late_kern {w t R} (k : R [.bool (decide (-1 ≤ t ∧ t ≤ 2147483647))] w) : sh136 t R w := by
  unfold sh136
  refine jn.bool (decide (-1 ≤ t ∧ t ≤ 2147483647)) (fun J hJ => cs.mk (fun h1 => ?_) (fun h1 => ?_)) k
  · have h1 := of_decide_eq_true h1
    rw [show decide (t ≤ 2147483647) = decide (-1 ≤ t ∧ t ≤ 2147483647) from decide_eq_decide.2 (by omega)]; exact hJ
  · have h1 := of_decide_eq_false h1
    rw [decide_eq_false (by omega)] at hJ; exact hJ

end Go.Proofs.YtenonfkfoedfmaaGreatDoor.B


/- Contracts of the kernel's Do. -/
namespace Go.Proofs.YtenonfkfoedfmaaGreatDoor.B
open Go
set_option linter.unusedVariables false

abbrev CallT := Int × Int × Int × Int × Int × Unit

/-- what a part of the calls answers -/
def GrpC (e : World) (k : Nat) (A : KA) (K : KM) (r : (Int × Int) × KM) (f : (List Value → World → Prop) → World → Prop) : Prop :=
  ∀ L w (R : List Value → World → Prop), Ok e (kerP k A K :: old e :: L) w → (∀ w', Ok e (kerP k A r.2 :: old e :: L) w' → R [.agg #[.int .i64 r.1.1, .int .i64 r.1.2]] w') → f R w


theorem Do_kern {e w L k A K R} {n : Nat} {a kd x0 x1 x2 x3 : Int} {g : KM → Option ((Int × Int) × KM)} {r' : (Int × Int) × KM} (tb : TabE e) (hn : akL[n]? = some (a, kd)) (h0 : 0 < n) (h : Ok e (kerP k A K :: old e :: L) w) (hm : K.call kd g = some r')
    (hg : ∀ r, g K = some r → (n ≤ 22 ∧ GrpC e k A K r (sh79 (some ⟨k, 0, none⟩) ((n : Int), x0, x1, x2, x3, ()))) ∨ (22 < n ∧ n ≤ 27 ∧ GrpC e k A K r (sh80 (some ⟨k, 0, none⟩) ((n : Int), x0, x1, x2, x3, ()))) ∨ (27 < n ∧ n ≤ 33 ∧ GrpC e k A K r (sh81 (some ⟨k, 0, none⟩) ((n : Int), x0, x1, x2, x3, ()))) ∨ (33 < n ∧ n ≤ 42 ∧ GrpC e k A K r (sh82 (some ⟨k, 0, none⟩) ((n : Int), x0, x1, x2, x3, ()))) ∨ (42 < n ∧ n ≤ 46 ∧ GrpC e k A K r (sh83 (some ⟨k, 0, none⟩) ((n : Int), x0, x1, x2, x3, ()))) ∨ (46 < n ∧ n ≤ 50 ∧ GrpC e k A K r (sh84 (some ⟨k, 0, none⟩) ((n : Int), x0, x1, x2, x3, ()))) ∨ (50 < n ∧ n ≤ 56 ∧ GrpC e k A K r (sh85 (some ⟨k, 0, none⟩) ((n : Int), x0, x1, x2, x3, ()))) ∨ (56 < n ∧ GrpC e k A K r (sh86 (some ⟨k, 0, none⟩) ((n : Int), x0, x1, x2, x3, ()))))
    (kk : ∀ w', Ok e (kerP k A r'.2 :: old e :: L) w' → R [.agg #[.int .i64 r'.1.1, .int .i64 r'.1.2]] w') : sh41 (some ⟨k, 0, none⟩) ((n : Int), x0, x1, x2, x3, ()) R w := by
  unfold sh41
  refine al.mk h fun b w1 h => al.mk h fun d w2 h => ldI.mk (h.p1.cell rfl) ?_
  refine call76 (Known_calls h hn h0 fun w3 h => ⟨(true, ()), rfl, cs.no rfl (dr.mk h fun w4 h => ?_)⟩)
  obtain ⟨ho, hk⟩ := kerE h.p2
  refine nn.mk (ldP.mk (hk.cell rfl) (ldI.mk (h.p1.cell rfl) (ldI.mk (h.p1.cell rfl) (ldI.mk (h.p1.cell rfl) (ldI.mk (h.p1.cell rfl) (ldI.mk (h.p1.cell rfl) (nn.mk (ldI.mk (hk.cell rfl) ?_))))))))
  refine call42 (a0 := ((n : Int), x0, x1, x2, x3, ())) (Kind_calls hk hn h0 fun w5 hk => ⟨(kd, ()), rfl, hk.cell rfl, hk.cell rfl, ?_⟩)
  have hwho : ((K.who : Int) == (0 : Int)) = decide (K.who = 0) := by rw [Bool.eq_iff_iff]; simp
  refine call78 (May_ctx (kd := kd) (idle := decide (K.who = 0)) ((Ok.emb (hk) (.cons (A := placeP A.pl K.pl) (by with_reducible first | exact sl0 | exact .there sl0 | exact .there sl1 | exact .there sl2 | exact .there sl3 | exact .there sl4 | exact .there sl5 | exact .there sl6 | exact .there sl7 | exact .there sl8 | exact .there sl9 | exact .there sl10 | exact .there sl11 | exact .there sl12) (.same _)))) ?_)
  refine ⟨(K.pl.may kd (decide (K.who = 0)), ()), rfl, ?_⟩
  have h : Ok e (pts d [.int .i64 0, .int .i64 0] :: pts b [.int .i64 (n : Int), .int .i64 x0, .int .i64 x1, .int .i64 x2, .int .i64 x3] :: kerP k A K :: old e :: L) w5 := (kerI ho hk).q2
  unfold KM.call at hm
  refine cs.mk (fun h1 => ?_) (fun h1 => ?_)
  · have h1 : K.may kd ≠ 0 := by simpa [KM.may] using h1
    rw [if_pos h1] at hm
    cases hm
    refine call77 (a1 := ⟨none, 0, 0⟩) (say_code h rfl fun w6 h => ⟨((K.may kd, (0 : Int), ()), ()), rfl, ?_⟩)
    exact st1.mk h (by simp) fun w7 h => st1.mk h (by simp) fun w8 h => ldI.mk (h.cell rfl) (ldI.mk (h.cell rfl) (kk w8 h.drop.drop))
  · have h1 : ¬ K.may kd ≠ 0 := by simpa [KM.may] using h1
    rw [if_neg h1] at hm
    obtain ⟨r, hr, rfl⟩ := Option.map_eq_some_iff.1 hm
    have hg := hg r hr
    refine al.mk h fun c w6 h => ldI.mk (h.p2.cell rfl) ?_
    have fin : ∀ w', Ok e (pts c [.int .i64 r.1.1, .int .i64 r.1.2] :: pts d [.int .i64 0, .int .i64 0] :: pts b [.int .i64 (n : Int), .int .i64 x0, .int .i64 x1, .int .i64 x2, .int .i64 x3] :: kerP k A r.2 :: old e :: L) w' →
        cl Pg 57 [pV k] [] w' fun (r43 : Unit) w44 => ldI w44 .i64 c 0 fun n45 => ldI w44 .i64 c (0 + 1) fun n46 => st1 w44 d 0 (.int .i64 n45) fun w47 => st1 w47 d (0 + 1) (.int .i64 n46) fun w48 => ldI w48 .i64 d 0 fun n49 => ldI w48 .i64 d (0 + 1) fun n50 => R [.agg #[.int .i64 n49, .int .i64 n50]] w48 := by
      intro w' h
      refine call57 (choose_kern tb ((Ok.emb (h) (.cons (A := kerP k A r.2) (by with_reducible first | exact sl0 | exact .there sl0 | exact .there sl1 | exact .there sl2 | exact .there sl3 | exact .there sl4 | exact .there sl5 | exact .there sl6 | exact .there sl7 | exact .there sl8 | exact .there sl9 | exact .there sl10 | exact .there sl11 | exact .there sl12) (.cons (A := old e) (by with_reducible first | exact sl0 | exact .there sl0 | exact .there sl1 | exact .there sl2 | exact .there sl3 | exact .there sl4 | exact .there sl5 | exact .there sl6 | exact .there sl7 | exact .there sl8 | exact .there sl9 | exact .there sl10 | exact .there sl11 | exact .there sl12) (.same _))))) fun w7 h => ⟨(), rfl, ?_⟩)
      have h : Ok e (pts c [.int .i64 r.1.1, .int .i64 r.1.2] :: pts d [.int .i64 0, .int .i64 0] :: kerP k A r.2.choose :: old e :: L) w7 := (h.emb (by repeat' (first | with_reducible exact Emb.same _ | exact Emb.nil _ | refine Emb.cons (by with_reducible first | exact sl0 | exact .there sl0 | exact .there sl1 | exact .there sl2 | exact .there sl3 | exact .there sl4 | exact .there sl5 | exact .there sl6 | exact .there sl7 | exact .there sl8 | exact .there sl9 | exact .there sl10 | exact .there sl11 | exact .there sl12) ?_ | refine Emb.skip ?_)))
      refine ldI.mk (h.cell rfl) (ldI.mk (h.cell rfl) (st1.mk h.p1 (by simp) fun w8 h => st1.mk h (by simp) fun w9 h => ?_))
      exact ldI.mk (h.cell rfl) (ldI.mk (h.cell rfl) (kk w9 h.drop.drop))
    have run : ∀ (f : (List Value → World → Prop) → World → Prop) w', GrpC e k A K r f → Ok e (pts c [.int .i64 0, .int .i64 0] :: pts d [.int .i64 0, .int .i64 0] :: pts b [.int .i64 (n : Int), .int .i64 x0, .int .i64 x1, .int .i64 x2, .int .i64 x3] :: kerP k A K :: old e :: L) w' →
        ∀ (Z : World → Prop), (∀ w'', Ok e (pts c [.int .i64 r.1.1, .int .i64 r.1.2] :: pts d [.int .i64 0, .int .i64 0] :: pts b [.int .i64 (n : Int), .int .i64 x0, .int .i64 x1, .int .i64 x2, .int .i64 x3] :: kerP k A r.2 :: old e :: L) w'' → Z w'') →
        f (fun vs w' => ∃ t : TK [.a [(.i .i64), (.i .i64)]], encK [.a [(.i .i64), (.i .i64)]] t = vs ∧ st1 w' c 0 (.int .i64 t.1.1) fun w57 => st1 w57 c (0 + 1) (.int .i64 t.1.2.1) fun w58 => Z w58) w' := by
      intro f w' hf h Z hZ
      refine hf _ w' _ ((Ok.emb (h) (.cons (A := kerP k A K) (by with_reducible first | exact sl0 | exact .there sl0 | exact .there sl1 | exact .there sl2 | exact .there sl3 | exact .there sl4 | exact .there sl5 | exact .there sl6 | exact .there sl7 | exact .there sl8 | exact .there sl9 | exact .there sl10 | exact .there sl11 | exact .there sl12) (.cons (A := old e) (by with_reducible first | exact sl0 | exact .there sl0 | exact .there sl1 | exact .there sl2 | exact .there sl3 | exact .there sl4 | exact .there sl5 | exact .there sl6 | exact .there sl7 | exact .there sl8 | exact .there sl9 | exact .there sl10 | exact .there sl11 | exact .there sl12) (.same _))))) fun w7 h => ⟨((r.1.1, r.1.2, ()), ()), rfl, ?_⟩
      have h : Ok e (pts c [.int .i64 0, .int .i64 0] :: pts d [.int .i64 0, .int .i64 0] :: pts b [.int .i64 (n : Int), .int .i64 x0, .int .i64 x1, .int .i64 x2, .int .i64 x3] :: kerP k A r.2 :: old e :: L) w7 := (h.emb (by repeat' (first | with_reducible exact Emb.same _ | exact Emb.nil _ | refine Emb.cons (by with_reducible first | exact sl0 | exact .there sl0 | exact .there sl1 | exact .there sl2 | exact .there sl3 | exact .there sl4 | exact .there sl5 | exact .there sl6 | exact .there sl7 | exact .there sl8 | exact .there sl9 | exact .there sl10 | exact .there sl11 | exact .there sl12) ?_ | refine Emb.skip ?_)))
      exact st1.mk h (by simp) fun w8 h => st1.mk h (by simp) fun w9 h => hZ w9 h
    refine jn.at (t := ()) (fun w' => Ok e (pts c [.int .i64 r.1.1, .int .i64 r.1.2] :: pts d [.int .i64 0, .int .i64 0] :: pts b [.int .i64 (n : Int), .int .i64 x0, .int .i64 x1, .int .i64 x2, .int .i64 x3] :: kerP k A r.2 :: old e :: L) w') (fun J hJ => ?_) (fun w' h => fin w' h)
    rcases hg with ⟨h2, hf⟩ | ⟨h2, h3, hf⟩ | ⟨h2, h3, hf⟩ | ⟨h2, h3, hf⟩ | ⟨h2, h3, hf⟩ | ⟨h2, h3, hf⟩ | ⟨h2, h3, hf⟩ | ⟨h2, hf⟩
    · exact cs.yes (by simp; omega) (ldI.mk (h.p2.cell rfl) (ldI.mk (h.p2.cell rfl) (ldI.mk (h.p2.cell rfl) (ldI.mk (h.p2.cell rfl) (ldI.mk (h.p2.cell rfl) (call79 (a0 := some ⟨k, 0, none⟩) (a1 := ((n : Int), x0, x1, x2, x3, ())) (run _ w6 hf h _ fun w'' h => hJ w'' h)))))))
    · refine cs.no (by simp; omega) (ldI.mk (h.p2.cell rfl) (jn.at (t := ()) (fun w' => Ok e (pts c [.int .i64 r.1.1, .int .i64 r.1.2] :: pts d [.int .i64 0, .int .i64 0] :: pts b [.int .i64 (n : Int), .int .i64 x0, .int .i64 x1, .int .i64 x2, .int .i64 x3] :: kerP k A r.2 :: old e :: L) w') (fun J0 hJ0 => ?_) (fun w' h => hJ w' h)))
      exact cs.yes (by simp; omega) (ldI.mk (h.p2.cell rfl) (ldI.mk (h.p2.cell rfl) (ldI.mk (h.p2.cell rfl) (ldI.mk (h.p2.cell rfl) (ldI.mk (h.p2.cell rfl) (call80 (a0 := some ⟨k, 0, none⟩) (a1 := ((n : Int), x0, x1, x2, x3, ())) (run _ w6 hf h _ fun w'' h => hJ0 w'' h)))))))
    · refine cs.no (by simp; omega) (ldI.mk (h.p2.cell rfl) (jn.at (t := ()) (fun w' => Ok e (pts c [.int .i64 r.1.1, .int .i64 r.1.2] :: pts d [.int .i64 0, .int .i64 0] :: pts b [.int .i64 (n : Int), .int .i64 x0, .int .i64 x1, .int .i64 x2, .int .i64 x3] :: kerP k A r.2 :: old e :: L) w') (fun J0 hJ0 => ?_) (fun w' h => hJ w' h)))
      refine cs.no (by simp; omega) (ldI.mk (h.p2.cell rfl) (jn.at (t := ()) (fun w' => Ok e (pts c [.int .i64 r.1.1, .int .i64 r.1.2] :: pts d [.int .i64 0, .int .i64 0] :: pts b [.int .i64 (n : Int), .int .i64 x0, .int .i64 x1, .int .i64 x2, .int .i64 x3] :: kerP k A r.2 :: old e :: L) w') (fun J1 hJ1 => ?_) (fun w' h => hJ0 w' h)))
      exact cs.yes (by simp; omega) (ldI.mk (h.p2.cell rfl) (ldI.mk (h.p2.cell rfl) (ldI.mk (h.p2.cell rfl) (ldI.mk (h.p2.cell rfl) (ldI.mk (h.p2.cell rfl) (call81 (a0 := some ⟨k, 0, none⟩) (a1 := ((n : Int), x0, x1, x2, x3, ())) (run _ w6 hf h _ fun w'' h => hJ1 w'' h)))))))
    · refine cs.no (by simp; omega) (ldI.mk (h.p2.cell rfl) (jn.at (t := ()) (fun w' => Ok e (pts c [.int .i64 r.1.1, .int .i64 r.1.2] :: pts d [.int .i64 0, .int .i64 0] :: pts b [.int .i64 (n : Int), .int .i64 x0, .int .i64 x1, .int .i64 x2, .int .i64 x3] :: kerP k A r.2 :: old e :: L) w') (fun J0 hJ0 => ?_) (fun w' h => hJ w' h)))
      refine cs.no (by simp; omega) (ldI.mk (h.p2.cell rfl) (jn.at (t := ()) (fun w' => Ok e (pts c [.int .i64 r.1.1, .int .i64 r.1.2] :: pts d [.int .i64 0, .int .i64 0] :: pts b [.int .i64 (n : Int), .int .i64 x0, .int .i64 x1, .int .i64 x2, .int .i64 x3] :: kerP k A r.2 :: old e :: L) w') (fun J1 hJ1 => ?_) (fun w' h => hJ0 w' h)))
      refine cs.no (by simp; omega) (ldI.mk (h.p2.cell rfl) (jn.at (t := ()) (fun w' => Ok e (pts c [.int .i64 r.1.1, .int .i64 r.1.2] :: pts d [.int .i64 0, .int .i64 0] :: pts b [.int .i64 (n : Int), .int .i64 x0, .int .i64 x1, .int .i64 x2, .int .i64 x3] :: kerP k A r.2 :: old e :: L) w') (fun J2 hJ2 => ?_) (fun w' h => hJ1 w' h)))
      exact cs.yes (by simp; omega) (ldI.mk (h.p2.cell rfl) (ldI.mk (h.p2.cell rfl) (ldI.mk (h.p2.cell rfl) (ldI.mk (h.p2.cell rfl) (ldI.mk (h.p2.cell rfl) (call82 (a0 := some ⟨k, 0, none⟩) (a1 := ((n : Int), x0, x1, x2, x3, ())) (run _ w6 hf h _ fun w'' h => hJ2 w'' h)))))))
    · refine cs.no (by simp; omega) (ldI.mk (h.p2.cell rfl) (jn.at (t := ()) (fun w' => Ok e (pts c [.int .i64 r.1.1, .int .i64 r.1.2] :: pts d [.int .i64 0, .int .i64 0] :: pts b [.int .i64 (n : Int), .int .i64 x0, .int .i64 x1, .int .i64 x2, .int .i64 x3] :: kerP k A r.2 :: old e :: L) w') (fun J0 hJ0 => ?_) (fun w' h => hJ w' h)))
      refine cs.no (by simp; omega) (ldI.mk (h.p2.cell rfl) (jn.at (t := ()) (fun w' => Ok e (pts c [.int .i64 r.1.1, .int .i64 r.1.2] :: pts d [.int .i64 0, .int .i64 0] :: pts b [.int .i64 (n : Int), .int .i64 x0, .int .i64 x1, .int .i64 x2, .int .i64 x3] :: kerP k A r.2 :: old e :: L) w') (fun J1 hJ1 => ?_) (fun w' h => hJ0 w' h)))
      refine cs.no (by simp; omega) (ldI.mk (h.p2.cell rfl) (jn.at (t := ()) (fun w' => Ok e (pts c [.int .i64 r.1.1, .int .i64 r.1.2] :: pts d [.int .i64 0, .int .i64 0] :: pts b [.int .i64 (n : Int), .int .i64 x0, .int .i64 x1, .int .i64 x2, .int .i64 x3] :: kerP k A r.2 :: old e :: L) w') (fun J2 hJ2 => ?_) (fun w' h => hJ1 w' h)))
      refine cs.no (by simp; omega) (ldI.mk (h.p2.cell rfl) (jn.at (t := ()) (fun w' => Ok e (pts c [.int .i64 r.1.1, .int .i64 r.1.2] :: pts d [.int .i64 0, .int .i64 0] :: pts b [.int .i64 (n : Int), .int .i64 x0, .int .i64 x1, .int .i64 x2, .int .i64 x3] :: kerP k A r.2 :: old e :: L) w') (fun J3 hJ3 => ?_) (fun w' h => hJ2 w' h)))
      exact cs.yes (by simp; omega) (ldI.mk (h.p2.cell rfl) (ldI.mk (h.p2.cell rfl) (ldI.mk (h.p2.cell rfl) (ldI.mk (h.p2.cell rfl) (ldI.mk (h.p2.cell rfl) (call83 (a0 := some ⟨k, 0, none⟩) (a1 := ((n : Int), x0, x1, x2, x3, ())) (run _ w6 hf h _ fun w'' h => hJ3 w'' h)))))))
    · refine cs.no (by simp; omega) (ldI.mk (h.p2.cell rfl) (jn.at (t := ()) (fun w' => Ok e (pts c [.int .i64 r.1.1, .int .i64 r.1.2] :: pts d [.int .i64 0, .int .i64 0] :: pts b [.int .i64 (n : Int), .int .i64 x0, .int .i64 x1, .int .i64 x2, .int .i64 x3] :: kerP k A r.2 :: old e :: L) w') (fun J0 hJ0 => ?_) (fun w' h => hJ w' h)))
      refine cs.no (by simp; omega) (ldI.mk (h.p2.cell rfl) (jn.at (t := ()) (fun w' => Ok e (pts c [.int .i64 r.1.1, .int .i64 r.1.2] :: pts d [.int .i64 0, .int .i64 0] :: pts b [.int .i64 (n : Int), .int .i64 x0, .int .i64 x1, .int .i64 x2, .int .i64 x3] :: kerP k A r.2 :: old e :: L) w') (fun J1 hJ1 => ?_) (fun w' h => hJ0 w' h)))
      refine cs.no (by simp; omega) (ldI.mk (h.p2.cell rfl) (jn.at (t := ()) (fun w' => Ok e (pts c [.int .i64 r.1.1, .int .i64 r.1.2] :: pts d [.int .i64 0, .int .i64 0] :: pts b [.int .i64 (n : Int), .int .i64 x0, .int .i64 x1, .int .i64 x2, .int .i64 x3] :: kerP k A r.2 :: old e :: L) w') (fun J2 hJ2 => ?_) (fun w' h => hJ1 w' h)))
      refine cs.no (by simp; omega) (ldI.mk (h.p2.cell rfl) (jn.at (t := ()) (fun w' => Ok e (pts c [.int .i64 r.1.1, .int .i64 r.1.2] :: pts d [.int .i64 0, .int .i64 0] :: pts b [.int .i64 (n : Int), .int .i64 x0, .int .i64 x1, .int .i64 x2, .int .i64 x3] :: kerP k A r.2 :: old e :: L) w') (fun J3 hJ3 => ?_) (fun w' h => hJ2 w' h)))
      refine cs.no (by simp; omega) (ldI.mk (h.p2.cell rfl) (jn.at (t := ()) (fun w' => Ok e (pts c [.int .i64 r.1.1, .int .i64 r.1.2] :: pts d [.int .i64 0, .int .i64 0] :: pts b [.int .i64 (n : Int), .int .i64 x0, .int .i64 x1, .int .i64 x2, .int .i64 x3] :: kerP k A r.2 :: old e :: L) w') (fun J4 hJ4 => ?_) (fun w' h => hJ3 w' h)))
      exact cs.yes (by simp; omega) (ldI.mk (h.p2.cell rfl) (ldI.mk (h.p2.cell rfl) (ldI.mk (h.p2.cell rfl) (ldI.mk (h.p2.cell rfl) (ldI.mk (h.p2.cell rfl) (call84 (a0 := some ⟨k, 0, none⟩) (a1 := ((n : Int), x0, x1, x2, x3, ())) (run _ w6 hf h _ fun w'' h => hJ4 w'' h)))))))
    · refine cs.no (by simp; omega) (ldI.mk (h.p2.cell rfl) (jn.at (t := ()) (fun w' => Ok e (pts c [.int .i64 r.1.1, .int .i64 r.1.2] :: pts d [.int .i64 0, .int .i64 0] :: pts b [.int .i64 (n : Int), .int .i64 x0, .int .i64 x1, .int .i64 x2, .int .i64 x3] :: kerP k A r.2 :: old e :: L) w') (fun J0 hJ0 => ?_) (fun w' h => hJ w' h)))
      refine cs.no (by simp; omega) (ldI.mk (h.p2.cell rfl) (jn.at (t := ()) (fun w' => Ok e (pts c [.int .i64 r.1.1, .int .i64 r.1.2] :: pts d [.int .i64 0, .int .i64 0] :: pts b [.int .i64 (n : Int), .int .i64 x0, .int .i64 x1, .int .i64 x2, .int .i64 x3] :: kerP k A r.2 :: old e :: L) w') (fun J1 hJ1 => ?_) (fun w' h => hJ0 w' h)))
      refine cs.no (by simp; omega) (ldI.mk (h.p2.cell rfl) (jn.at (t := ()) (fun w' => Ok e (pts c [.int .i64 r.1.1, .int .i64 r.1.2] :: pts d [.int .i64 0, .int .i64 0] :: pts b [.int .i64 (n : Int), .int .i64 x0, .int .i64 x1, .int .i64 x2, .int .i64 x3] :: kerP k A r.2 :: old e :: L) w') (fun J2 hJ2 => ?_) (fun w' h => hJ1 w' h)))
      refine cs.no (by simp; omega) (ldI.mk (h.p2.cell rfl) (jn.at (t := ()) (fun w' => Ok e (pts c [.int .i64 r.1.1, .int .i64 r.1.2] :: pts d [.int .i64 0, .int .i64 0] :: pts b [.int .i64 (n : Int), .int .i64 x0, .int .i64 x1, .int .i64 x2, .int .i64 x3] :: kerP k A r.2 :: old e :: L) w') (fun J3 hJ3 => ?_) (fun w' h => hJ2 w' h)))
      refine cs.no (by simp; omega) (ldI.mk (h.p2.cell rfl) (jn.at (t := ()) (fun w' => Ok e (pts c [.int .i64 r.1.1, .int .i64 r.1.2] :: pts d [.int .i64 0, .int .i64 0] :: pts b [.int .i64 (n : Int), .int .i64 x0, .int .i64 x1, .int .i64 x2, .int .i64 x3] :: kerP k A r.2 :: old e :: L) w') (fun J4 hJ4 => ?_) (fun w' h => hJ3 w' h)))
      refine cs.no (by simp; omega) (ldI.mk (h.p2.cell rfl) (jn.at (t := ()) (fun w' => Ok e (pts c [.int .i64 r.1.1, .int .i64 r.1.2] :: pts d [.int .i64 0, .int .i64 0] :: pts b [.int .i64 (n : Int), .int .i64 x0, .int .i64 x1, .int .i64 x2, .int .i64 x3] :: kerP k A r.2 :: old e :: L) w') (fun J5 hJ5 => ?_) (fun w' h => hJ4 w' h)))
      exact cs.yes (by simp; omega) (ldI.mk (h.p2.cell rfl) (ldI.mk (h.p2.cell rfl) (ldI.mk (h.p2.cell rfl) (ldI.mk (h.p2.cell rfl) (ldI.mk (h.p2.cell rfl) (call85 (a0 := some ⟨k, 0, none⟩) (a1 := ((n : Int), x0, x1, x2, x3, ())) (run _ w6 hf h _ fun w'' h => hJ5 w'' h)))))))
    · refine cs.no (by simp; omega) (ldI.mk (h.p2.cell rfl) (jn.at (t := ()) (fun w' => Ok e (pts c [.int .i64 r.1.1, .int .i64 r.1.2] :: pts d [.int .i64 0, .int .i64 0] :: pts b [.int .i64 (n : Int), .int .i64 x0, .int .i64 x1, .int .i64 x2, .int .i64 x3] :: kerP k A r.2 :: old e :: L) w') (fun J0 hJ0 => ?_) (fun w' h => hJ w' h)))
      refine cs.no (by simp; omega) (ldI.mk (h.p2.cell rfl) (jn.at (t := ()) (fun w' => Ok e (pts c [.int .i64 r.1.1, .int .i64 r.1.2] :: pts d [.int .i64 0, .int .i64 0] :: pts b [.int .i64 (n : Int), .int .i64 x0, .int .i64 x1, .int .i64 x2, .int .i64 x3] :: kerP k A r.2 :: old e :: L) w') (fun J1 hJ1 => ?_) (fun w' h => hJ0 w' h)))
      refine cs.no (by simp; omega) (ldI.mk (h.p2.cell rfl) (jn.at (t := ()) (fun w' => Ok e (pts c [.int .i64 r.1.1, .int .i64 r.1.2] :: pts d [.int .i64 0, .int .i64 0] :: pts b [.int .i64 (n : Int), .int .i64 x0, .int .i64 x1, .int .i64 x2, .int .i64 x3] :: kerP k A r.2 :: old e :: L) w') (fun J2 hJ2 => ?_) (fun w' h => hJ1 w' h)))
      refine cs.no (by simp; omega) (ldI.mk (h.p2.cell rfl) (jn.at (t := ()) (fun w' => Ok e (pts c [.int .i64 r.1.1, .int .i64 r.1.2] :: pts d [.int .i64 0, .int .i64 0] :: pts b [.int .i64 (n : Int), .int .i64 x0, .int .i64 x1, .int .i64 x2, .int .i64 x3] :: kerP k A r.2 :: old e :: L) w') (fun J3 hJ3 => ?_) (fun w' h => hJ2 w' h)))
      refine cs.no (by simp; omega) (ldI.mk (h.p2.cell rfl) (jn.at (t := ()) (fun w' => Ok e (pts c [.int .i64 r.1.1, .int .i64 r.1.2] :: pts d [.int .i64 0, .int .i64 0] :: pts b [.int .i64 (n : Int), .int .i64 x0, .int .i64 x1, .int .i64 x2, .int .i64 x3] :: kerP k A r.2 :: old e :: L) w') (fun J4 hJ4 => ?_) (fun w' h => hJ3 w' h)))
      refine cs.no (by simp; omega) (ldI.mk (h.p2.cell rfl) (jn.at (t := ()) (fun w' => Ok e (pts c [.int .i64 r.1.1, .int .i64 r.1.2] :: pts d [.int .i64 0, .int .i64 0] :: pts b [.int .i64 (n : Int), .int .i64 x0, .int .i64 x1, .int .i64 x2, .int .i64 x3] :: kerP k A r.2 :: old e :: L) w') (fun J5 hJ5 => ?_) (fun w' h => hJ4 w' h)))
      refine cs.no (by simp; omega) ?_
      exact ldI.mk (h.p2.cell rfl) (ldI.mk (h.p2.cell rfl) (ldI.mk (h.p2.cell rfl) (ldI.mk (h.p2.cell rfl) (ldI.mk (h.p2.cell rfl) (call86 (a0 := some ⟨k, 0, none⟩) (a1 := ((n : Int), x0, x1, x2, x3, ())) (run _ w6 hf h _ fun w'' h => hJ5 w'' h))))))


end Go.Proofs.YtenonfkfoedfmaaGreatDoor.B


/- The task that a call names; steps at the end of a call. -/
namespace Go.Proofs.YtenonfkfoedfmaaGreatDoor.B
open Go
set_option linter.unusedVariables false

/-- does a call name no task? -/
def noName (n : Nat) : Bool := [4, 8, 9, 10, 11, 12, 13, 22].contains n

def other (n : Nat) : Bool := [5, 17, 20, 21].contains n

def nmd (K : KM) (n : Nat) (kd x : Int) : Int := if noName n = true then K.who else K.named x (!other n && decide (kd ≠ 3))

theorem named_kern {e w L k A K R} {n : Nat} {a kd x0 x1 x2 x3 : Int} (h : Ok e (kerP k A K :: L) w) (hn : akL[n]? = some (a, kd)) (h0 : 0 < n) (h22 : n ≤ 22)
    (kk : ∀ w', Ok e (kerP k A K :: L) w' → R [.int .i64 (nmd K n kd x0)] w') : sh130 (some ⟨k, 0, none⟩) ((n : Int), x0, x1, x2, x3, ()) R w := by
  obtain ⟨ho, h⟩ := kerE h
  have hul := ptrsB_len h.p1
  have hus := ho.us
  unfold sh130
  refine al.mk h fun b w1 h => ldI.mk (h.cell rfl) ?_
  have who : noName n = true → nn (some ⟨k, 0, none⟩) fun b8 o9 => ldI w1 .i64 b8 (o9 + 12) fun n10 => R [.int .i64 n10] w1 := fun hw => nn.mk (ldI.mk (h.p1.cell rfl) (by
    have := kk w1 (kerI ho h.drop)
    unfold nmd at this
    rw [if_pos hw] at this
    exact this))
  have hk2 : ∀ w2, Ok e (pts b [.int .i64 (n : Int), .int .i64 x0, .int .i64 x1, .int .i64 x2, .int .i64 x3] :: pts k (kC A K) :: unitsP A.ub A.us K.us :: kR A K L) w2 → ∀ z, nmd K n kd x0 = z → R [.int .i64 z] w2 := fun w2 h z hz => hz ▸ kk w2 (kerI ho h.drop)
  clear kk
  refine jn.bool (noName n) (fun J hJ => ?_) (cs.mk (fun hw => who hw) (fun hw => ?_))
  · clear who hk2 h
    have hc : n = 1 ∨ n = 2 ∨ n = 3 ∨ n = 4 ∨ n = 5 ∨ n = 6 ∨ n = 7 ∨ n = 8 ∨ n = 9 ∨ n = 10 ∨ n = 11 ∨ n = 12 ∨ n = 13 ∨ n = 14 ∨ n = 15 ∨ n = 16 ∨ n = 17 ∨ n = 18 ∨ n = 19 ∨ n = 20 ∨ n = 21 ∨ n = 22 := by omega
    rcases hc with rfl | rfl | rfl | rfl | rfl | rfl | rfl | rfl | rfl | rfl | rfl | rfl | rfl | rfl | rfl | rfl | rfl | rfl | rfl | rfl | rfl | rfl
    all_goals (repeat (first | ((with_reducible refine cs.yes ?_ ?_); · rfl) | ((with_reducible refine cs.no ?_ ?_); · rfl) | refine jn.mk fun J hJ => ?_ | with_reducible apply_assumption -exfalso -symm))
  refine ⟨by decide, by decide, ldI.mk (h.cell rfl) ?_⟩
  have hnm : nmd K n kd x0 = K.named x0 (!other n && decide (kd ≠ 3)) := by unfold nmd; rw [if_neg (by intro hc; rw [show noName n = false from hw] at hc; cases hc)]
  rw [hnm] at hk2
  refine jn.bool (decide (1 ≤ x0 ∧ x0 ≤ K.us.length)) (fun J hJ => ?_) (cs.mk (fun h1 => ?_) (fun h1 => ?_))
  · refine cs.mk (fun h1 => ?_) (fun h1 => ?_)
    · have h1 : x0 ≥ 1 := of_decide_eq_true h1
      refine nn.mk (ldS.mk (h.p1.cell rfl) ?_)
      rw [show decide ((x0 : Int) < ((A.us.len : Int) : Int)) = decide (1 ≤ x0 ∧ x0 ≤ K.us.length) from decide_eq_decide.2 (by simp at hul; omega)]
      exact hJ
    · have h1 : ¬ x0 ≥ 1 := of_decide_eq_false h1
      rw [show decide (1 ≤ x0 ∧ x0 ≤ K.us.length) = false from decide_eq_false (by omega)] at hJ
      exact hJ
  · have h1 := of_decide_eq_true h1
    exact hk2 w1 h x0 (if_pos h1)
  have h1 := of_decide_eq_false h1
  refine ldI.mk (h.cell rfl) (jn.bool (other n) (fun J hJ => ?_) (cs.mk (fun h2 => ?_) (fun h2 => ?_)))
  · clear who hk2 h
    have hc : n = 1 ∨ n = 2 ∨ n = 3 ∨ n = 4 ∨ n = 5 ∨ n = 6 ∨ n = 7 ∨ n = 8 ∨ n = 9 ∨ n = 10 ∨ n = 11 ∨ n = 12 ∨ n = 13 ∨ n = 14 ∨ n = 15 ∨ n = 16 ∨ n = 17 ∨ n = 18 ∨ n = 19 ∨ n = 20 ∨ n = 21 ∨ n = 22 := by omega
    rcases hc with rfl | rfl | rfl | rfl | rfl | rfl | rfl | rfl | rfl | rfl | rfl | rfl | rfl | rfl | rfl | rfl | rfl | rfl | rfl | rfl | rfl | rfl
    all_goals (repeat (first | ((with_reducible refine cs.yes ?_ ?_); · rfl) | ((with_reducible refine cs.no ?_ ?_); · rfl) | refine jn.mk fun J hJ => ?_ | with_reducible apply_assumption -exfalso -symm))
  · have h2 : other n = true := h2
    refine hk2 w1 h 0 ?_
    unfold KM.named
    rw [if_neg h1, if_neg (by rw [h2]; simp)]
  · have h2 : other n = false := h2
    refine ⟨by decide, by decide, ldI.mk (h.cell rfl) (jn.mk fun J hJ => cs.mk (fun h3 => ?_) (fun h3 => ?_))⟩
    · have h3 : x0 = 0 := by simpa using h3
      refine ldI.mk (h.cell rfl) (ldI.mk (h.cell rfl) (ldI.mk (h.cell rfl) (ldI.mk (h.cell rfl) (ldI.mk (h.cell rfl) ?_))))
      refine call42 (a0 := ((n : Int), x0, x1, x2, x3, ())) (Kind_calls h hn h0 fun w2 h => ⟨(kd, ()), rfl, hJ _ _ (cs.mk (fun h4 => ?_) (fun h4 => ?_))⟩)
      · have h4 : ¬ kd = 3 := by simpa using h4
        refine nn.mk (ldI.mk (h.p1.cell rfl) (hk2 w2 h _ ?_))
        unfold KM.named
        rw [if_neg h1, if_pos ⟨h3, by rw [h2, decide_eq_true h4]; rfl⟩]
      · have h4 : kd = 3 := by simpa using h4
        refine hk2 w2 h 0 ?_
        unfold KM.named
        rw [if_neg h1, if_neg (by rw [decide_eq_false (fun hc => hc h4)]; simp)]
    · have h3 : ¬ x0 = 0 := by simpa using h3
      refine hJ _ _ (cs.no rfl (hk2 w1 h 0 ?_))
      unfold KM.named
      rw [if_neg h1, if_neg (fun hc => h3 hc.1)]

section
variable {e : World} {L : List SP} {w : World} {d : Nat} {c v : Int} {R : List Value → World → Prop}

/-- a call ends with a code alone -/
theorem fin_code (h : Ok e (pts d [.int .i64 0, .int .i64 0] :: L) w) (k : ∀ w', Ok e L w' → R [.agg #[.int .i64 c, .int .i64 0]] w') :
    cl Pg 77 [.int .i64 c, .slice none 0 0] [.a [(.i .i64), (.i .i64)]] w fun (r : (Int × Int × Unit) × Unit) w1 => st1 w1 d 0 (.int .i64 r.1.1) fun w2 => st1 w2 d (0 + 1) (.int .i64 r.1.2.1) fun w3 => ldI w3 .i64 d 0 fun n => ldI w3 .i64 d (0 + 1) fun m => R [.agg #[.int .i64 n, .int .i64 m]] w3 := by
  refine call77 (a1 := ⟨none, 0, 0⟩) (say_code h rfl fun w1 h => ⟨((c, (0 : Int), ()), ()), rfl, ?_⟩)
  exact st1.mk h (by simp) fun w2 h => st1.mk h (by simp) fun w3 h => ldI.mk (h.cell rfl) (ldI.mk (h.cell rfl) (k w3 h.drop))

/-- a call ends with a value -/
theorem fin_val (h : Ok e (pts d [.int .i64 0, .int .i64 0] :: L) w) (k : ∀ w', Ok e L w' → R [.agg #[.int .i64 0, .int .i64 v]] w') :
    al w 2 [.int .i64 v] fun b w0 => cl Pg 77 [.int .i64 0, vS ⟨some ⟨b, 0, none⟩, 1, 1⟩] [.a [(.i .i64), (.i .i64)]] w0 fun (r : (Int × Int × Unit) × Unit) w1 => st1 w1 d 0 (.int .i64 r.1.1) fun w2 => st1 w2 d (0 + 1) (.int .i64 r.1.2.1) fun w3 => ldI w3 .i64 d 0 fun n => ldI w3 .i64 d (0 + 1) fun m => R [.agg #[.int .i64 n, .int .i64 m]] w3 := by
  refine al.mk h fun b w1 h => ?_
  have h : Ok e (slc 1 ⟨some ⟨b, 0, none⟩, 1, 1⟩ (ints [v]) :: pts d [.int .i64 0, .int .i64 0] :: L) w1 := Ok.slcNew (vs := ints [v]) h rfl (ints_one [v])
  refine call77 (a1 := ⟨some ⟨b, 0, none⟩, 1, 1⟩) (say_val h fun w1 h => ⟨(((0 : Int), v, ()), ()), rfl, ?_⟩)
  exact st1.mk h (by simp) fun w2 h => st1.mk h (by simp) fun w3 h => ldI.mk (h.cell rfl) (ldI.mk (h.cell rfl) (k w3 h.drop))

/-- what a call answers is kept -/
theorem fin_res (h : Ok e (pts d [.int .i64 0, .int .i64 0] :: L) w) (k : ∀ w', Ok e L w' → R [.agg #[.int .i64 c, .int .i64 v]] w') :
    st1 w d 0 (.int .i64 c) fun w2 => st1 w2 d (0 + 1) (.int .i64 v) fun w3 => ldI w3 .i64 d 0 fun n => ldI w3 .i64 d (0 + 1) fun m => R [.agg #[.int .i64 n, .int .i64 m]] w3 :=
  st1.mk h (by simp) fun w2 h => st1.mk h (by simp) fun w3 h => ldI.mk (h.cell rfl) (ldI.mk (h.cell rfl) (k w3 h.drop))

end

end Go.Proofs.YtenonfkfoedfmaaGreatDoor.B


/- Configurations: checked, laid out. -/
namespace Go.Proofs.YtenonfkfoedfmaaGreatDoor.B
open Go
set_option linter.unusedVariables false

/-- where a configuration's rows lie -/
structure CfS where
  ts : Sl
  ss : Sl
  ds : Sl
  ms : Sl
  ps : Sl

def taC (x : Int × Bool) : List Value := [.int .i64 x.1, .bool x.2]

def seC (x : Bool × Int × Int) : List Value := [.bool x.1, .int .i64 x.2.1, .int .i64 x.2.2]

def daC (x : Bool × Int) : List Value := [.bool x.1, .int .i64 x.2]

theorem taC_len (a : Int × Bool) : (taC a).length = 2 := rfl

theorem seC_len (a : Bool × Int × Int) : (seC a).length = 3 := rfl

theorem daC_len (a : Bool × Int) : (daC a).length = 2 := rfl

theorem taC_one (a : Int × Bool) : ∀ v ∈ taC a, v.oneCell' = true := by
  intro v hv
  simp [taC] at hv
  rcases hv with rfl | rfl <;> rfl

theorem seC_one (a : Bool × Int × Int) : ∀ v ∈ seC a, v.oneCell' = true := by
  intro v hv
  simp [seC] at hv
  rcases hv with rfl | rfl | rfl <;> rfl

theorem daC_one (a : Bool × Int) : ∀ v ∈ daC a, v.oneCell' = true := by
  intro v hv
  simp [daC] at hv
  rcases hv with rfl | rfl <;> rfl

abbrev cfC (c : ConfM) (S : CfS) : List Value := [.int .i64 c.tic, vS S.ts, vS S.ss, vS ⟨none, 0, 0⟩, vS S.ds, vS S.ms, vS S.ps, vS ⟨none, 0, 0⟩, .int .i64 0]

abbrev cfR (c : ConfM) (S : CfS) (L : List SP) : List SP :=
  slc 2 S.ts (flat taC c.tasks) :: slc 3 S.ss (flat seC c.sems) :: slc 2 S.ds (flat daC c.datas) :: slc 2 S.ms (flat kdC c.mtxs) :: slc 3 S.ps (flat seC c.pools) :: L

abbrev cfV (c : ConfM) (S : CfS) : (Int × Sl × Sl × Sl × Sl × Sl × Sl × Sl × Int × Unit) := (c.tic, S.ts, S.ss, ⟨none, 0, 0⟩, S.ds, S.ms, S.ps, ⟨none, 0, 0⟩, 0, ())

theorem kdC_one1 (a : Int × Int) : ∀ v ∈ kdC a, v.oneCell' = true := by
  intro v hv
  simp [kdC] at hv
  rcases hv with rfl | rfl <;> rfl

theorem mul_bd2 {a b : Int} (ha : 0 ≤ a ∧ a ≤ 256) (hb : 0 ≤ b ∧ b ≤ 4096) : 0 ≤ a * b ∧ a * b ≤ 1048576 :=
  ⟨Int.mul_nonneg ha.1 hb.1, Int.le_trans (Int.mul_le_mul_of_nonneg_right ha.2 hb.1) (by omega)⟩

theorem Align_nums0 {w z} {R : List Value → World → Prop} (hz : 0 ≤ z ∧ z ≤ 1073741824) (k : R [.int .i64 (stp z)] w) : sh127 z 4 R w := by
  unfold sh127
  refine jn.bool (false) (fun J hJ => ?_) ?_
  · refine cs.no (decide_eq_false (by omega)) ?_
    rw [show decide (z > 1073741824) = false from decide_eq_false (by omega)]
    exact hJ
  refine jn.bool (false) (fun J hJ => ?_) ?_
  · exact cs.no rfl hJ
  refine jn.bool (false) (fun J hJ => ?_) ?_
  · exact cs.no rfl hJ
  refine cs.no rfl (ob.mk (by decide) ?_)
  rw [w64_in (x := z + 4) (by omega) (by omega), w64_in (x := z + 4 - 1) (by omega) (by omega), Int.tdiv_eq_ediv_of_nonneg (by omega), w64_in (x := (z + 4 - 1) / 4) (by omega) (by omega), w64_in (by omega) (by omega), show z + 4 - 1 = z + 3 by omega]
  exact k

theorem next_conf {e w L a p R} (h : Ok e L w) (ha : 0 ≤ a ∧ a ≤ 1048576) (hp : 1 ≤ p.2.1 ∧ p.2.1 ≤ 256 ∧ 1 ≤ p.2.2.1 ∧ p.2.2.1 ≤ 4096) (k : ∀ w', Ok e L w' → R [.int .i64 (stp a), .int .i64 (stp a + p.2.1 * stp p.2.2.1)] w') : sh71 a p R w := by
  unfold sh71
  have hm := mul_bd2 (a := p.2.1) (b := stp p.2.2.1) (by omega) (by have := stp_bd hp.2.2; omega)
  have ha4 : 0 ≤ stp a ∧ stp a ≤ 1048580 := by unfold stp; omega
  refine al.mk h fun b w1 h => ?_
  refine call127 (Align_nums0 (by omega) ⟨(stp a, ()), rfl, ldI.mk (h.cell rfl) ?_⟩)
  refine jn.bool (false) (fun J hJ => ?_) ?_
  · refine cs.no (decide_eq_false (by omega)) (ldI.mk (h.cell rfl) ?_)
    rw [show decide (p.2.1 > 65536) = false from decide_eq_false (by omega)]
    exact hJ
  refine jn.bool (false) (fun J hJ => ?_) ?_
  · refine cs.no rfl (ldI.mk (h.cell rfl) ?_)
    rw [show decide (p.2.2.1 < 0) = false from decide_eq_false (by omega)]
    exact hJ
  refine jn.bool (false) (fun J hJ => ?_) ?_
  · refine cs.no rfl (ldI.mk (h.cell rfl) ?_)
    rw [show decide (p.2.2.1 > 65536) = false from decide_eq_false (by omega)]
    exact hJ
  refine cs.no rfl (dr.mk h fun w2 h => ldI.mk (h.cell rfl) (ldI.mk (h.cell rfl) ?_))
  refine call127 (Align_nums0 (by omega) ⟨(stp p.2.2.1, ()), rfl, h.cell rfl, ?_⟩)
  have h5 : w64 (p.2.1 * stp p.2.2.1) = p.2.1 * stp p.2.2.1 := w64_in (by omega) (by omega)
  rw [h5, w64_in (by omega) (by omega)]
  exact k _ h.drop

theorem pools_get {ps : List (Bool × Int × Int)} {a : Int} {i : Nat} {p} (h : poolsOk a ps = true) (hp : ps[i]? = some p) : mpGood (stp (bytesM a (ps.take i))) p.2.1 p.2.2 ∧ bytesM a (ps.take (i + 1)) = stp (bytesM a (ps.take i)) + p.2.1 * stp p.2.2 := by
  induction ps generalizing a i with
  | nil => simp at hp
  | cons q ps ih =>
    simp only [poolsOk, Bool.and_eq_true, decide_eq_true_eq] at h
    cases i with
    | zero => cases hp; exact ⟨h.1, rfl⟩
    | succ i => exact ih h.2 (by simpa using hp)

theorem pools_bd {ps : List (Bool × Int × Int)} (h : poolsOk 0 ps = true) (i : Nat) : 0 ≤ bytesM 0 (ps.take i) ∧ bytesM 0 (ps.take i) ≤ 65536 := by
  induction i with
  | zero => simp [bytesM]
  | succ i ih =>
    by_cases hi : i < ps.length
    · obtain ⟨h1, h2⟩ := pools_get h (List.getElem?_eq_getElem hi)
      rw [h2]
      obtain ⟨h3, h4, -, h5, h6, h7, h8, h9⟩ := h1
      have := mul_bd2 (a := ps[i].2.1) (b := stp ps[i].2.2) (by omega) (by have := stp_bd ⟨h7, h8⟩; omega)
      omega
    · rw [List.take_of_length_le (by omega)] at ih ⊢
      exact ih

theorem Check1 {e w L b c S R} {i : Int} (h : Ok e (pts b (cfC c S) :: slc 2 S.ts (flat taC c.tasks) :: L) w) (hi : 0 ≤ i ∧ i < c.tasks.length) (ht : ∀ x ∈ c.tasks, 1 ≤ x.1 ∧ x.1 ≤ 16) (k : R [.int .i64 0] w) : sh174 i b R w := by
  unfold sh174
  refine ldS.mk (h.cell rfl) (ix_flat taC_len (by decide) h.p1 (by omega) (by omega) fun b2 o y hy _ _ hc => ldI.mk (hc 0 _ rfl _ ⟨_, h.p1⟩) ?_)
  have hy := ht y (List.mem_of_getElem? hy)
  refine jn.bool (false) (fun J hJ => ?_) ?_
  · refine cs.no (decide_eq_false (by omega)) ?_
    rw [show decide (y.1 > 16) = false from decide_eq_false (by omega)]
    exact hJ
  exact cs.no rfl k

theorem Check2 {e w L b c S R} {i : Int} (h : Ok e (pts b (cfC c S) :: slc 3 S.ss (flat seC c.sems) :: L) w) (hi : 0 ≤ i ∧ i < c.sems.length) (ht : ∀ x ∈ c.sems, semOk x.2.1 x.2.2) (k : ∀ w', Ok e (pts b (cfC c S) :: slc 3 S.ss (flat seC c.sems) :: L) w' → R [.int .i64 0] w') : sh176 i b R w := by
  unfold sh176
  refine dr.mk h fun w1 h => ldS.mk (h.cell rfl) (ix_flat seC_len (by decide) h.p1 (by omega) (by omega) fun b2 o2 y hy _ _ hc => ldB.mk (hc 0 _ rfl _ ⟨_, h.p1⟩) ?_)
  refine ldS.mk (h.cell rfl) (ix_flat seC_len (by decide) h.p1 (by omega) (by omega) fun b3 o3 y3 hy3 _ _ hc3 => ldI.mk (hc3 1 _ rfl _ ⟨_, h.p1⟩) ?_)
  refine ldS.mk (h.cell rfl) (ix_flat seC_len (by decide) h.p1 (by omega) (by omega) fun b4 o4 y4 hy4 _ _ hc4 => ldI.mk (hc4 2 _ rfl _ ⟨_, h.p1⟩) ?_)
  rw [hy] at hy3 hy4; cases hy3; cases hy4
  refine call43 (New_sem h (fun hn => absurd (ht y (List.mem_of_getElem? hy)) hn) fun _ s p w2 h => ⟨(some ⟨s, 0, none⟩, (0 : Int), ()), rfl, k w2 h.drop.drop⟩)

theorem Check3 {e w L b c S R} {i : Int} (h : Ok e (pts b (cfC c S) :: slc 2 S.ds (flat daC c.datas) :: L) w) (hi : 0 ≤ i ∧ i < c.datas.length) (ht : ∀ x ∈ c.datas, 0 ≤ x.2 ∧ x.2 ≤ 64) (k : ∀ w', Ok e (pts b (cfC c S) :: slc 2 S.ds (flat daC c.datas) :: L) w' → R [.int .i64 0] w') : sh178 i b R w := by
  unfold sh178
  refine dr.mk h fun w1 h => ldS.mk (h.cell rfl) (ix_flat daC_len (by decide) h.p1 (by omega) (by omega) fun b2 o2 y hy _ _ hc => ldB.mk (hc 0 _ rfl _ ⟨_, h.p1⟩) ?_)
  refine ldS.mk (h.cell rfl) (ix_flat daC_len (by decide) h.p1 (by omega) (by omega) fun b3 o3 y3 hy3 _ _ hc3 => ldI.mk (hc3 1 _ rfl _ ⟨_, h.p1⟩) ?_)
  rw [hy] at hy3; cases hy3
  refine call179 (New_dtq h (fun hn => absurd (ht y (List.mem_of_getElem? hy)) hn) fun _ s w2 h => ⟨(some ⟨s, 0, none⟩, (0 : Int), ()), rfl, k w2 h.drop⟩)

theorem Check4 {e w L b c S R} {i : Int} (h : Ok e (pts b (cfC c S) :: slc 2 S.ms (flat kdC c.mtxs) :: L) w) (hi : 0 ≤ i ∧ i < c.mtxs.length) (ht : ∀ x ∈ c.mtxs, MM.right x = true) (k : ∀ w', Ok e (pts b (cfC c S) :: slc 2 S.ms (flat kdC c.mtxs) :: L) w' → R [.int .i64 0] w') : sh180 i b R w := by
  unfold sh180
  refine ldS.mk (h.cell rfl) (ix_flat kdC_len (by decide) h.p1 (by omega) (by omega) fun b2 o2 y hy _ _ hc => ldI.mk (hc 0 _ rfl _ ⟨_, h.p1⟩) (ldI.mk (hc 1 _ rfl _ ⟨_, h.p1⟩) ?_))
  refine al.mk h fun b3 w1 h => ?_
  have h : Ok e (slc 2 ⟨some ⟨b3, 0, none⟩, 1, 1⟩ (flat kdC [y]) :: pts b (cfC c S) :: slc 2 S.ms (flat kdC c.mtxs) :: L) w1 := Ok.slcNew (vs := flat kdC [y]) h rfl (flat_one kdC_one1)
  refine call30 (a0 := ⟨some ⟨b3, 0, none⟩, 1, 1⟩) (New_mtx h (by simp) (fun z hz => ?_) fun a w2 h => ⟨(some ⟨a, 0, none⟩, (0 : Int), ()), rfl, k w2 h.drop.drop⟩)
  rw [List.mem_singleton.1 hz]
  exact ht y (List.mem_of_getElem? hy)

theorem Check5 {e w L b d c S R} {i : Nat} (h : Ok e (pts d [.int .i64 (bytesM 0 (c.pools.take i))] :: pts b (cfC c S) :: slc 3 S.ps (flat seC c.pools) :: L) w) (hi : i < c.pools.length) (ht : poolsOk 0 c.pools = true) (k : ∀ w', Ok e (pts d [.int .i64 (bytesM 0 (c.pools.take (i + 1)))] :: pts b (cfC c S) :: slc 3 S.ps (flat seC c.pools) :: L) w' → R [.int .i64 0] w') : sh181 (i : Int) d b R w := by
  unfold sh181
  obtain ⟨hg, hn⟩ := pools_get ht (List.getElem?_eq_getElem hi)
  rw [hn] at k
  have hbd := pools_bd ht i
  have hg2 := hg
  obtain ⟨-, -, -, g1, g2, g3, g4, -⟩ := hg2
  have rd : ∀ {w1 L1} {g : Nat → Nat → Prop}, Ok e (slc 3 S.ps (flat seC c.pools) :: L1) w1 → (∀ b2 o2, (∀ w', (∃ L', Ok e (slc 3 S.ps (flat seC c.pools) :: L') w') → w'.cell? ⟨b2, o2, none⟩ = some (.bool c.pools[i].1) ∧ w'.cell? ⟨b2, o2 + 1, none⟩ = some (.int .i64 c.pools[i].2.1) ∧ w'.cell? ⟨b2, o2 + 2, none⟩ = some (.int .i64 c.pools[i].2.2)) → g b2 o2) → ix S.ps (i : Int) 3 g := by
    intro w1 L1 g h hg
    refine ix_flat seC_len (by decide) h (by omega) (by omega) fun b2 o2 y hy _ _ hc => hg b2 o2 fun w' hw' => ?_
    rw [Int.toNat_natCast, List.getElem?_eq_getElem hi] at hy
    cases hy
    exact ⟨hc 0 _ rfl w' hw', hc 1 _ rfl w' hw', hc 2 _ rfl w' hw'⟩
  refine dr.mk h fun w1 h => ldI.mk (h.cell rfl) (ldS.mk (h.p1.cell rfl) (rd h.p2 fun b2 o2 hc => ldB.mk (hc w1 ⟨_, h.p2⟩).1 (ldI.mk (hc w1 ⟨_, h.p2⟩).2.1 (ldI.mk (hc w1 ⟨_, h.p2⟩).2.2 ?_))))
  refine call71 (a1 := (c.pools[i].1, c.pools[i].2.1, c.pools[i].2.2, ())) (next_conf h (by omega) ⟨g1, g2, g3, g4⟩ fun w2 h => ⟨(stp (bytesM 0 (c.pools.take i)), stp (bytesM 0 (c.pools.take i)) + c.pools[i].2.1 * stp c.pools[i].2.2, ()), rfl, ?_⟩)
  refine dr.mk h fun w1 h => (ldS.mk (h.p1.cell rfl) (rd h.p2 fun b2 o2 hc => ldB.mk (hc w1 ⟨_, h.p2⟩).1 ?_))
  refine ldS.mk (h.p1.cell rfl) (rd h.p2 fun b2 o2 hc => ldI.mk (hc w1 ⟨_, h.p2⟩).2.1 ?_)
  refine ldS.mk (h.p1.cell rfl) (rd h.p2 fun b2 o2 hc => ldI.mk (hc w1 ⟨_, h.p2⟩).2.2 ?_)
  refine call182 (NewPool_mpf h (fun w2 h hn => absurd hg hn) fun _ s w2 h => ⟨(some ⟨s, 0, none⟩, (0 : Int), ()), rfl, ?_⟩)
  exact st1.mk h.p1 (by simp) fun w3 h => k w3 h.p1.drop

theorem objects_conf {e w L nm n f R} (h : Ok e L w) (k : ∀ w', Ok e L w' → R [.agg #[.string nm, .string nm, .int .i64 n, .int .i64 0, .int .i64 8, vF f]] w') : sh175 nm n f R w := by
  unfold sh175
  refine al.mk h fun b w1 h => ?_
  refine st1.mk h (by simp) fun w1 h => st1.mk h (by simp) fun w1 h => st1.mk h (by simp) fun w1 h => st1.mk h (by simp) fun w1 h => st1.mk h (by simp) fun w1 h => st1.mk h (by simp) fun w1 h => ?_
  exact ⟨_, h.cell rfl, _, h.cell rfl, _, h.cell rfl, _, h.cell rfl, _, h.cell rfl, _, h.cell rfl, k w1 h.drop⟩

/-- a part of a configuration -/
structure PtD where
  nm : ByteArray
  al : ByteArray
  n : Nat
  lo : Nat
  hi : Nat
  f : Fv

def ptC (p : PtD) : List Value := [.string p.nm, .string p.al, .int .i64 p.n, .int .i64 p.lo, .int .i64 p.hi, vF p.f]

theorem ptC_len (a : PtD) : (ptC a).length = 6 := rfl

theorem ptC_one (a : PtD) : ∀ v ∈ ptC a, v.oneCell' = true := by
  intro v hv
  simp [ptC] at hv
  rcases hv with rfl | rfl | rfl | rfl | rfl | rfl <;> rfl

theorem first_conf {e w R s M} {ps : List PtD} (P : Nat → Nat → SP) (h : Ok e (slc 6 s (flat ptC ps) :: P 0 0 :: M) w) (hl : ps.length ≤ 8)
    (hp : ∀ j p, ps[j]? = some p → p.lo ≤ p.n ∧ p.n ≤ p.hi ∧ p.hi ≤ 16 ∧ enterable Pg p.f.fid = true ∧ P j p.n = P (j + 1) 0 ∧ ∀ i, i < p.n → ∀ L w (K : TK [kI] → World → Prop), Ok e (P j i :: L) w → (∀ w', Ok e (P j (i + 1) :: L) w' → K ((0 : Int), ()) w') → cl Pg p.f.fid (p.f.pre ++ ([.int .i64 (i : Int)] ++ p.f.post)) [kI] w K)
    (k : ∀ w', Ok e (P ps.length 0 :: M) w' → R [.string (bs []), .int .i64 0, .int .i64 0] w') : sh173 s R w := by
  unfold sh173
  have hsl : ps.length = s.len := slc_flat_len ptC_len (by decide) h
  refine lp.mk (fun t w1 => ∃ j : Nat, @Eq Int t.1 (j : Int) ∧ j ≤ ps.length ∧ Ok e (slc 6 s (flat ptC ps) :: P j 0 :: M) w1) (fun t _ => Int.toNat (Int.sub ps.length t.1)) ⟨0, rfl, by omega, h⟩ ?_
  rintro ⟨(t : Int), _⟩ w1 ⟨j, (rfl : t = (j : Int)), hj, h⟩
  refine cs.mk (fun h1 => ?_) (fun h1 => ?_)
  · have h1 : j < ps.length := by have := of_decide_eq_true h1; dsimp only at this; omega
    obtain ⟨g1, g2, g3, g4, g5, g6⟩ := hp j _ (List.getElem?_eq_getElem h1)
    refine ix_flat ptC_len (by decide) h (by dsimp only; omega) (by dsimp only; omega) fun b o y hy _ _ hc => ?_
    rw [show Int.toNat ((j : Int), ()).1 = j from Int.toNat_natCast j, List.getElem?_eq_getElem h1] at hy
    cases hy
    refine ⟨_, hc 0 _ rfl _ ⟨_, h⟩, _, hc 1 _ rfl _ ⟨_, h⟩, _, hc 2 _ rfl _ ⟨_, h⟩, _, hc 3 _ rfl _ ⟨_, h⟩, _, hc 4 _ rfl _ ⟨_, h⟩, _, hc 5 _ rfl _ ⟨_, h⟩, ?_⟩
    refine al.mk h fun d w2 h => ?_
    refine st1.mk h (by simp) fun w1 h => st1.mk h (by simp) fun w1 h => st1.mk h (by simp) fun w1 h => st1.mk h (by simp) fun w1 h => st1.mk h (by simp) fun w1 h => st1.mk h (by simp) fun w1 h => ?_
    refine ldI.mk (h.cell rfl) (ldI.mk (h.cell rfl) ?_)
    refine jn.bool (false) (fun J hJ => ?_) ?_
    · refine cs.no (decide_eq_false (by omega)) (ldI.mk (h.cell rfl) (ldI.mk (h.cell rfl) ?_))
      rw [show decide ((ps[j].n : Int) > (ps[j].hi : Int)) = false from decide_eq_false (by omega)]
      exact hJ
    refine cs.no rfl (ldI.mk (h.cell rfl) ?_)
    refine lp.mk (fun t w1 => ∃ i : Nat, @Eq Int t.1 (i : Int) ∧ i ≤ ps[j].n ∧ Ok e (P j i :: pts d (ptC ps[j]) :: slc 6 s (flat ptC ps) :: M) w1) (fun t _ => Int.toNat (Int.sub ps[j].n t.1)) ⟨0, rfl, by omega, h.p2⟩ ?_
    rintro ⟨(t : Int), _⟩ w3 ⟨i, (rfl : t = (i : Int)), hi, h⟩
    refine cs.mk (fun h2 => ?_) (fun h2 => ?_)
    · have h2 : i < ps[j].n := by have := of_decide_eq_true h2; dsimp only at this; omega
      refine ⟨_, h.p1.cell rfl, g4, ?_⟩
      refine g6 i h2 _ w3 _ h fun w4 h => cs.no rfl ⟨⟨i + 1, ?_, by omega, h⟩, ?_⟩
      · exact w64_in (by omega) (by omega)
      · dsimp only
        rw [w64_in (by omega) (by omega)]
        show ((ps[j].n : Int) - ((i : Int) + 1)).toNat < ((ps[j].n : Int) - (i : Int)).toNat
        omega
    · have h2 : ¬ i < ps[j].n := by have := of_decide_eq_false h2; dsimp only at this; omega
      have hin : i = ps[j].n := by omega
      subst hin
      rw [g5] at h
      refine ⟨⟨j + 1, ?_, by omega, h.p1.drop.p1⟩, ?_⟩
      · exact w64_in (by omega) (by omega)
      · dsimp only
        rw [w64_in (by omega) (by omega)]
        show ((ps.length : Int) - ((j : Int) + 1)).toNat < ((ps.length : Int) - (j : Int)).toNat
        omega
  · have h1 : ¬ j < ps.length := by have := of_decide_eq_false h1; dsimp only at this; omega
    have hjn : j = ps.length := by omega
    subst hjn
    exact k w1 h.drop

end Go.Proofs.YtenonfkfoedfmaaGreatDoor.B


/- Configurations: the check, the layout, the objects. -/
namespace Go.Proofs.YtenonfkfoedfmaaGreatDoor.B
open Go
set_option linter.unusedVariables false

structure CfOk (c : ConfM) : Prop where
  tic : 1 ≤ c.tic ∧ c.tic ≤ 1000
  tl : 1 ≤ c.tasks.length ∧ c.tasks.length ≤ 16
  sl : c.sems.length ≤ 8
  dl : c.datas.length ≤ 8
  ml : c.mtxs.length ≤ 8
  pl : c.pools.length ≤ 8
  t : ∀ x ∈ c.tasks, 1 ≤ x.1 ∧ x.1 ≤ 16
  s : ∀ x ∈ c.sems, semOk x.2.1 x.2.2
  d : ∀ x ∈ c.datas, 0 ≤ x.2 ∧ x.2 ≤ 64
  m : ∀ x ∈ c.mtxs, MM.right x = true
  p : poolsOk 0 c.pools = true

theorem CfOk.of {c : ConfM} (h : c.ok = true) : CfOk c := by
  simp only [ConfM.ok, Bool.and_eq_true, decide_eq_true_eq, List.all_eq_true] at h
  obtain ⟨⟨⟨⟨⟨h1, h2⟩, h3⟩, h4⟩, h5⟩, h6⟩ := h
  exact ⟨⟨h1.1, h1.2.1⟩, ⟨h1.2.2.1, h1.2.2.2.1⟩, h1.2.2.2.2.1, h1.2.2.2.2.2.1, h1.2.2.2.2.2.2.1, h1.2.2.2.2.2.2.2, fun x hx => of_decide_eq_true (by simpa using h2 x hx), fun x hx => by have := h3 x hx; simpa [semOk] using this, h4, h5, h6⟩

theorem Check_conf {e w L c S R} (h : Ok e (cfR c S L) w) (hc : CfOk c) (k : ∀ w', Ok e (cfR c S L) w' → R [.string (bs []), .int .i64 0, .int .i64 0] w') : sh98 (cfV c S) R w := by
  unfold sh98
  have l1 : c.tasks.length = S.ts.len := slc_flat_len taC_len (by decide) h
  have l2 : c.sems.length = S.ss.len := slc_flat_len seC_len (by decide) h.p1
  have l3 : c.datas.length = S.ds.len := slc_flat_len daC_len (by decide) h.p2
  have l4 : c.mtxs.length = S.ms.len := slc_flat_len kdC_len (by decide) h.p3
  have l5 : c.pools.length = S.ps.len := slc_flat_len seC_len (by decide) h.p4
  refine al.mk h fun b w1 h => ?_
  have h : Ok e (pts b (cfC c S) :: cfR c S L) w1 := h
  refine ldI.mk (h.cell rfl) ?_
  refine call101 (NewHands_cyc h hc.tic fun hb w2 h => ⟨(some ⟨hb, 0, none⟩, (0 : Int), ()), rfl, ?_⟩)
  refine al.mk h fun hd w3 h => st1.mk h (by simp) fun w4 h => cs.no rfl ?_
  have h : Ok e (pts hd [pV hb] :: hnP hb c.tic 0 0 0 [] :: pts b (cfC c S) :: cfR c S L) w4 := h
  refine al.mk h fun d w5 h => st1.mk h (by simp) fun w6 h => dr.mk h fun w7 h => ?_
  have h : Ok e (pts d [.int .i64 0] :: pts hd [pV hb] :: hnP hb c.tic 0 0 0 [] :: pts b (cfC c S) :: cfR c S L) w7 := h
  have h : Ok e (pts b (cfC c S) :: pts d [.int .i64 0] :: cfR c S (pts hd [pV hb] :: hnP hb c.tic 0 0 0 [] :: L)) w7 := (h.emb (by repeat' (first | with_reducible exact Emb.same _ | exact Emb.nil _ | refine Emb.cons (by with_reducible first | exact sl0 | exact .there sl0 | exact .there sl1 | exact .there sl2 | exact .there sl3 | exact .there sl4 | exact .there sl5 | exact .there sl6 | exact .there sl7 | exact .there sl8 | exact .there sl9 | exact .there sl10 | exact .there sl11 | exact .there sl12) ?_ | refine Emb.skip ?_)))
  refine ldS.mk (h.cell rfl) (ldS.mk (h.cell rfl) (ldS.mk (h.cell rfl) (ldS.mk (h.cell rfl) (ldS.mk (h.cell rfl) (ldS.mk (h.cell rfl) (ldS.mk (h.cell rfl) (ldI.mk (h.cell rfl) ?_)))))))
  refine call175 (a2 := ⟨176, [], [pV b]⟩) (objects_conf h fun w8 h => ⟨(((bs [115, 101, 109]), (bs [115, 101, 109]), ((S.ss.len : Nat) : Int), (0 : Int), (8 : Int), (⟨176, [], [pV b]⟩ : Fv), ()), ()), rfl, h.cell rfl, h.cell rfl, h.cell rfl, h.cell rfl, h.cell rfl, h.cell rfl, h.cell rfl, ?_⟩)
  refine call175 (a2 := ⟨177, [], []⟩) (objects_conf h fun w8 h => ⟨(((bs [102, 108, 97, 103]), (bs [102, 108, 97, 103]), (((0 : Nat) : Nat) : Int), (0 : Int), (8 : Int), (⟨177, [], []⟩ : Fv), ()), ()), rfl, h.cell rfl, h.cell rfl, h.cell rfl, h.cell rfl, h.cell rfl, h.cell rfl, ?_⟩)
  refine call175 (a2 := ⟨178, [], [pV b]⟩) (objects_conf h fun w8 h => ⟨(((bs [100, 97, 116, 97]), (bs [100, 97, 116, 97]), ((S.ds.len : Nat) : Int), (0 : Int), (8 : Int), (⟨178, [], [pV b]⟩ : Fv), ()), ()), rfl, h.cell rfl, h.cell rfl, h.cell rfl, h.cell rfl, h.cell rfl, ?_⟩)
  refine call175 (a2 := ⟨180, [], [pV b]⟩) (objects_conf h fun w8 h => ⟨(((bs [109, 116, 120]), (bs [109, 116, 120]), ((S.ms.len : Nat) : Int), (0 : Int), (8 : Int), (⟨180, [], [pV b]⟩ : Fv), ()), ()), rfl, h.cell rfl, h.cell rfl, h.cell rfl, h.cell rfl, ?_⟩)
  refine call175 (a2 := ⟨181, [], [pV d, pV b]⟩) (objects_conf h fun w8 h => ⟨(((bs [112, 111, 111, 108]), (bs [112, 111, 111, 108]), ((S.ps.len : Nat) : Int), (0 : Int), (8 : Int), (⟨181, [], [pV d, pV b]⟩ : Fv), ()), ()), rfl, h.cell rfl, h.cell rfl, h.cell rfl, ?_⟩)
  refine call175 (a2 := ⟨183, [], [pV b, pV hd]⟩) (objects_conf h fun w8 h => ⟨(((bs [99, 121, 99]), (bs [99, 121, 99]), (((0 : Nat) : Nat) : Int), (0 : Int), (8 : Int), (⟨183, [], [pV b, pV hd]⟩ : Fv), ()), ()), rfl, h.cell rfl, h.cell rfl, ?_⟩)
  refine call175 (a2 := ⟨177, [], []⟩) (objects_conf h fun w8 h => ⟨(((bs [97, 108, 97, 114, 109]), (bs [97, 108, 97, 114, 109]), (0 : Int), (0 : Int), (8 : Int), (⟨177, [], []⟩ : Fv), ()), ()), rfl, h.cell rfl, ?_⟩)
  let ps : List PtD := [⟨bs [116, 97, 115, 107], bs [116, 97, 115, 107, 115], S.ts.len, 1, 16, ⟨174, [], [pV b]⟩⟩, ⟨bs [115, 101, 109], bs [115, 101, 109], S.ss.len, 0, 8, ⟨176, [], [pV b]⟩⟩,
    ⟨bs [102, 108, 97, 103], bs [102, 108, 97, 103], 0, 0, 8, ⟨177, [], []⟩⟩, ⟨bs [100, 97, 116, 97], bs [100, 97, 116, 97], S.ds.len, 0, 8, ⟨178, [], [pV b]⟩⟩,
    ⟨bs [109, 116, 120], bs [109, 116, 120], S.ms.len, 0, 8, ⟨180, [], [pV b]⟩⟩, ⟨bs [112, 111, 111, 108], bs [112, 111, 111, 108], S.ps.len, 0, 8, ⟨181, [], [pV d, pV b]⟩⟩,
    ⟨bs [99, 121, 99], bs [99, 121, 99], 0, 0, 8, ⟨183, [], [pV b, pV hd]⟩⟩, ⟨bs [97, 108, 97, 114, 109], bs [97, 108, 97, 114, 109], 0, 0, 8, ⟨177, [], []⟩⟩]
  let P : Nat → Nat → SP := fun j i => oksH (pts b (cfC c S) :: pts d [.int .i64 (bytesM 0 (c.pools.take (if j < 5 then 0 else if j = 5 then i else c.pools.length)))] :: cfR c S [])
  refine al.mk h fun f w9 h => ?_
  have h : Ok e (slc 6 ⟨some ⟨f, 0, none⟩, 8, 8⟩ (flat ptC ps) :: pts b (cfC c S) :: pts d [.int .i64 0] :: cfR c S (pts hd [pV hb] :: hnP hb c.tic 0 0 0 [] :: L)) w9 := Ok.slcNew (vs := flat ptC ps) h rfl (flat_one ptC_one)
  have h : Ok e (slc 6 ⟨some ⟨f, 0, none⟩, 8, 8⟩ (flat ptC ps) :: P 0 0 :: pts hd [pV hb] :: hnP hb c.tic 0 0 0 [] :: L) w9 := (Ok.pack (M := pts b (cfC c S) :: pts d [.int .i64 0] :: cfR c S []) (L := slc 6 ⟨some ⟨f, 0, none⟩, 8, 8⟩ (flat ptC ps) :: pts hd [pV hb] :: hnP hb c.tic 0 0 0 [] :: L) (h.emb (by repeat' (first | with_reducible exact Emb.same _ | exact Emb.nil _ | refine Emb.cons (by with_reducible first | exact sl0 | exact .there sl0 | exact .there sl1 | exact .there sl2 | exact .there sl3 | exact .there sl4 | exact .there sl5 | exact .there sl6 | exact .there sl7 | exact .there sl8 | exact .there sl9 | exact .there sl10 | exact .there sl11 | exact .there sl12) ?_ | refine Emb.skip ?_)))).p1
  refine call173 (a0 := ⟨some ⟨f, 0, none⟩, 8, 8⟩) (first_conf (ps := ps) P h (Nat.le_refl 8) (fun j p hj => ?_) fun w10 h => ⟨(bs [], (0 : Int), (0 : Int), ()), rfl, ?_⟩)
  · have hj8 : j < 8 := (List.getElem?_eq_some_iff.1 hj).1
    obtain rfl | rfl | rfl | rfl | rfl | rfl | rfl | rfl : j = 0 ∨ j = 1 ∨ j = 2 ∨ j = 3 ∨ j = 4 ∨ j = 5 ∨ j = 6 ∨ j = 7 := by omega
    · cases hj
      refine ⟨l1 ▸ hc.tl.1, l1 ▸ hc.tl.2, Nat.le_refl 16, by kernel_rfl, rfl, fun i hi L w K h kk => ?_⟩
      have hi : i < S.ts.len := hi
      show cl Pg 174 [.int .i64 (i : Int), pV b] [kI] w K
      have h2 : Ok e (pts b (cfC c S) :: pts d [.int .i64 0] :: cfR c S L) w := h.unpack
      exact call174 (Check1 ((Ok.emb (h2) (.cons (A := pts b (cfC c S)) (by with_reducible first | exact sl0 | exact .there sl0 | exact .there sl1 | exact .there sl2 | exact .there sl3 | exact .there sl4 | exact .there sl5 | exact .there sl6 | exact .there sl7 | exact .there sl8 | exact .there sl9 | exact .there sl10 | exact .there sl11 | exact .there sl12) (.cons (A := slc 2 S.ts (flat taC c.tasks)) (by with_reducible first | exact sl0 | exact .there sl0 | exact .there sl1 | exact .there sl2 | exact .there sl3 | exact .there sl4 | exact .there sl5 | exact .there sl6 | exact .there sl7 | exact .there sl8 | exact .there sl9 | exact .there sl10 | exact .there sl11 | exact .there sl12) (.same _))))) (by omega) hc.t ⟨((0 : Int), ()), rfl, kk w h⟩)
    · cases hj
      refine ⟨Nat.zero_le _, l2 ▸ hc.sl, (show (8 : Nat) ≤ 16 by decide), by kernel_rfl, rfl, fun i hi L w K h kk => ?_⟩
      have hi : i < S.ss.len := hi
      show cl Pg 176 [.int .i64 (i : Int), pV b] [kI] w K
      have h2 : Ok e (pts b (cfC c S) :: pts d [.int .i64 0] :: cfR c S L) w := h.unpack
      exact call176 (Check2 ((Ok.emb (h2) (.cons (A := pts b (cfC c S)) (by with_reducible first | exact sl0 | exact .there sl0 | exact .there sl1 | exact .there sl2 | exact .there sl3 | exact .there sl4 | exact .there sl5 | exact .there sl6 | exact .there sl7 | exact .there sl8 | exact .there sl9 | exact .there sl10 | exact .there sl11 | exact .there sl12) (.cons (A := slc 3 S.ss (flat seC c.sems)) (by with_reducible first | exact sl0 | exact .there sl0 | exact .there sl1 | exact .there sl2 | exact .there sl3 | exact .there sl4 | exact .there sl5 | exact .there sl6 | exact .there sl7 | exact .there sl8 | exact .there sl9 | exact .there sl10 | exact .there sl11 | exact .there sl12) (.same _))))) (by omega) hc.s fun w' h => ⟨((0 : Int), ()), rfl, kk w' (Ok.pack (M := pts b (cfC c S) :: pts d [.int .i64 0] :: cfR c S []) (L := L) (show Ok e (pts b (cfC c S) :: pts d [.int .i64 0] :: cfR c S L) w' from (h.emb (by repeat' (first | with_reducible exact Emb.same _ | exact Emb.nil _ | refine Emb.cons (by with_reducible first | exact sl0 | exact .there sl0 | exact .there sl1 | exact .there sl2 | exact .there sl3 | exact .there sl4 | exact .there sl5 | exact .there sl6 | exact .there sl7 | exact .there sl8 | exact .there sl9 | exact .there sl10 | exact .there sl11 | exact .there sl12) ?_ | refine Emb.skip ?_)))))⟩)
    · cases hj
      exact ⟨Nat.zero_le _, Nat.zero_le _, (show (8 : Nat) ≤ 16 by decide), by kernel_rfl, rfl, fun i hi => absurd hi (Nat.not_lt_zero i)⟩
    · cases hj
      refine ⟨Nat.zero_le _, l3 ▸ hc.dl, (show (8 : Nat) ≤ 16 by decide), by kernel_rfl, rfl, fun i hi L w K h kk => ?_⟩
      have hi : i < S.ds.len := hi
      show cl Pg 178 [.int .i64 (i : Int), pV b] [kI] w K
      have h2 : Ok e (pts b (cfC c S) :: pts d [.int .i64 0] :: cfR c S L) w := h.unpack
      exact call178 (Check3 ((Ok.emb (h2) (.cons (A := pts b (cfC c S)) (by with_reducible first | exact sl0 | exact .there sl0 | exact .there sl1 | exact .there sl2 | exact .there sl3 | exact .there sl4 | exact .there sl5 | exact .there sl6 | exact .there sl7 | exact .there sl8 | exact .there sl9 | exact .there sl10 | exact .there sl11 | exact .there sl12) (.cons (A := slc 2 S.ds (flat daC c.datas)) (by with_reducible first | exact sl0 | exact .there sl0 | exact .there sl1 | exact .there sl2 | exact .there sl3 | exact .there sl4 | exact .there sl5 | exact .there sl6 | exact .there sl7 | exact .there sl8 | exact .there sl9 | exact .there sl10 | exact .there sl11 | exact .there sl12) (.same _))))) (by omega) hc.d fun w' h => ⟨((0 : Int), ()), rfl, kk w' (Ok.pack (M := pts b (cfC c S) :: pts d [.int .i64 0] :: cfR c S []) (L := L) (show Ok e (pts b (cfC c S) :: pts d [.int .i64 0] :: cfR c S L) w' from (h.emb (by repeat' (first | with_reducible exact Emb.same _ | exact Emb.nil _ | refine Emb.cons (by with_reducible first | exact sl0 | exact .there sl0 | exact .there sl1 | exact .there sl2 | exact .there sl3 | exact .there sl4 | exact .there sl5 | exact .there sl6 | exact .there sl7 | exact .there sl8 | exact .there sl9 | exact .there sl10 | exact .there sl11 | exact .there sl12) ?_ | refine Emb.skip ?_)))))⟩)
    · cases hj
      refine ⟨Nat.zero_le _, l4 ▸ hc.ml, (show (8 : Nat) ≤ 16 by decide), by kernel_rfl, rfl, fun i hi L w K h kk => ?_⟩
      have hi : i < S.ms.len := hi
      show cl Pg 180 [.int .i64 (i : Int), pV b] [kI] w K
      have h2 : Ok e (pts b (cfC c S) :: pts d [.int .i64 0] :: cfR c S L) w := h.unpack
      exact call180 (Check4 ((Ok.emb (h2) (.cons (A := pts b (cfC c S)) (by with_reducible first | exact sl0 | exact .there sl0 | exact .there sl1 | exact .there sl2 | exact .there sl3 | exact .there sl4 | exact .there sl5 | exact .there sl6 | exact .there sl7 | exact .there sl8 | exact .there sl9 | exact .there sl10 | exact .there sl11 | exact .there sl12) (.cons (A := slc 2 S.ms (flat kdC c.mtxs)) (by with_reducible first | exact sl0 | exact .there sl0 | exact .there sl1 | exact .there sl2 | exact .there sl3 | exact .there sl4 | exact .there sl5 | exact .there sl6 | exact .there sl7 | exact .there sl8 | exact .there sl9 | exact .there sl10 | exact .there sl11 | exact .there sl12) (.same _))))) (by omega) hc.m fun w' h => ⟨((0 : Int), ()), rfl, kk w' (Ok.pack (M := pts b (cfC c S) :: pts d [.int .i64 0] :: cfR c S []) (L := L) (show Ok e (pts b (cfC c S) :: pts d [.int .i64 0] :: cfR c S L) w' from (h.emb (by repeat' (first | with_reducible exact Emb.same _ | exact Emb.nil _ | refine Emb.cons (by with_reducible first | exact sl0 | exact .there sl0 | exact .there sl1 | exact .there sl2 | exact .there sl3 | exact .there sl4 | exact .there sl5 | exact .there sl6 | exact .there sl7 | exact .there sl8 | exact .there sl9 | exact .there sl10 | exact .there sl11 | exact .there sl12) ?_ | refine Emb.skip ?_)))))⟩)
    · cases hj
      refine ⟨Nat.zero_le _, l5 ▸ hc.pl, (show (8 : Nat) ≤ 16 by decide), by kernel_rfl, ?_, fun i hi L w K h kk => ?_⟩
      · show oksH _ = oksH _
        rw [← l5]
        rfl
      have hi : i < S.ps.len := hi
      show cl Pg 181 [.int .i64 (i : Int), pV d, pV b] [kI] w K
      have h2 : Ok e (pts b (cfC c S) :: pts d [.int .i64 (bytesM 0 (c.pools.take i))] :: cfR c S L) w := h.unpack
      exact call181 (Check5 ((Ok.emb (h2) (.cons (A := pts d [.int .i64 (bytesM 0 (c.pools.take i))]) (by with_reducible first | exact sl0 | exact .there sl0 | exact .there sl1 | exact .there sl2 | exact .there sl3 | exact .there sl4 | exact .there sl5 | exact .there sl6 | exact .there sl7 | exact .there sl8 | exact .there sl9 | exact .there sl10 | exact .there sl11 | exact .there sl12) (.cons (A := pts b (cfC c S)) (by with_reducible first | exact sl0 | exact .there sl0 | exact .there sl1 | exact .there sl2 | exact .there sl3 | exact .there sl4 | exact .there sl5 | exact .there sl6 | exact .there sl7 | exact .there sl8 | exact .there sl9 | exact .there sl10 | exact .there sl11 | exact .there sl12) (.cons (A := slc 3 S.ps (flat seC c.pools)) (by with_reducible first | exact sl0 | exact .there sl0 | exact .there sl1 | exact .there sl2 | exact .there sl3 | exact .there sl4 | exact .there sl5 | exact .there sl6 | exact .there sl7 | exact .there sl8 | exact .there sl9 | exact .there sl10 | exact .there sl11 | exact .there sl12) (.same _)))))) (by omega) hc.p fun w' h => ⟨((0 : Int), ()), rfl, kk w' (Ok.pack (M := pts b (cfC c S) :: pts d [.int .i64 (bytesM 0 (c.pools.take (i + 1)))] :: cfR c S []) (L := L) (show Ok e (pts b (cfC c S) :: pts d [.int .i64 (bytesM 0 (c.pools.take (i + 1)))] :: cfR c S L) w' from (h.emb (by repeat' (first | with_reducible exact Emb.same _ | exact Emb.nil _ | refine Emb.cons (by with_reducible first | exact sl0 | exact .there sl0 | exact .there sl1 | exact .there sl2 | exact .there sl3 | exact .there sl4 | exact .there sl5 | exact .there sl6 | exact .there sl7 | exact .there sl8 | exact .there sl9 | exact .there sl10 | exact .there sl11 | exact .there sl12) ?_ | refine Emb.skip ?_)))))⟩)
    · cases hj
      exact ⟨Nat.zero_le _, Nat.zero_le _, (show (8 : Nat) ≤ 16 by decide), by kernel_rfl, rfl, fun i hi => absurd hi (Nat.not_lt_zero i)⟩
    · cases hj
      exact ⟨Nat.zero_le _, Nat.zero_le _, (show (8 : Nat) ≤ 16 by decide), by kernel_rfl, rfl, fun i hi => absurd hi (Nat.not_lt_zero i)⟩
  · have h2 : Ok e (pts b (cfC c S) :: pts d [.int .i64 (bytesM 0 (c.pools.take c.pools.length))] :: cfR c S (pts hd [pV hb] :: hnP hb c.tic 0 0 0 [] :: L)) w10 := h.unpack
    exact k w10 (Ok.emb (h2) (by repeat' (first | with_reducible exact Emb.same _ | exact Emb.nil _ | refine Emb.cons (by with_reducible first | exact sl0 | exact .there sl0 | exact .there sl1 | exact .there sl2 | exact .there sl3 | exact .there sl4 | exact .there sl5 | exact .there sl6 | exact .there sl7 | exact .there sl8 | exact .there sl9 | exact .there sl10 | exact .there sl11 | exact .there sl12) ?_ | refine Emb.skip ?_)))

theorem layout_get {ps : List (Bool × Int × Int)} {a : Int} {i : Nat} (hi : i < ps.length) : (layoutM a ps)[i]? = some (stp (bytesM a (ps.take i))) := by
  induction ps generalizing a i with
  | nil => simp at hi
  | cons q ps ih =>
    cases i with
    | zero => rfl
    | succ i => exact ih (by simpa using hi)

theorem layout_len {ps : List (Bool × Int × Int)} {a : Int} : (layoutM a ps).length = ps.length := by
  induction ps generalizing a with
  | nil => rfl
  | cons q ps ih => simp [layoutM, ih]

/-- a configuration's pools are read -/
theorem ix_pool {e w L s} {ps : List (Bool × Int × Int)} {i : Nat} {g : Nat → Nat → Prop} (h : Ok e (slc 3 s (flat seC ps) :: L) w) (hi : i < ps.length)
    (hg : ∀ b2 o2, (∀ w', (∃ L', Ok e (slc 3 s (flat seC ps) :: L') w') → w'.cell? ⟨b2, o2, none⟩ = some (.bool ps[i].1) ∧ w'.cell? ⟨b2, o2 + 1, none⟩ = some (.int .i64 ps[i].2.1) ∧ w'.cell? ⟨b2, o2 + 2, none⟩ = some (.int .i64 ps[i].2.2)) → g b2 o2) : ix s (i : Int) 3 g := by
  refine ix_flat seC_len (by decide) h (by omega) (by omega) fun b2 o2 y hy _ _ hc => hg b2 o2 fun w' hw' => ?_
  rw [Int.toNat_natCast, List.getElem?_eq_getElem hi] at hy
  cases hy
  exact ⟨hc 0 _ rfl w' hw', hc 1 _ rfl w' hw', hc 2 _ rfl w' hw'⟩

theorem Layout_conf {e w L c S R} (h : Ok e (cfR c S L) w) (hc : CfOk c) (k : ∀ x w', Ok e (slc 1 x (ints (layoutM 0 c.pools)) :: cfR c S L) w' → R [vS x] w') : sh185 (cfV c S) R w := by
  unfold sh185
  have l5 : c.pools.length = S.ps.len := slc_flat_len seC_len (by decide) h.p4
  have hpl := hc.pl
  refine al.mk h fun b w1 h => ldS.mk (h.cell rfl) ?_
  refine lp.mk (fun t w1 => ∃ i : Nat, @Eq Int t.2.2.1 (i : Int) ∧ @Eq Int t.2.1 (bytesM 0 (c.pools.take i)) ∧ i ≤ c.pools.length ∧ Ok e (slc 1 t.1 (ints ((layoutM 0 c.pools).take i)) :: slc 3 S.ps (flat seC c.pools) :: slc 2 S.ts (flat taC c.tasks) :: slc 3 S.ss (flat seC c.sems) :: slc 2 S.ds (flat daC c.datas) :: slc 2 S.ms (flat kdC c.mtxs) :: L) w1)
    (fun t _ => Int.toNat (Int.sub c.pools.length t.2.2.1)) ⟨0, rfl, rfl, by omega, ?_⟩ ?_
  · have h2 : Ok e (slc 1 ⟨none, 0, 0⟩ (ints ((layoutM 0 c.pools).take 0)) :: cfR c S L) w1 := h.drop.slcNil 1
    have h3 : Ok e (slc 1 ⟨none, 0, 0⟩ (ints ((layoutM 0 c.pools).take 0)) :: slc 3 S.ps (flat seC c.pools) :: slc 2 S.ts (flat taC c.tasks) :: slc 3 S.ss (flat seC c.sems) :: slc 2 S.ds (flat daC c.datas) :: slc 2 S.ms (flat kdC c.mtxs) :: L) w1 := (Ok.emb (h2) (by repeat' (first | with_reducible exact Emb.same _ | exact Emb.nil _ | refine Emb.cons (by with_reducible first | exact sl0 | exact .there sl0 | exact .there sl1 | exact .there sl2 | exact .there sl3 | exact .there sl4 | exact .there sl5 | exact .there sl6 | exact .there sl7 | exact .there sl8 | exact .there sl9 | exact .there sl10 | exact .there sl11 | exact .there sl12) ?_ | refine Emb.skip ?_)))
    exact h3
  rintro ⟨x, (at' : Int), (t : Int), _⟩ w3 ⟨i, (rfl : t = (i : Int)), (rfl : at' = _), hi, h⟩
  dsimp only at h ⊢
  refine cs.mk (fun h2 => ?_) (fun h2 => ?_)
  · have h2 : i < c.pools.length := by have := of_decide_eq_true h2; omega
    obtain ⟨hg, hn⟩ := pools_get hc.p (List.getElem?_eq_getElem h2)
    have hbd := pools_bd hc.p i
    have hg2 := hg
    obtain ⟨-, -, -, g1, g2, g3, g4, -⟩ := hg2
    refine ix_pool h.p1 h2 fun b2 o2 hc2 => ldB.mk (hc2 w3 ⟨_, h.p1⟩).1 (ldI.mk (hc2 w3 ⟨_, h.p1⟩).2.1 (ldI.mk (hc2 w3 ⟨_, h.p1⟩).2.2 ?_))
    refine al.mk h fun d w4 h => st1.mk h (by simp) fun w5 h => st1.mk h (by simp) fun w5 h => st1.mk h (by simp) fun w5 h => ldB.mk (h.cell rfl) (ldI.mk (h.cell rfl) (ldI.mk (h.cell rfl) ?_))
    refine call71 (a1 := (c.pools[i].1, c.pools[i].2.1, c.pools[i].2.2, ())) (next_conf h (by omega) ⟨g1, g2, g3, g4⟩ fun w2 h => ⟨(stp (bytesM 0 (c.pools.take i)), stp (bytesM 0 (c.pools.take i)) + c.pools[i].2.1 * stp c.pools[i].2.2, ()), rfl, ?_⟩)
    have h := h.drop
    have hxl := h.slc_len
    simp [layout_len] at hxl
    refine al.mk h fun f w6 h => ?_
    refine ef.append1 (n := 1) slT_int (by decide) h rfl (by simp; rfl) (by omega) fun s' w7 hl' h => ?_
    refine ⟨⟨i + 1, ?_, ?_, h2, ?_⟩, ?_⟩
    · exact w64_in (by omega) (by omega)
    · exact hn.symm
    · rw [List.take_add_one, layout_get h2]
      simpa using h
    · show ((c.pools.length : Int) - w64 ((i : Int) + 1)).toNat < ((c.pools.length : Int) - (i : Int)).toNat
      rw [w64_in (by omega) (by omega)]
      omega
  · have h2 : i = c.pools.length := by have := of_decide_eq_false h2; omega
    subst h2
    rw [List.take_of_length_le (by rw [layout_len]; omega)] at h
    exact k x w3 (h.emb (by repeat' (first | with_reducible exact Emb.same _ | exact Emb.nil _ | refine Emb.cons (by with_reducible first | exact sl0 | exact .there sl0 | exact .there sl1 | exact .there sl2 | exact .there sl3 | exact .there sl4 | exact .there sl5 | exact .there sl6 | exact .there sl7 | exact .there sl8 | exact .there sl9 | exact .there sl10 | exact .there sl11 | exact .there sl12) ?_ | refine Emb.skip ?_)))

end Go.Proofs.YtenonfkfoedfmaaGreatDoor.B


/- A kernel is made. -/
namespace Go.Proofs.YtenonfkfoedfmaaGreatDoor.B
open Go
set_option linter.unusedVariables false

theorem slT_semp : SlT Pg 122 1 := .of (by kernel_rfl)

theorem slT_datp : SlT Pg 124 1 := .of (by kernel_rfl)

theorem slT_poolp : SlT Pg 125 1 := .of (by kernel_rfl)

theorem slT_unitp : SlT Pg 130 1 := .of (by kernel_rfl)

abbrev semN (s : Bool × Int × Int) : SemM := ⟨s.1, s.2.1, s.2.2, []⟩

abbrev datN (d : Bool × Int) : DatM := ⟨d.1, d.2, dqNew⟩

abbrev poolN (a : Int) (p : Bool × Int × Int) : PoolM := ⟨p.1, a, p.2.1, p.2.2, mp0⟩

theorem zip_take {ps : List (Bool × Int × Int)} {ys : List Int} {i : Nat} {a p} (ha : ys[i]? = some a) (hp : ps[i]? = some p) : List.zipWith poolN (ys.take (i + 1)) (ps.take (i + 1)) = List.zipWith poolN (ys.take i) (ps.take i) ++ [poolN a p] := by
  have h1 := (List.getElem?_eq_some_iff.1 ha).1
  have h2 := (List.getElem?_eq_some_iff.1 hp).1
  rw [List.take_add_one, List.take_add_one, ha, hp, Option.toList_some, Option.toList_some, List.zipWith_append (by simp; omega)]
  rfl

set_option maxHeartbeats 1000000 in
theorem build_kern {e w L k c S R} {x6 x7 x8 x9 x10 x11 x12 : Value} (h : Ok e (pts k [vS ⟨none, 0, 0⟩, vS ⟨none, 0, 0⟩, vS ⟨none, 0, 0⟩, vS ⟨none, 0, 0⟩, .int .i64 0, .pointer none, x6, x7, x8, x9, x10, x11, x12] :: cfR c S L) w) (hc : CfOk c)
    (kk : ∀ ss ds ps lk w', Ok e (pts k [vS ss, vS ⟨none, 0, 0⟩, vS ds, vS ps, .int .i64 (c.mtxs.length : Int), pV lk, x6, x7, x8, x9, x10, x11, x12] :: semsP ss (c.sems.map semN) :: datasP ds (c.datas.map datN) :: poolsP ps (List.zipWith poolN (layoutM 0 c.pools) c.pools) :: mmP lk (MM.new c.mtxs) :: cfR c S L) w' → R [] w') : sh100 (some ⟨k, 0, none⟩) (cfV c S) R w := by
  unfold sh100
  have l2 : c.sems.length = S.ss.len := slc_flat_len seC_len (by decide) h.p2
  have l3 : c.datas.length = S.ds.len := slc_flat_len daC_len (by decide) h.p3
  have l4 : c.mtxs.length = S.ms.len := slc_flat_len kdC_len (by decide) h.p4
  have hpl := hc.pl; have hsl := hc.sl; have hdl := hc.dl
  refine al.mk h fun b w1 h => ldS.mk (h.cell rfl) ?_
  have h : Ok e (pts b (cfC c S) :: pts k [vS ⟨none, 0, 0⟩, vS ⟨none, 0, 0⟩, vS ⟨none, 0, 0⟩, vS ⟨none, 0, 0⟩, .int .i64 0, .pointer none, x6, x7, x8, x9, x10, x11, x12] :: cfR c S L) w1 := h
  refine call30 (New_mtx ((Ok.emb (h) (.cons (A := slc 2 S.ms (flat kdC c.mtxs)) (by with_reducible first | exact sl0 | exact .there sl0 | exact .there sl1 | exact .there sl2 | exact .there sl3 | exact .there sl4 | exact .there sl5 | exact .there sl6 | exact .there sl7 | exact .there sl8 | exact .there sl9 | exact .there sl10 | exact .there sl11 | exact .there sl12) (.same _)))) hc.ml hc.m fun lk w2 h => ⟨(some ⟨lk, 0, none⟩, (0 : Int), ()), rfl, nn.mk ?_⟩)
  refine st1.mk ((Ok.emb (h) (.cons (A := pts k [vS ⟨none, 0, 0⟩, vS ⟨none, 0, 0⟩, vS ⟨none, 0, 0⟩, vS ⟨none, 0, 0⟩, .int .i64 0, .pointer none, x6, x7, x8, x9, x10, x11, x12]) (by with_reducible first | exact sl0 | exact .there sl0 | exact .there sl1 | exact .there sl2 | exact .there sl3 | exact .there sl4 | exact .there sl5 | exact .there sl6 | exact .there sl7 | exact .there sl8 | exact .there sl9 | exact .there sl10 | exact .there sl11 | exact .there sl12) (.same _)))) (by simp) fun w3 h => ldS.mk (by refine Ok.cellS h (by with_reducible first | exact sl0 | exact .there sl0 | exact .there sl1 | exact .there sl2 | exact .there sl3 | exact .there sl4 | exact .there sl5 | exact .there sl6 | exact .there sl7 | exact .there sl8 | exact .there sl9 | exact .there sl10 | exact .there sl11 | exact .there sl12) ?_; rfl) (nn.mk (st1.mk h (by simp) fun w4 h => ldS.mk (by refine Ok.cellS h (by with_reducible first | exact sl0 | exact .there sl0 | exact .there sl1 | exact .there sl2 | exact .there sl3 | exact .there sl4 | exact .there sl5 | exact .there sl6 | exact .there sl7 | exact .there sl8 | exact .there sl9 | exact .there sl10 | exact .there sl11 | exact .there sl12) ?_; rfl) ?_))
  dsimp only [List.set] at h
  rw [← l4] at h
  let Q : List SP := pts b (cfC c S) :: mmP lk (MM.new c.mtxs) :: cfR c S L
  have h : Ok e (pts k [vS ⟨none, 0, 0⟩, vS ⟨none, 0, 0⟩, vS ⟨none, 0, 0⟩, vS ⟨none, 0, 0⟩, .int .i64 (c.mtxs.length : Int), pV lk, x6, x7, x8, x9, x10, x11, x12] :: pts b (cfC c S) :: mmP lk (MM.new c.mtxs) :: cfR c S L) w4 := (h.emb (by repeat' (first | with_reducible exact Emb.same _ | exact Emb.nil _ | refine Emb.cons (by with_reducible first | exact sl0 | exact .there sl0 | exact .there sl1 | exact .there sl2 | exact .there sl3 | exact .there sl4 | exact .there sl5 | exact .there sl6 | exact .there sl7 | exact .there sl8 | exact .there sl9 | exact .there sl10 | exact .there sl11 | exact .there sl12) ?_ | refine Emb.skip ?_)))
  refine lp.mk (fun t w1 => ∃ (i : Nat) (s : Sl), @Eq Int t.1 (i : Int) ∧ i ≤ c.sems.length ∧ Ok e (pts k [vS s, vS ⟨none, 0, 0⟩, vS ⟨none, 0, 0⟩, vS ⟨none, 0, 0⟩, .int .i64 (c.mtxs.length : Int), pV lk, x6, x7, x8, x9, x10, x11, x12] :: semsP s ((c.sems.take i).map semN) :: pts b (cfC c S) :: mmP lk (MM.new c.mtxs) :: cfR c S L) w1)
    (fun t _ => Int.toNat (Int.sub c.sems.length t.1)) ⟨0, ⟨none, 0, 0⟩, rfl, by omega, (ptrs_nil (h.slcNil 1)).p1⟩ ?_
  rintro ⟨(t : Int), _⟩ w5 ⟨i, s, (rfl : t = (i : Int)), hi, h⟩
  dsimp only
  refine cs.mk (fun h2 => ?_) (fun h2 => ?_)
  · have h2 : i < c.sems.length := by have := of_decide_eq_true h2; omega
    refine ix_pool ((Ok.emb (h) (.cons (A := slc 3 S.ss (flat seC c.sems)) (by with_reducible first | exact sl0 | exact .there sl0 | exact .there sl1 | exact .there sl2 | exact .there sl3 | exact .there sl4 | exact .there sl5 | exact .there sl6 | exact .there sl7 | exact .there sl8 | exact .there sl9 | exact .there sl10 | exact .there sl11 | exact .there sl12) (.same _)))) h2 fun b2 o2 hc2 => ?_
    obtain ⟨r1, r2, r3⟩ := hc2 w5 ⟨_, (Ok.emb (h) (.cons (A := slc 3 S.ss (flat seC c.sems)) (by with_reducible first | exact sl0 | exact .there sl0 | exact .there sl1 | exact .there sl2 | exact .there sl3 | exact .there sl4 | exact .there sl5 | exact .there sl6 | exact .there sl7 | exact .there sl8 | exact .there sl9 | exact .there sl10 | exact .there sl11 | exact .there sl12) (.same _)))⟩
    have hs := hc.s c.sems[i] (List.getElem_mem h2)
    refine ldB.mk r1 (ldI.mk r2 (ldI.mk r3 (al.mk h fun d w6 h => st1.mk h (by simp) fun w6 h => st1.mk h (by simp) fun w6 h => st1.mk h (by simp) fun w6 h => ldB.mk (h.cell rfl) (ldI.mk (h.cell rfl) (ldI.mk (h.cell rfl) ?_)))))
    have h := h.drop
    refine call43 (New_sem h (fun hn => absurd hs hn) fun _ sb p w7 h => ⟨(some ⟨sb, 0, none⟩, (0 : Int), ()), rfl, nn.mk ?_⟩)
    have h := semI (s := semN c.sems[i]) okL_nil hs h
    have hkl := ptrs_len ((Ok.emb (h) (.cons (A := semsP s ((c.sems.take i).map semN)) (by with_reducible first | exact sl0 | exact .there sl0 | exact .there sl1 | exact .there sl2 | exact .there sl3 | exact .there sl4 | exact .there sl5 | exact .there sl6 | exact .there sl7 | exact .there sl8 | exact .there sl9 | exact .there sl10 | exact .there sl11 | exact .there sl12) (.same _))))
    refine ldS.mk (h.p1.cell rfl) (al.mk h fun f w8 h => ?_)
    refine ef.appendPtr (P := semQ) (pre := []) slT_semp ((Ok.emb (h) (.cons (A := pts f [pV sb]) (by with_reducible first | exact sl0 | exact .there sl0 | exact .there sl1 | exact .there sl2 | exact .there sl3 | exact .there sl4 | exact .there sl5 | exact .there sl6 | exact .there sl7 | exact .there sl8 | exact .there sl9 | exact .there sl10 | exact .there sl11 | exact .there sl12) (.cons (A := semQ sb (semN c.sems[i])) (by with_reducible first | exact sl0 | exact .there sl0 | exact .there sl1 | exact .there sl2 | exact .there sl3 | exact .there sl4 | exact .there sl5 | exact .there sl6 | exact .there sl7 | exact .there sl8 | exact .there sl9 | exact .there sl10 | exact .there sl11 | exact .there sl12) (.cons (A := semsP s ((c.sems.take i).map semN)) (by with_reducible first | exact sl0 | exact .there sl0 | exact .there sl1 | exact .there sl2 | exact .there sl3 | exact .there sl4 | exact .there sl5 | exact .there sl6 | exact .there sl7 | exact .there sl8 | exact .there sl9 | exact .there sl10 | exact .there sl11 | exact .there sl12) (.same _)))))) (by simp; omega) fun s' w9 h => nn.mk (st1.mk h.p1 (by simp) fun w10 h => ?_)
    refine ⟨⟨i + 1, s', w64_in (by omega) (by omega), h2, ?_⟩, ?_⟩
    · rw [List.take_add_one, List.getElem?_eq_getElem h2, List.map_append]
      exact h
    · show ((c.sems.length : Int) - w64 ((i : Int) + 1)).toNat < ((c.sems.length : Int) - (i : Int)).toNat
      rw [w64_in (by omega) (by omega)]
      omega
  have h2 : i = c.sems.length := by have := of_decide_eq_false h2; omega
  subst h2
  rw [List.take_length] at h
  refine ldS.mk (by refine Ok.cellS h (by with_reducible first | exact sl0 | exact .there sl0 | exact .there sl1 | exact .there sl2 | exact .there sl3 | exact .there sl4 | exact .there sl5 | exact .there sl6 | exact .there sl7 | exact .there sl8 | exact .there sl9 | exact .there sl10 | exact .there sl11 | exact .there sl12) ?_; rfl) ?_
  refine lp.mk (fun t w1 => @Eq Int t.1 0 ∧ w1 = w5) (fun _ _ => 0) ⟨rfl, rfl⟩ ?_
  rintro ⟨(t : Int), _⟩ w6 ⟨(rfl : t = 0), rfl⟩
  refine cs.no rfl (ldS.mk (by refine Ok.cellS h (by with_reducible first | exact sl0 | exact .there sl0 | exact .there sl1 | exact .there sl2 | exact .there sl3 | exact .there sl4 | exact .there sl5 | exact .there sl6 | exact .there sl7 | exact .there sl8 | exact .there sl9 | exact .there sl10 | exact .there sl11 | exact .there sl12) ?_; rfl) ?_)
  refine lp.mk (fun t w1 => ∃ (i : Nat) (s2 : Sl), @Eq Int t.1 (i : Int) ∧ i ≤ c.datas.length ∧ Ok e (pts k [vS s, vS ⟨none, 0, 0⟩, vS s2, vS ⟨none, 0, 0⟩, .int .i64 (c.mtxs.length : Int), pV lk, x6, x7, x8, x9, x10, x11, x12] :: datasP s2 ((c.datas.take i).map datN) :: semsP s (c.sems.map semN) :: pts b (cfC c S) :: mmP lk (MM.new c.mtxs) :: cfR c S L) w1)
    (fun t _ => Int.toNat (Int.sub c.datas.length t.1)) ⟨0, ⟨none, 0, 0⟩, rfl, by omega, (ptrs_nil (h.slcNil 1)).p1⟩ ?_
  rintro ⟨(t : Int), _⟩ w5 ⟨i, s2, (rfl : t = (i : Int)), hi, h⟩
  dsimp only
  refine cs.mk (fun h2 => ?_) (fun h2 => ?_)
  · have h2 : i < c.datas.length := by have := of_decide_eq_true h2; omega
    refine ix_flat daC_len (by decide) ((Ok.emb (h) (.cons (A := slc 2 S.ds (flat daC c.datas)) (by with_reducible first | exact sl0 | exact .there sl0 | exact .there sl1 | exact .there sl2 | exact .there sl3 | exact .there sl4 | exact .there sl5 | exact .there sl6 | exact .there sl7 | exact .there sl8 | exact .there sl9 | exact .there sl10 | exact .there sl11 | exact .there sl12) (.same _)))) (by omega) (by omega) fun b2 o2 y hy _ _ hc2 => ?_
    rw [Int.toNat_natCast, List.getElem?_eq_getElem h2] at hy
    cases hy
    have r1 := hc2 0 _ rfl w5 ⟨_, (Ok.emb (h) (.cons (A := slc 2 S.ds (flat daC c.datas)) (by with_reducible first | exact sl0 | exact .there sl0 | exact .there sl1 | exact .there sl2 | exact .there sl3 | exact .there sl4 | exact .there sl5 | exact .there sl6 | exact .there sl7 | exact .there sl8 | exact .there sl9 | exact .there sl10 | exact .there sl11 | exact .there sl12) (.same _)))⟩
    have r2 := hc2 1 _ rfl w5 ⟨_, (Ok.emb (h) (.cons (A := slc 2 S.ds (flat daC c.datas)) (by with_reducible first | exact sl0 | exact .there sl0 | exact .there sl1 | exact .there sl2 | exact .there sl3 | exact .there sl4 | exact .there sl5 | exact .there sl6 | exact .there sl7 | exact .there sl8 | exact .there sl9 | exact .there sl10 | exact .there sl11 | exact .there sl12) (.same _)))⟩
    have hs := hc.d c.datas[i] (List.getElem_mem h2)
    refine ldB.mk r1 (ldI.mk r2 (al.mk h fun d w6 h => st1.mk h (by simp) fun w6 h => st1.mk h (by simp) fun w6 h => ldB.mk (h.cell rfl) (ldI.mk (h.cell rfl) ?_)))
    have h := h.drop
    refine call179 (New_dtq h (fun hn => absurd hs hn) fun _ sb w7 h => ⟨(some ⟨sb, 0, none⟩, (0 : Int), ()), rfl, nn.mk ?_⟩)
    have h := h.imp (B := datQ sb (datN c.datas[i])) fun k hk => ⟨dqNew_ok hs, hk⟩
    have hkl := ptrs_len ((Ok.emb (h) (.cons (A := datasP s2 ((c.datas.take i).map datN)) (by with_reducible first | exact sl0 | exact .there sl0 | exact .there sl1 | exact .there sl2 | exact .there sl3 | exact .there sl4 | exact .there sl5 | exact .there sl6 | exact .there sl7 | exact .there sl8 | exact .there sl9 | exact .there sl10 | exact .there sl11 | exact .there sl12) (.same _))))
    refine ldS.mk (h.p1.cell rfl) (al.mk h fun f w8 h => ?_)
    refine ef.appendPtr (P := datQ) (pre := []) slT_datp ((Ok.emb (h) (.cons (A := pts f [pV sb]) (by with_reducible first | exact sl0 | exact .there sl0 | exact .there sl1 | exact .there sl2 | exact .there sl3 | exact .there sl4 | exact .there sl5 | exact .there sl6 | exact .there sl7 | exact .there sl8 | exact .there sl9 | exact .there sl10 | exact .there sl11 | exact .there sl12) (.cons (A := datQ sb (datN c.datas[i])) (by with_reducible first | exact sl0 | exact .there sl0 | exact .there sl1 | exact .there sl2 | exact .there sl3 | exact .there sl4 | exact .there sl5 | exact .there sl6 | exact .there sl7 | exact .there sl8 | exact .there sl9 | exact .there sl10 | exact .there sl11 | exact .there sl12) (.cons (A := datasP s2 ((c.datas.take i).map datN)) (by with_reducible first | exact sl0 | exact .there sl0 | exact .there sl1 | exact .there sl2 | exact .there sl3 | exact .there sl4 | exact .there sl5 | exact .there sl6 | exact .there sl7 | exact .there sl8 | exact .there sl9 | exact .there sl10 | exact .there sl11 | exact .there sl12) (.same _)))))) (by simp; omega) fun s' w9 h => nn.mk (st1.mk h.p1 (by simp) fun w10 h => ?_)
    refine ⟨⟨i + 1, s', w64_in (by omega) (by omega), h2, ?_⟩, ?_⟩
    · rw [List.take_add_one, List.getElem?_eq_getElem h2, List.map_append]
      exact h
    · show ((c.datas.length : Int) - w64 ((i : Int) + 1)).toNat < ((c.datas.length : Int) - (i : Int)).toNat
      rw [w64_in (by omega) (by omega)]
      omega
  have h2 : i = c.datas.length := by have := of_decide_eq_false h2; omega
  subst h2
  rw [List.take_length] at h
  refine ldI.mk (by refine Ok.cellS h (by with_reducible first | exact sl0 | exact .there sl0 | exact .there sl1 | exact .there sl2 | exact .there sl3 | exact .there sl4 | exact .there sl5 | exact .there sl6 | exact .there sl7 | exact .there sl8 | exact .there sl9 | exact .there sl10 | exact .there sl11 | exact .there sl12) ?_; rfl) (ldS.mk (by refine Ok.cellS h (by with_reducible first | exact sl0 | exact .there sl0 | exact .there sl1 | exact .there sl2 | exact .there sl3 | exact .there sl4 | exact .there sl5 | exact .there sl6 | exact .there sl7 | exact .there sl8 | exact .there sl9 | exact .there sl10 | exact .there sl11 | exact .there sl12) ?_; rfl) (ldS.mk (by refine Ok.cellS h (by with_reducible first | exact sl0 | exact .there sl0 | exact .there sl1 | exact .there sl2 | exact .there sl3 | exact .there sl4 | exact .there sl5 | exact .there sl6 | exact .there sl7 | exact .there sl8 | exact .there sl9 | exact .there sl10 | exact .there sl11 | exact .there sl12) ?_; rfl) (ldS.mk (by refine Ok.cellS h (by with_reducible first | exact sl0 | exact .there sl0 | exact .there sl1 | exact .there sl2 | exact .there sl3 | exact .there sl4 | exact .there sl5 | exact .there sl6 | exact .there sl7 | exact .there sl8 | exact .there sl9 | exact .there sl10 | exact .there sl11 | exact .there sl12) ?_; rfl) (ldS.mk (by refine Ok.cellS h (by with_reducible first | exact sl0 | exact .there sl0 | exact .there sl1 | exact .there sl2 | exact .there sl3 | exact .there sl4 | exact .there sl5 | exact .there sl6 | exact .there sl7 | exact .there sl8 | exact .there sl9 | exact .there sl10 | exact .there sl11 | exact .there sl12) ?_; rfl) (ldS.mk (by refine Ok.cellS h (by with_reducible first | exact sl0 | exact .there sl0 | exact .there sl1 | exact .there sl2 | exact .there sl3 | exact .there sl4 | exact .there sl5 | exact .there sl6 | exact .there sl7 | exact .there sl8 | exact .there sl9 | exact .there sl10 | exact .there sl11 | exact .there sl12) ?_; rfl) (ldS.mk (by refine Ok.cellS h (by with_reducible first | exact sl0 | exact .there sl0 | exact .there sl1 | exact .there sl2 | exact .there sl3 | exact .there sl4 | exact .there sl5 | exact .there sl6 | exact .there sl7 | exact .there sl8 | exact .there sl9 | exact .there sl10 | exact .there sl11 | exact .there sl12) ?_; rfl) (ldS.mk (by refine Ok.cellS h (by with_reducible first | exact sl0 | exact .there sl0 | exact .there sl1 | exact .there sl2 | exact .there sl3 | exact .there sl4 | exact .there sl5 | exact .there sl6 | exact .there sl7 | exact .there sl8 | exact .there sl9 | exact .there sl10 | exact .there sl11 | exact .there sl12) ?_; rfl) (ldI.mk (by refine Ok.cellS h (by with_reducible first | exact sl0 | exact .there sl0 | exact .there sl1 | exact .there sl2 | exact .there sl3 | exact .there sl4 | exact .there sl5 | exact .there sl6 | exact .there sl7 | exact .there sl8 | exact .there sl9 | exact .there sl10 | exact .there sl11 | exact .there sl12) ?_; rfl) ?_))))))))
  have h : Ok e (cfR c S (pts k [vS s, vS ⟨none, 0, 0⟩, vS s2, vS ⟨none, 0, 0⟩, .int .i64 (c.mtxs.length : Int), pV lk, x6, x7, x8, x9, x10, x11, x12] :: datasP s2 (c.datas.map datN) :: semsP s (c.sems.map semN) :: pts b (cfC c S) :: mmP lk (MM.new c.mtxs) :: L)) w5 := (h.emb (by repeat' (first | with_reducible exact Emb.same _ | exact Emb.nil _ | refine Emb.cons (by with_reducible first | exact sl0 | exact .there sl0 | exact .there sl1 | exact .there sl2 | exact .there sl3 | exact .there sl4 | exact .there sl5 | exact .there sl6 | exact .there sl7 | exact .there sl8 | exact .there sl9 | exact .there sl10 | exact .there sl11 | exact .there sl12) ?_ | refine Emb.skip ?_)))
  refine call185 (a0 := cfV c S) (Layout_conf h hc fun x w6 h => ⟨(x, ()), rfl, ?_⟩)
  have hxl := h.slc_len
  simp [layout_len] at hxl
  refine lp.mk (fun t w1 => ∃ (i : Nat) (s3 : Sl), @Eq Int t.1 (i : Int) ∧ i ≤ c.pools.length ∧ Ok e (pts k [vS s, vS ⟨none, 0, 0⟩, vS s2, vS s3, .int .i64 (c.mtxs.length : Int), pV lk, x6, x7, x8, x9, x10, x11, x12] :: poolsP s3 (List.zipWith poolN ((layoutM 0 c.pools).take i) (c.pools.take i)) :: slc 1 x (ints (layoutM 0 c.pools)) :: datasP s2 (c.datas.map datN) :: semsP s (c.sems.map semN) :: pts b (cfC c S) :: mmP lk (MM.new c.mtxs) :: cfR c S L) w1)
    (fun t _ => Int.toNat (Int.sub c.pools.length t.1)) ⟨0, ⟨none, 0, 0⟩, rfl, by omega, ?_⟩ ?_
  · have h := ptrs_nil (P := poolQ) (d := ⟨false, 0, 0, 0, mp0⟩) (h.slcNil 1)
    have h : Ok e (pts k [vS s, vS ⟨none, 0, 0⟩, vS s2, vS ⟨none, 0, 0⟩, .int .i64 (c.mtxs.length : Int), pV lk, x6, x7, x8, x9, x10, x11, x12] :: ptrsP poolQ [] ⟨false, 0, 0, 0, mp0⟩ ⟨none, 0, 0⟩ [] :: slc 1 x (ints (layoutM 0 c.pools)) :: datasP s2 (c.datas.map datN) :: semsP s (c.sems.map semN) :: pts b (cfC c S) :: mmP lk (MM.new c.mtxs) :: cfR c S L) w6 := (h.emb (by repeat' (first | with_reducible exact Emb.same _ | exact Emb.nil _ | refine Emb.cons (by with_reducible first | exact sl0 | exact .there sl0 | exact .there sl1 | exact .there sl2 | exact .there sl3 | exact .there sl4 | exact .there sl5 | exact .there sl6 | exact .there sl7 | exact .there sl8 | exact .there sl9 | exact .there sl10 | exact .there sl11 | exact .there sl12) ?_ | refine Emb.skip ?_)))
    exact h
  rintro ⟨(t : Int), _⟩ w5 ⟨i, s3, (rfl : t = (i : Int)), hi, h⟩
  dsimp only
  refine cs.mk (fun h2 => ?_) (fun h2 => ?_)
  · have h2 : i < c.pools.length := by have := of_decide_eq_true h2; omega
    obtain ⟨hg, hn⟩ := pools_get hc.p (List.getElem?_eq_getElem h2)
    refine ix_int ((Ok.emb (h) (.cons (A := slc 1 x (ints (layoutM 0 c.pools))) (by with_reducible first | exact sl0 | exact .there sl0 | exact .there sl1 | exact .there sl2 | exact .there sl3 | exact .there sl4 | exact .there sl5 | exact .there sl6 | exact .there sl7 | exact .there sl8 | exact .there sl9 | exact .there sl10 | exact .there sl11 | exact .there sl12) (.same _)))) (by omega) (by omega) fun b1 o1 z hz hcz => ldI.mk (hcz _ ⟨_, (Ok.emb (h) (.cons (A := slc 1 x (ints (layoutM 0 c.pools))) (by with_reducible first | exact sl0 | exact .there sl0 | exact .there sl1 | exact .there sl2 | exact .there sl3 | exact .there sl4 | exact .there sl5 | exact .there sl6 | exact .there sl7 | exact .there sl8 | exact .there sl9 | exact .there sl10 | exact .there sl11 | exact .there sl12) (.same _)))⟩) (ldS.mk (by refine Ok.cellS h (by with_reducible first | exact sl0 | exact .there sl0 | exact .there sl1 | exact .there sl2 | exact .there sl3 | exact .there sl4 | exact .there sl5 | exact .there sl6 | exact .there sl7 | exact .there sl8 | exact .there sl9 | exact .there sl10 | exact .there sl11 | exact .there sl12) ?_; rfl) ?_)
    rw [Int.toNat_natCast, layout_get h2] at hz
    cases hz
    refine ix_pool ((Ok.emb (h) (.cons (A := slc 3 S.ps (flat seC c.pools)) (by with_reducible first | exact sl0 | exact .there sl0 | exact .there sl1 | exact .there sl2 | exact .there sl3 | exact .there sl4 | exact .there sl5 | exact .there sl6 | exact .there sl7 | exact .there sl8 | exact .there sl9 | exact .there sl10 | exact .there sl11 | exact .there sl12) (.same _)))) h2 fun b2 o2 hc2 => ?_
    obtain ⟨r1, r2, r3⟩ := hc2 w5 ⟨_, (Ok.emb (h) (.cons (A := slc 3 S.ps (flat seC c.pools)) (by with_reducible first | exact sl0 | exact .there sl0 | exact .there sl1 | exact .there sl2 | exact .there sl3 | exact .there sl4 | exact .there sl5 | exact .there sl6 | exact .there sl7 | exact .there sl8 | exact .there sl9 | exact .there sl10 | exact .there sl11 | exact .there sl12) (.same _)))⟩
    refine ldB.mk r1 (ldI.mk r2 (ldI.mk r3 (al.mk h fun d w6 h => st1.mk h (by simp) fun w6 h => st1.mk h (by simp) fun w6 h => st1.mk h (by simp) fun w6 h => ldB.mk (h.cell rfl) (ldI.mk (h.cell rfl) (ldI.mk (h.cell rfl) ?_)))))
    have h := h.drop
    refine call182 (NewPool_mpf h (fun _ _ hn => absurd hg hn) fun _ sb w7 h => ⟨(some ⟨sb, 0, none⟩, (0 : Int), ()), rfl, nn.mk ?_⟩)
    have h := h.imp (B := poolQ sb (poolN (stp (bytesM 0 (c.pools.take i))) c.pools[i])) fun k hk => ⟨mp0_ok hg, hk⟩
    have hkl := ptrs_len ((Ok.emb (h) (.cons (A := poolsP s3 (List.zipWith poolN ((layoutM 0 c.pools).take i) (c.pools.take i))) (by with_reducible first | exact sl0 | exact .there sl0 | exact .there sl1 | exact .there sl2 | exact .there sl3 | exact .there sl4 | exact .there sl5 | exact .there sl6 | exact .there sl7 | exact .there sl8 | exact .there sl9 | exact .there sl10 | exact .there sl11 | exact .there sl12) (.same _))))
    refine ldS.mk (h.p1.cell rfl) (al.mk h fun f w8 h => ?_)
    refine ef.appendPtr (P := poolQ) (pre := []) slT_poolp ((Ok.emb (h) (.cons (A := pts f [pV sb]) (by with_reducible first | exact sl0 | exact .there sl0 | exact .there sl1 | exact .there sl2 | exact .there sl3 | exact .there sl4 | exact .there sl5 | exact .there sl6 | exact .there sl7 | exact .there sl8 | exact .there sl9 | exact .there sl10 | exact .there sl11 | exact .there sl12) (.cons (A := poolQ sb (poolN (stp (bytesM 0 (c.pools.take i))) c.pools[i])) (by with_reducible first | exact sl0 | exact .there sl0 | exact .there sl1 | exact .there sl2 | exact .there sl3 | exact .there sl4 | exact .there sl5 | exact .there sl6 | exact .there sl7 | exact .there sl8 | exact .there sl9 | exact .there sl10 | exact .there sl11 | exact .there sl12) (.cons (A := poolsP s3 (List.zipWith poolN ((layoutM 0 c.pools).take i) (c.pools.take i))) (by with_reducible first | exact sl0 | exact .there sl0 | exact .there sl1 | exact .there sl2 | exact .there sl3 | exact .there sl4 | exact .there sl5 | exact .there sl6 | exact .there sl7 | exact .there sl8 | exact .there sl9 | exact .there sl10 | exact .there sl11 | exact .there sl12) (.same _)))))) (by simp; omega) fun s' w9 h => nn.mk (st1.mk h.p1 (by simp) fun w10 h => ?_)
    refine ⟨⟨i + 1, s', w64_in (by omega) (by omega), h2, ?_⟩, ?_⟩
    · rw [zip_take (layout_get h2) (List.getElem?_eq_getElem h2)]
      exact h
    · show ((c.pools.length : Int) - w64 ((i : Int) + 1)).toNat < ((c.pools.length : Int) - (i : Int)).toNat
      rw [w64_in (by omega) (by omega)]
      omega
  have h2 : i = c.pools.length := by have := of_decide_eq_false h2; omega
  subst h2
  rw [List.take_length, List.take_of_length_le (by rw [layout_len]; omega)] at h
  exact kk s s2 s3 lk w5 (h.emb (by repeat' (first | with_reducible exact Emb.same _ | exact Emb.nil _ | refine Emb.cons (by with_reducible first | exact sl0 | exact .there sl0 | exact .there sl1 | exact .there sl2 | exact .there sl3 | exact .there sl4 | exact .there sl5 | exact .there sl6 | exact .there sl7 | exact .there sl8 | exact .there sl9 | exact .there sl10 | exact .there sl11 | exact .there sl12) ?_ | refine Emb.skip ?_)))

end Go.Proofs.YtenonfkfoedfmaaGreatDoor.B


/- A kernel is made: the whole. -/
namespace Go.Proofs.YtenonfkfoedfmaaGreatDoor.B
open Go
set_option linter.unusedVariables false

/-- what is done of a new kernel, behind its block -/
def tailX (R : List Value → World → Prop) (b1 k : Nat) (w24 : World) : Prop :=
dr w24 fun w25 =>
nn (some ⟨k, 0, none⟩) fun b26 o27 =>
ldI w25 .i64 b1 0 fun n28 =>
ldS w25 b1 (0 + 1) fun s29 =>
ldS w25 b1 (0 + 2) fun s30 =>
ldS w25 b1 (0 + 3) fun s31 =>
ldS w25 b1 (0 + 4) fun s32 =>
ldS w25 b1 (0 + 5) fun s33 =>
ldS w25 b1 (0 + 6) fun s34 =>
ldS w25 b1 (0 + 7) fun s35 =>
ldI w25 .i64 b1 (0 + 8) fun n36 =>
cl Pg 100 [.pointer (some ⟨b26, o27, none⟩), .agg #[.int .i64 n28, vS s29, vS s30, vS s31, vS s32, vS s33, vS s34, vS s35, .int .i64 n36]] [] w25 fun (r37 : Unit) w38 =>
ldI w38 .i64 b1 0 fun n39 =>
cl Pg 101 [.int .i64 n39] [kP, kI] w38 fun (r40 : Option Addr × Int × Unit) w41 =>
nn (some ⟨k, 0, none⟩) fun b42 o43 =>
st1 w41 b42 (o43 + 7) (.pointer r40.1) fun w44 =>
ldS w44 b1 (0 + 7) fun s45 =>
lp [kI] w44 ((0 : Int), ()) fun (t46 : Int × Unit) J47 w48 =>
cs (decide ((t46.1 : Int) < ((s45.len : Int) : Int))) (
ix s45 t46.1 4 fun b49 o50 =>
ldI w48 .i64 b49 o50 fun n51 =>
ldI w48 .i64 b49 (o50 + 1) fun n52 =>
ldB w48 b49 (o50 + 2) fun b53 =>
ldB w48 b49 (o50 + 3) fun b54 =>
al w48 192 [.int .i64 0, .int .i64 0, .bool false, .bool false] fun b55 w56 =>
st1 w56 b55 0 (.int .i64 n51) fun w57 =>
st1 w57 b55 (0 + 1) (.int .i64 n52) fun w58 =>
st1 w58 b55 (0 + 2) (.bool b53) fun w59 =>
st1 w59 b55 (0 + 3) (.bool b54) fun w60 =>
dr w60 fun w61 =>
nn (some ⟨k, 0, none⟩) fun b62 o63 =>
ldP w61 b62 (o63 + 7) fun p64 =>
ldI w61 .i64 b55 0 fun n65 =>
ldI w61 .i64 b55 (0 + 1) fun n66 =>
ldB w61 b55 (0 + 2) fun b67 =>
ldB w61 b55 (0 + 3) fun b68 =>
cl Pg 102 [.pointer p64, .int .i64 n65, .int .i64 n66, .bool b67, .bool b68] [kI, kI] w61 fun (r69 : Int × Int × Unit) w70 =>
J47 (w64 (t46.1 + 1), ()) w70) (
ldI w48 .i64 b1 (0 + 8) fun n71 =>
lp [kI] w48 ((0 : Int), ()) fun (t72 : Int × Unit) J73 w74 =>
cs (decide ((t72.1 : Int) < (n71 : Int))) (
nn (some ⟨k, 0, none⟩) fun b75 o76 =>
ldP w74 b75 (o76 + 7) fun p77 =>
cl Pg 103 [.pointer p77] [kI, kI] w74 fun (r78 : Int × Int × Unit) w79 =>
J73 (w64 (t72.1 + 1), ()) w79) (
ldS w74 b1 (0 + 1) fun s80 =>
lp [kI] w74 ((0 : Int), ()) fun (t81 : Int × Unit) J82 w83 =>
cs (decide ((t81.1 : Int) < ((s80.len : Int) : Int))) (
ix s80 t81.1 2 fun b84 o85 =>
ldI w83 .i64 b84 o85 fun n86 =>
ldB w83 b84 (o85 + 1) fun b87 =>
al w83 45 [.int .i64 0, .bool false] fun b88 w89 =>
st1 w89 b88 0 (.int .i64 n86) fun w90 =>
st1 w90 b88 (0 + 1) (.bool b87) fun w91 =>
dr w91 fun w92 =>
nn (some ⟨k, 0, none⟩) fun b93 o94 =>
ldP w92 b93 (o94 + 5) fun p95 =>
ldI w92 .i64 b88 0 fun n96 =>
cl Pg 31 [.pointer p95, .int .i64 (w64 (t81.1 + 1)), .int .i64 n96] [kI] w92 fun (r97 : Int × Unit) w98 =>
dr w98 fun w99 =>
nn (some ⟨k, 0, none⟩) fun b100 o101 =>
ldS w99 b100 (o101 + 9) fun s102 =>
ldI w99 .i64 b88 0 fun n103 =>
ldI w99 .i64 b88 0 fun n104 =>
cl Pg 104 [] [kP] w99 fun (r105 : Option Addr × Unit) w106 =>
(w106.cell? ⟨b88, 0, none⟩ = some (.int .i64 n104)) ∧ (
(w106.cell? ⟨b88, 0, none⟩ = some (.int .i64 n103)) ∧ (
(w106.cell? ⟨b100, o101 + 9, none⟩ = some (vS s102)) ∧ (
al w106 137 [.pointer r105.1, .int .i64 n103, .int .i64 n104, .int .i64 0, .int .i64 0, .int .i64 0, .int .i64 0, .int .i64 0] fun b107 w108 =>
(w108.cell? ⟨b100, o101 + 9, none⟩ = some (vS s102)) ∧ (
al w108 138 [.pointer (some ⟨b107, 0, none⟩)] fun b109 w110 =>
(w110.cell? ⟨b100, o101 + 9, none⟩ = some (vS s102)) ∧ (
ef Pg (Builtin.append_ #[130, 130] 130 #[vS s102, vS ⟨some ⟨b109, 0, none⟩, 1, 1⟩]) [kS] w110 fun (r111 : Sl × Unit) w112 =>
nn (some ⟨k, 0, none⟩) fun b113 o114 =>
st1 w112 b113 (o114 + 9) (vS r111.1) fun w115 =>
J82 (w64 (t81.1 + 1), ()) w115)))))) (
ldS w83 b1 (0 + 1) fun s116 =>
lp [kI] w83 ((0 : Int), ()) fun (t117 : Int × Unit) J118 w119 =>
cs (decide ((t117.1 : Int) < ((s116.len : Int) : Int))) (
ix s116 t117.1 2 fun b120 o121 =>
ldI w119 .i64 b120 o121 fun n122 =>
ldB w119 b120 (o121 + 1) fun b123 =>
al w119 45 [.int .i64 0, .bool false] fun b124 w125 =>
st1 w125 b124 0 (.int .i64 n122) fun w126 =>
st1 w126 b124 (0 + 1) (.bool b123) fun w127 =>
ldB w127 b124 (0 + 1) fun b128 =>
cs b128 (
cl Pg 105 [.pointer (some ⟨k, 0, none⟩), .int .i64 (w64 (t117.1 + 1))] [kI] w127 fun (r129 : Int × Unit) w130 =>
J118 (w64 (t117.1 + 1), ()) w130) (
J118 (w64 (t117.1 + 1), ()) w127)) (
cl Pg 57 [.pointer (some ⟨k, 0, none⟩)] [] w119 fun (r131 : Unit) w132 =>
R [.pointer (some ⟨k, 0, none⟩), .int .i64 0] w132))))

set_option maxHeartbeats 2000000 in
theorem New_kern {e w L c S K R} (tb : TabE e) (h : Ok e (cfR c S (old e :: L)) w) (hc : CfOk c) (hm : KM.new c = some K) (kk : ∀ k A w', Ok e (kerP k A K :: cfR c S (old e :: L)) w' → R [pV k, .int .i64 0] w') : sh51 (cfV c S) R w := by
  unfold sh51
  have l1 : c.tasks.length = S.ts.len := slc_flat_len taC_len (by decide) h
  have htl := hc.tl
  refine al.mk h fun b w1 h => ?_
  have h : Ok e (pts b (cfC c S) :: cfR c S (old e :: L)) w1 := h
  refine ldI.mk (h.cell rfl) (ldS.mk (h.cell rfl) (ldS.mk (h.cell rfl) (ldS.mk (h.cell rfl) (ldS.mk (h.cell rfl) (ldS.mk (h.cell rfl) (ldS.mk (h.cell rfl) (ldS.mk (h.cell rfl) (ldI.mk (h.cell rfl) ?_))))))))
  have h : Ok e (cfR c S (pts b (cfC c S) :: old e :: L)) w1 := (h.emb (by repeat' (first | with_reducible exact Emb.same _ | exact Emb.nil _ | refine Emb.cons (by with_reducible first | exact sl0 | exact .there sl0 | exact .there sl1 | exact .there sl2 | exact .there sl3 | exact .there sl4 | exact .there sl5 | exact .there sl6 | exact .there sl7 | exact .there sl8 | exact .there sl9 | exact .there sl10 | exact .there sl11 | exact .there sl12) ?_ | refine Emb.skip ?_)))
  refine call98 (a0 := cfV c S) (Check_conf h hc fun w2 h => ⟨(bs [], (0 : Int), (0 : Int), ()), rfl, cs.no rfl (dr.mk h fun w3 h => ldS.mk (by refine Ok.cellS h (by with_reducible first | exact sl0 | exact .there sl0 | exact .there sl1 | exact .there sl2 | exact .there sl3 | exact .there sl4 | exact .there sl5 | exact .there sl6 | exact .there sl7 | exact .there sl8 | exact .there sl9 | exact .there sl10 | exact .there sl11 | exact .there sl12) ?_; rfl) (ldI.mk (by refine Ok.cellS h (by with_reducible first | exact sl0 | exact .there sl0 | exact .there sl1 | exact .there sl2 | exact .there sl3 | exact .there sl4 | exact .there sl5 | exact .there sl6 | exact .there sl7 | exact .there sl8 | exact .there sl9 | exact .there sl10 | exact .there sl11 | exact .there sl12) ?_; rfl) ?_))⟩)
  obtain ⟨KT, hT, hm⟩ := Option.map_eq_some_iff.1 hm
  obtain ⟨K1, hK1, hA⟩ := Option.bind_eq_some_iff.1 hT
  have tail : ∀ (k v p r : Nat) w4, Ok e (pts k [vS ⟨none, 0, 0⟩, vS ⟨none, 0, 0⟩, vS ⟨none, 0, 0⟩, vS ⟨none, 0, 0⟩, .int .i64 0, .pointer none, pV p, .pointer none, pV r, vS ⟨some ⟨v, 0, none⟩, 1, 1⟩, .int .i64 0, .int .i64 0, .int .i64 0] :: pts v [.pointer none] :: placeP p ⟨[], false, false⟩ :: rdyP r [] :: pts b (cfC c S) :: cfR c S (old e :: L)) w4 → tailX R b k w4 := by
    intro k v p r w4 h
    unfold tailX
    refine dr.mk h fun w5 h => nn.mk (ldI.mk (by refine Ok.cellS h (by with_reducible first | exact sl0 | exact .there sl0 | exact .there sl1 | exact .there sl2 | exact .there sl3 | exact .there sl4 | exact .there sl5 | exact .there sl6 | exact .there sl7 | exact .there sl8 | exact .there sl9 | exact .there sl10 | exact .there sl11 | exact .there sl12) ?_; rfl) (ldS.mk (by refine Ok.cellS h (by with_reducible first | exact sl0 | exact .there sl0 | exact .there sl1 | exact .there sl2 | exact .there sl3 | exact .there sl4 | exact .there sl5 | exact .there sl6 | exact .there sl7 | exact .there sl8 | exact .there sl9 | exact .there sl10 | exact .there sl11 | exact .there sl12) ?_; rfl) (ldS.mk (by refine Ok.cellS h (by with_reducible first | exact sl0 | exact .there sl0 | exact .there sl1 | exact .there sl2 | exact .there sl3 | exact .there sl4 | exact .there sl5 | exact .there sl6 | exact .there sl7 | exact .there sl8 | exact .there sl9 | exact .there sl10 | exact .there sl11 | exact .there sl12) ?_; rfl) (ldS.mk (by refine Ok.cellS h (by with_reducible first | exact sl0 | exact .there sl0 | exact .there sl1 | exact .there sl2 | exact .there sl3 | exact .there sl4 | exact .there sl5 | exact .there sl6 | exact .there sl7 | exact .there sl8 | exact .there sl9 | exact .there sl10 | exact .there sl11 | exact .there sl12) ?_; rfl) (ldS.mk (by refine Ok.cellS h (by with_reducible first | exact sl0 | exact .there sl0 | exact .there sl1 | exact .there sl2 | exact .there sl3 | exact .there sl4 | exact .there sl5 | exact .there sl6 | exact .there sl7 | exact .there sl8 | exact .there sl9 | exact .there sl10 | exact .there sl11 | exact .there sl12) ?_; rfl) (ldS.mk (by refine Ok.cellS h (by with_reducible first | exact sl0 | exact .there sl0 | exact .there sl1 | exact .there sl2 | exact .there sl3 | exact .there sl4 | exact .there sl5 | exact .there sl6 | exact .there sl7 | exact .there sl8 | exact .there sl9 | exact .there sl10 | exact .there sl11 | exact .there sl12) ?_; rfl) (ldS.mk (by refine Ok.cellS h (by with_reducible first | exact sl0 | exact .there sl0 | exact .there sl1 | exact .there sl2 | exact .there sl3 | exact .there sl4 | exact .there sl5 | exact .there sl6 | exact .there sl7 | exact .there sl8 | exact .there sl9 | exact .there sl10 | exact .there sl11 | exact .there sl12) ?_; rfl) (ldS.mk (by refine Ok.cellS h (by with_reducible first | exact sl0 | exact .there sl0 | exact .there sl1 | exact .there sl2 | exact .there sl3 | exact .there sl4 | exact .there sl5 | exact .there sl6 | exact .there sl7 | exact .there sl8 | exact .there sl9 | exact .there sl10 | exact .there sl11 | exact .there sl12) ?_; rfl) (ldI.mk (by refine Ok.cellS h (by with_reducible first | exact sl0 | exact .there sl0 | exact .there sl1 | exact .there sl2 | exact .there sl3 | exact .there sl4 | exact .there sl5 | exact .there sl6 | exact .there sl7 | exact .there sl8 | exact .there sl9 | exact .there sl10 | exact .there sl11 | exact .there sl12) ?_; rfl) ?_)))))))))
    have h : Ok e (pts k [vS ⟨none, 0, 0⟩, vS ⟨none, 0, 0⟩, vS ⟨none, 0, 0⟩, vS ⟨none, 0, 0⟩, .int .i64 0, .pointer none, pV p, .pointer none, pV r, vS ⟨some ⟨v, 0, none⟩, 1, 1⟩, .int .i64 0, .int .i64 0, .int .i64 0] :: cfR c S (pts b (cfC c S) :: pts v [.pointer none] :: placeP p ⟨[], false, false⟩ :: rdyP r [] :: old e :: L)) w5 := (h.emb (by repeat' (first | with_reducible exact Emb.same _ | exact Emb.nil _ | refine Emb.cons (by with_reducible first | exact sl0 | exact .there sl0 | exact .there sl1 | exact .there sl2 | exact .there sl3 | exact .there sl4 | exact .there sl5 | exact .there sl6 | exact .there sl7 | exact .there sl8 | exact .there sl9 | exact .there sl10 | exact .there sl11 | exact .there sl12) ?_ | refine Emb.skip ?_)))
    refine call100 (a1 := cfV c S) (build_kern h hc fun ss ds ps lk w6 h => ⟨(), rfl, ldI.mk (by refine Ok.cellS h (by with_reducible first | exact sl0 | exact .there sl0 | exact .there sl1 | exact .there sl2 | exact .there sl3 | exact .there sl4 | exact .there sl5 | exact .there sl6 | exact .there sl7 | exact .there sl8 | exact .there sl9 | exact .there sl10 | exact .there sl11 | exact .there sl12) ?_; rfl) ?_⟩)
    refine call101 (NewHands_cyc h hc.tic fun hn w7 h => ⟨(some ⟨hn, 0, none⟩, (0 : Int), ()), rfl, nn.mk (st1.mk h.p1 (by simp) fun w8 h => ldS.mk (by refine Ok.cellS h (by with_reducible first | exact sl0 | exact .there sl0 | exact .there sl1 | exact .there sl2 | exact .there sl3 | exact .there sl4 | exact .there sl5 | exact .there sl6 | exact .there sl7 | exact .there sl8 | exact .there sl9 | exact .there sl10 | exact .there sl11 | exact .there sl12) ?_; rfl) ?_)⟩)
    refine lp.mk (fun t w1 => @Eq Int t.1 0 ∧ w1 = w8) (fun _ _ => 0) ⟨rfl, rfl⟩ ?_
    rintro ⟨(t : Int), _⟩ w9 ⟨(rfl : t = 0), rfl⟩
    refine cs.no rfl (ldI.mk (by refine Ok.cellS h (by with_reducible first | exact sl0 | exact .there sl0 | exact .there sl1 | exact .there sl2 | exact .there sl3 | exact .there sl4 | exact .there sl5 | exact .there sl6 | exact .there sl7 | exact .there sl8 | exact .there sl9 | exact .there sl10 | exact .there sl11 | exact .there sl12) ?_; rfl) ?_)
    refine lp.mk (fun t w1 => @Eq Int t.1 0 ∧ w1 = w9) (fun _ _ => 0) ⟨rfl, rfl⟩ ?_
    rintro ⟨(t : Int), _⟩ w10 ⟨(rfl : t = 0), rfl⟩
    refine cs.no rfl (ldS.mk (by refine Ok.cellS h (by with_reducible first | exact sl0 | exact .there sl0 | exact .there sl1 | exact .there sl2 | exact .there sl3 | exact .there sl4 | exact .there sl5 | exact .there sl6 | exact .there sl7 | exact .there sl8 | exact .there sl9 | exact .there sl10 | exact .there sl11 | exact .there sl12) ?_; rfl) ?_)
    have hk : ∃ A, Ok e (kerP k A (KM.new0 c) :: pts b (cfC c S) :: cfR c S (old e :: L)) w10 := by
      refine ⟨⟨ss, ⟨none, 0, 0⟩, ds, ps, ⟨some ⟨v, 0, none⟩, 1, 1⟩, fun _ => 0, lk, p, hn, r⟩, ?_⟩
      refine kerI ⟨by show 0 ≤ c.tic; have := hc.tic; omega, hc.tic.2, by simp [KM.new0], by simp [KM.new0]; exact hc.sl, by simp [KM.new0]; exact hc.dl, by simp [KM.new0, layout_len]; exact hc.pl⟩ ?_
      have e1 : (((KM.new0 c).mm.m.length : Int) - 1) = (c.mtxs.length : Int) := by simp [KM.new0, MM.new]
      show Ok e (pts k [vS ss, vS ⟨none, 0, 0⟩, vS ds, vS ps, .int .i64 (((KM.new0 c).mm.m.length : Int) - 1), pV lk, pV p, pV hn, pV r, vS ⟨some ⟨v, 0, none⟩, 1, 1⟩, .int .i64 0, .int .i64 0, .int .i64 0] :: ptrsB unP [.pointer none] un0 (fun _ => 0) ⟨some ⟨v, 0, none⟩, 1, 1⟩ [] :: semsP ss (c.sems.map semN) :: slc 1 ⟨none, 0, 0⟩ [] :: datasP ds (c.datas.map datN) :: poolsP ps (List.zipWith poolN (layoutM 0 c.pools) c.pools) :: mmP lk (MM.new c.mtxs) :: placeP p ⟨[], false, false⟩ :: hnP hn c.tic 0 0 0 [] :: rdyP r [] :: pts b (cfC c S) :: cfR c S (old e :: L)) w10
      rw [e1]
      have h : Ok e (pts k [vS ss, vS ⟨none, 0, 0⟩, vS ds, vS ps, .int .i64 (c.mtxs.length : Int), pV lk, pV p, pV hn, pV r, vS ⟨some ⟨v, 0, none⟩, 1, 1⟩, .int .i64 0, .int .i64 0, .int .i64 0] :: hnP hn c.tic 0 0 0 [] :: semsP ss (c.sems.map semN) :: datasP ds (c.datas.map datN) :: poolsP ps (List.zipWith poolN (layoutM 0 c.pools) c.pools) :: mmP lk (MM.new c.mtxs) :: cfR c S (pts b (cfC c S) :: pts v [.pointer none] :: placeP p ⟨[], false, false⟩ :: rdyP r [] :: old e :: L)) w10 := h
      have h := ((Ok.emb (h) (.cons (A := pts v [.pointer none]) (by with_reducible first | exact sl0 | exact .there sl0 | exact .there sl1 | exact .there sl2 | exact .there sl3 | exact .there sl4 | exact .there sl5 | exact .there sl6 | exact .there sl7 | exact .there sl8 | exact .there sl9 | exact .there sl10 | exact .there sl11 | exact .there sl12) (.same _)))).slcNew (sz := 1) (n := 1) rfl (by simp; rfl)
      have h := ptrsB_nil (P := unP) (d := un0) (bs := fun _ => 0) h
      have h := h.slcNil 1
      exact (h.emb (by repeat' (first | with_reducible exact Emb.same _ | exact Emb.nil _ | refine Emb.cons (by with_reducible first | exact sl0 | exact .there sl0 | exact .there sl1 | exact .there sl2 | exact .there sl3 | exact .there sl4 | exact .there sl5 | exact .there sl6 | exact .there sl7 | exact .there sl8 | exact .there sl9 | exact .there sl10 | exact .there sl11 | exact .there sl12) ?_ | refine Emb.skip ?_)))
    obtain ⟨A0, hk⟩ := hk
    clear h
    refine lp.mk (fun t w1 => ∃ (i : Nat) (A : KA) (Ki : KM), @Eq Int t.1 (i : Int) ∧ i ≤ c.tasks.length ∧ Ki.us.length = i ∧ KM.newT i (c.tasks.drop i) Ki = some K1 ∧ Ok e (kerP k A Ki :: pts b (cfC c S) :: cfR c S (old e :: L)) w1)
      (fun t _ => Int.toNat (Int.sub c.tasks.length t.1)) ⟨0, A0, KM.new0 c, rfl, by omega, rfl, hK1, hk⟩ ?_
    rintro ⟨(t : Int), _⟩ w5 ⟨i, A, Ki, (rfl : t = (i : Int)), hi, hu, hT, h⟩
    dsimp only
    obtain ⟨ho, h⟩ := kerE h
    refine cs.mk (fun h2 => ?_) (fun h2 => ?_)
    · have h2 : i < c.tasks.length := by have := of_decide_eq_true h2; omega
      rw [List.drop_eq_getElem_cons h2] at hT
      obtain ⟨b2, hb, hT⟩ := Option.bind_eq_some_iff.1 hT
      refine ix_flat taC_len (by decide) ((Ok.emb (h) (.cons (A := slc 2 S.ts (flat taC c.tasks)) (by with_reducible first | exact sl0 | exact .there sl0 | exact .there sl1 | exact .there sl2 | exact .there sl3 | exact .there sl4 | exact .there sl5 | exact .there sl6 | exact .there sl7 | exact .there sl8 | exact .there sl9 | exact .there sl10 | exact .there sl11 | exact .there sl12) (.same _)))) (by omega) (by omega) fun b3 o2 y hy _ _ hc2 => ?_
      rw [Int.toNat_natCast, List.getElem?_eq_getElem h2] at hy
      cases hy
      have r1 := hc2 0 _ rfl w5 ⟨_, (Ok.emb (h) (.cons (A := slc 2 S.ts (flat taC c.tasks)) (by with_reducible first | exact sl0 | exact .there sl0 | exact .there sl1 | exact .there sl2 | exact .there sl3 | exact .there sl4 | exact .there sl5 | exact .there sl6 | exact .there sl7 | exact .there sl8 | exact .there sl9 | exact .there sl10 | exact .there sl11 | exact .there sl12) (.same _)))⟩
      have r2 := hc2 1 _ rfl w5 ⟨_, (Ok.emb (h) (.cons (A := slc 2 S.ts (flat taC c.tasks)) (by with_reducible first | exact sl0 | exact .there sl0 | exact .there sl1 | exact .there sl2 | exact .there sl3 | exact .there sl4 | exact .there sl5 | exact .there sl6 | exact .there sl7 | exact .there sl8 | exact .there sl9 | exact .there sl10 | exact .there sl11 | exact .there sl12) (.same _)))⟩
      refine ldI.mk r1 (ldB.mk r2 (al.mk h fun d w6 h => st1.mk h (by simp) fun w6 h => st1.mk h (by simp) fun w6 h => dr.mk h fun w7 h => nn.mk (ldP.mk (h.p1.cell rfl) (ldI.mk (h.cell rfl) ?_))))
      rw [w64_in (x := (i : Int) + 1) (by omega) (by omega)]
      have hfr := setBase_len hb
      refine call31 (SetBase_mtx ((Ok.emb (h) (.cons (A := mmP A.lk Ki.mm) (by with_reducible first | exact sl0 | exact .there sl0 | exact .there sl1 | exact .there sl2 | exact .there sl3 | exact .there sl4 | exact .there sl5 | exact .there sl6 | exact .there sl7 | exact .there sl8 | exact .there sl9 | exact .there sl10 | exact .there sl11 | exact .there sl12) (.same _)))) hb fun w8 h => ⟨(b2.1, ()), rfl, ?_⟩)
      have h : Ok e (pts d [.int .i64 c.tasks[i].1, .bool c.tasks[i].2] :: pts k (kC A Ki) :: mmP A.lk b2.2 :: unitsP A.ub A.us Ki.us :: semsP A.ss Ki.sems :: flgP A.fs :: datasP A.ds Ki.datas :: poolsP A.ps Ki.pools :: placeP A.pl Ki.pl :: hnP A.hn Ki.tic Ki.up Ki.tb Ki.last Ki.ents :: rdyP A.rq Ki.rdy :: pts b (cfC c S) :: cfR c S (old e :: L)) w8 := (h.emb (by repeat' (first | with_reducible exact Emb.same _ | exact Emb.nil _ | refine Emb.cons (by with_reducible first | exact sl0 | exact .there sl0 | exact .there sl1 | exact .there sl2 | exact .there sl3 | exact .there sl4 | exact .there sl5 | exact .there sl6 | exact .there sl7 | exact .there sl8 | exact .there sl9 | exact .there sl10 | exact .there sl11 | exact .there sl12) ?_ | refine Emb.skip ?_)))
      refine dr.mk h fun w9 h => nn.mk (ldS.mk (h.p1.cell rfl) (ldI.mk (h.cell rfl) (ldI.mk (h.cell rfl) ?_)))
      refine call104 (New_tcb h fun t w10 h => ⟨(some ⟨t, 0, none⟩, ()), rfl, h.p1.cell rfl, h.p1.cell rfl, h.p2.cell rfl, ?_⟩)
      refine al.mk h fun f w11 h => ⟨h.p3.cell rfl, ?_⟩
      have h := unI (u := KM.unNew c.tasks[i].1) (b := f) (t := t) h
      have hul := ptrsB_len ((Ok.emb (h) (.cons (A := unitsP A.ub A.us Ki.us) (by with_reducible first | exact sl0 | exact .there sl0 | exact .there sl1 | exact .there sl2 | exact .there sl3 | exact .there sl4 | exact .there sl5 | exact .there sl6 | exact .there sl7 | exact .there sl8 | exact .there sl9 | exact .there sl10 | exact .there sl11 | exact .there sl12) (.same _))))
      refine al.mk h fun g w12 h => ⟨h.p3.cell rfl, ?_⟩
      refine ef.appendPtrB (P := unP) (pre := [.pointer none]) (a := KM.unNew c.tasks[i].1) slT_unitp ((Ok.emb (h) (.cons (A := pts g [pV f]) (by with_reducible first | exact sl0 | exact .there sl0 | exact .there sl1 | exact .there sl2 | exact .there sl3 | exact .there sl4 | exact .there sl5 | exact .there sl6 | exact .there sl7 | exact .there sl8 | exact .there sl9 | exact .there sl10 | exact .there sl11 | exact .there sl12) (.cons (A := unP f (KM.unNew c.tasks[i].1)) (by with_reducible first | exact sl0 | exact .there sl0 | exact .there sl1 | exact .there sl2 | exact .there sl3 | exact .there sl4 | exact .there sl5 | exact .there sl6 | exact .there sl7 | exact .there sl8 | exact .there sl9 | exact .there sl10 | exact .there sl11 | exact .there sl12) (.cons (A := unitsP A.ub A.us Ki.us) (by with_reducible first | exact sl0 | exact .there sl0 | exact .there sl1 | exact .there sl2 | exact .there sl3 | exact .there sl4 | exact .there sl5 | exact .there sl6 | exact .there sl7 | exact .there sl8 | exact .there sl9 | exact .there sl10 | exact .there sl11 | exact .there sl12) (.same _)))))) (by simp; omega) fun s' w13 h => nn.mk (st1.mk h.p2 (by simp) fun w14 h => ?_)
      refine ⟨⟨i + 1, { A with us := s', ub := updN A.ub Ki.us.length f }, { Ki with mm := b2.2, us := Ki.us ++ [KM.unNew c.tasks[i].1] }, rfl, h2, by simp [hu], hT, ?_⟩, ?_⟩
      · refine kerI ⟨ho.t0, ho.t1, by simp [hu]; omega, ho.sems, ho.datas, ho.pools⟩ ?_
        have h : Ok e (pts k [vS A.ss, vS A.fs, vS A.ds, vS A.ps, .int .i64 ((Ki.mm.m.length : Int) - 1), pV A.lk, pV A.pl, pV A.hn, pV A.rq, vS s', .int .i64 0, .int .i64 0, .int .i64 Ki.who] :: ptrsB unP [.pointer none] un0 (updN A.ub Ki.us.length f) s' (Ki.us ++ [KM.unNew c.tasks[i].1]) :: pts d [.int .i64 c.tasks[i].1, .bool c.tasks[i].2] :: mmP A.lk b2.2 :: semsP A.ss Ki.sems :: flgP A.fs :: datasP A.ds Ki.datas :: poolsP A.ps Ki.pools :: placeP A.pl Ki.pl :: hnP A.hn Ki.tic Ki.up Ki.tb Ki.last Ki.ents :: rdyP A.rq Ki.rdy :: pts b (cfC c S) :: cfR c S (old e :: L)) w14 := h
        rw [← hfr] at h
        have h2 : Ok e (pts k [vS A.ss, vS A.fs, vS A.ds, vS A.ps, .int .i64 ((b2.2.m.length : Int) - 1), pV A.lk, pV A.pl, pV A.hn, pV A.rq, vS s', .int .i64 0, .int .i64 0, .int .i64 Ki.who] :: ptrsB unP [.pointer none] un0 (updN A.ub Ki.us.length f) s' (Ki.us ++ [KM.unNew c.tasks[i].1]) :: semsP A.ss Ki.sems :: flgP A.fs :: datasP A.ds Ki.datas :: poolsP A.ps Ki.pools :: mmP A.lk b2.2 :: placeP A.pl Ki.pl :: hnP A.hn Ki.tic Ki.up Ki.tb Ki.last Ki.ents :: rdyP A.rq Ki.rdy :: pts b (cfC c S) :: cfR c S (old e :: L)) w14 := (h.emb (by repeat' (first | with_reducible exact Emb.same _ | exact Emb.nil _ | refine Emb.cons (by with_reducible first | exact sl0 | exact .there sl0 | exact .there sl1 | exact .there sl2 | exact .there sl3 | exact .there sl4 | exact .there sl5 | exact .there sl6 | exact .there sl7 | exact .there sl8 | exact .there sl9 | exact .there sl10 | exact .there sl11 | exact .there sl12) ?_ | refine Emb.skip ?_)))
        exact h2
      · show ((c.tasks.length : Int) - ((i : Int) + 1)).toNat < ((c.tasks.length : Int) - (i : Int)).toNat
        omega
    have h2 : i = c.tasks.length := by have := of_decide_eq_false h2; omega
    subst h2
    rw [List.drop_length] at hT
    cases hT
    have h := kerI (A := A) ho h
    refine ldS.mk (by refine Ok.cellS h (by with_reducible first | exact sl0 | exact .there sl0 | exact .there sl1 | exact .there sl2 | exact .there sl3 | exact .there sl4 | exact .there sl5 | exact .there sl6 | exact .there sl7 | exact .there sl8 | exact .there sl9 | exact .there sl10 | exact .there sl11 | exact .there sl12) ?_; rfl) ?_
    refine lp.mk (fun t w1 => ∃ (i : Nat) (Ki : KM), @Eq Int t.1 (i : Int) ∧ i ≤ c.tasks.length ∧ KM.newA i (c.tasks.drop i) Ki = some KT ∧ Ok e (kerP k A Ki :: pts b (cfC c S) :: cfR c S (old e :: L)) w1)
      (fun t _ => Int.toNat (Int.sub c.tasks.length t.1)) ⟨0, _, rfl, by omega, hA, h⟩ ?_
    rintro ⟨(t : Int), _⟩ w5 ⟨i, K2, (rfl : t = (i : Int)), hi, hT, h⟩
    dsimp only
    refine cs.mk (fun h2 => ?_) (fun h2 => ?_)
    · have h2 : i < c.tasks.length := by have := of_decide_eq_true h2; omega
      rw [List.drop_eq_getElem_cons h2] at hT
      unfold KM.newA at hT
      refine ix_flat taC_len (by decide) ((Ok.emb (h) (.cons (A := slc 2 S.ts (flat taC c.tasks)) (by with_reducible first | exact sl0 | exact .there sl0 | exact .there sl1 | exact .there sl2 | exact .there sl3 | exact .there sl4 | exact .there sl5 | exact .there sl6 | exact .there sl7 | exact .there sl8 | exact .there sl9 | exact .there sl10 | exact .there sl11 | exact .there sl12) (.same _)))) (by omega) (by omega) fun b3 o2 y hy _ _ hc2 => ?_
      rw [Int.toNat_natCast, List.getElem?_eq_getElem h2] at hy
      cases hy
      have r1 := hc2 0 _ rfl w5 ⟨_, (Ok.emb (h) (.cons (A := slc 2 S.ts (flat taC c.tasks)) (by with_reducible first | exact sl0 | exact .there sl0 | exact .there sl1 | exact .there sl2 | exact .there sl3 | exact .there sl4 | exact .there sl5 | exact .there sl6 | exact .there sl7 | exact .there sl8 | exact .there sl9 | exact .there sl10 | exact .there sl11 | exact .there sl12) (.same _)))⟩
      have r2 := hc2 1 _ rfl w5 ⟨_, (Ok.emb (h) (.cons (A := slc 2 S.ts (flat taC c.tasks)) (by with_reducible first | exact sl0 | exact .there sl0 | exact .there sl1 | exact .there sl2 | exact .there sl3 | exact .there sl4 | exact .there sl5 | exact .there sl6 | exact .there sl7 | exact .there sl8 | exact .there sl9 | exact .there sl10 | exact .there sl11 | exact .there sl12) (.same _)))⟩
      refine ldI.mk r1 (ldB.mk r2 (al.mk h fun d w6 h => st1.mk h (by simp) fun w6 h => st1.mk h (by simp) fun w6 h => ldB.mk (h.cell rfl) ?_))
      rw [w64_in (x := (i : Int) + 1) (by omega) (by omega)]
      have hlt : ((c.tasks.length : Int) - ((i : Int) + 1)).toNat < ((c.tasks.length : Int) - (i : Int)).toNat := by omega
      refine cs.mk (fun h3 => ?_) (fun h3 => ?_)
      · rw [if_pos h3] at hT
        obtain ⟨a, ha, hT⟩ := Option.bind_eq_some_iff.1 hT
        exact call105 (act_kern h.drop ha fun w7 h => ⟨(a.1, ()), rfl, ⟨i + 1, a.2, rfl, h2, hT, h⟩, hlt⟩)
      · rw [if_neg (by rw [h3]; decide)] at hT
        exact ⟨⟨i + 1, K2, rfl, h2, hT, h.drop⟩, hlt⟩
    have h2 : i = c.tasks.length := by have := of_decide_eq_false h2; omega
    subst h2
    rw [List.drop_length] at hT
    cases hT
    refine call57 (choose_kern tb ((Ok.emb (h) (.cons (A := kerP k A KT) (by with_reducible first | exact sl0 | exact .there sl0 | exact .there sl1 | exact .there sl2 | exact .there sl3 | exact .there sl4 | exact .there sl5 | exact .there sl6 | exact .there sl7 | exact .there sl8 | exact .there sl9 | exact .there sl10 | exact .there sl11 | exact .there sl12) (.cons (A := old e) (by with_reducible first | exact sl0 | exact .there sl0 | exact .there sl1 | exact .there sl2 | exact .there sl3 | exact .there sl4 | exact .there sl5 | exact .there sl6 | exact .there sl7 | exact .there sl8 | exact .there sl9 | exact .there sl10 | exact .there sl11 | exact .there sl12) (.same _))))) fun w6 h => ⟨(), rfl, ?_⟩)
    rw [hm] at h
    exact kk k A w6 (h.emb (by repeat' (first | with_reducible exact Emb.same _ | exact Emb.nil _ | refine Emb.cons (by with_reducible first | exact sl0 | exact .there sl0 | exact .there sl1 | exact .there sl2 | exact .there sl3 | exact .there sl4 | exact .there sl5 | exact .there sl6 | exact .there sl7 | exact .there sl8 | exact .there sl9 | exact .there sl10 | exact .there sl11 | exact .there sl12) ?_ | refine Emb.skip ?_)))
  have t2 : ∀ (v p r : Nat) w4, Ok e (pts v [.pointer none] :: placeP p ⟨[], false, false⟩ :: rdyP r [] :: pts b (cfC c S) :: cfR c S (old e :: L)) w4 → al w4 132 [.slice none 0 0, .slice none 0 0, .slice none 0 0, .slice none 0 0, .int .i64 0, .pointer none, .pointer (some ⟨p, 0, none⟩), .pointer none, .pointer (some ⟨r, 0, none⟩), vS ⟨some ⟨v, 0, none⟩, 1, 1⟩, .int .i64 0, .int .i64 0, .int .i64 0] fun k w5 => tailX R b k w5 := fun v p r w4 h => al.mk h fun k w5 h => tail k v p r w5 h
  have h : Ok e (pts b (cfC c S) :: cfR c S (old e :: L)) w3 := (h.emb (by repeat' (first | with_reducible exact Emb.same _ | exact Emb.nil _ | refine Emb.cons (by with_reducible first | exact sl0 | exact .there sl0 | exact .there sl1 | exact .there sl2 | exact .there sl3 | exact .there sl4 | exact .there sl5 | exact .there sl6 | exact .there sl7 | exact .there sl8 | exact .there sl9 | exact .there sl10 | exact .there sl11 | exact .there sl12) ?_ | refine Emb.skip ?_)))
  refine ⟨call99 (New_ctx h fun p w4 h => ⟨(some ⟨p, 0, none⟩, ()), rfl, (by refine Ok.cellS h (by with_reducible first | exact sl0 | exact .there sl0 | exact .there sl1 | exact .there sl2 | exact .there sl3 | exact .there sl4 | exact .there sl5 | exact .there sl6 | exact .there sl7 | exact .there sl8 | exact .there sl9 | exact .there sl10 | exact .there sl11 | exact .there sl12) ?_; rfl), (by refine Ok.cellS h (by with_reducible first | exact sl0 | exact .there sl0 | exact .there sl1 | exact .there sl2 | exact .there sl3 | exact .there sl4 | exact .there sl5 | exact .there sl6 | exact .there sl7 | exact .there sl8 | exact .there sl9 | exact .there sl10 | exact .there sl11 | exact .there sl12) ?_; rfl), ?_, ?_⟩), al.mk h fun v w4 h => ⟨(by refine Ok.cellS h (by with_reducible first | exact sl0 | exact .there sl0 | exact .there sl1 | exact .there sl2 | exact .there sl3 | exact .there sl4 | exact .there sl5 | exact .there sl6 | exact .there sl7 | exact .there sl8 | exact .there sl9 | exact .there sl10 | exact .there sl11 | exact .there sl12) ?_; rfl), (by refine Ok.cellS h (by with_reducible first | exact sl0 | exact .there sl0 | exact .there sl1 | exact .there sl2 | exact .there sl3 | exact .there sl4 | exact .there sl5 | exact .there sl6 | exact .there sl7 | exact .there sl8 | exact .there sl9 | exact .there sl10 | exact .there sl11 | exact .there sl12) ?_; rfl), ?_⟩⟩
  · refine call45 (New_ready h fun r w5 h => ⟨(some ⟨r, 0, none⟩, ()), rfl, (by refine Ok.cellS h (by with_reducible first | exact sl0 | exact .there sl0 | exact .there sl1 | exact .there sl2 | exact .there sl3 | exact .there sl4 | exact .there sl5 | exact .there sl6 | exact .there sl7 | exact .there sl8 | exact .there sl9 | exact .there sl10 | exact .there sl11 | exact .there sl12) ?_; rfl), (by refine Ok.cellS h (by with_reducible first | exact sl0 | exact .there sl0 | exact .there sl1 | exact .there sl2 | exact .there sl3 | exact .there sl4 | exact .there sl5 | exact .there sl6 | exact .there sl7 | exact .there sl8 | exact .there sl9 | exact .there sl10 | exact .there sl11 | exact .there sl12) ?_; rfl), al.mk h fun v w6 h => ⟨(by refine Ok.cellS h (by with_reducible first | exact sl0 | exact .there sl0 | exact .there sl1 | exact .there sl2 | exact .there sl3 | exact .there sl4 | exact .there sl5 | exact .there sl6 | exact .there sl7 | exact .there sl8 | exact .there sl9 | exact .there sl10 | exact .there sl11 | exact .there sl12) ?_; rfl), (by refine Ok.cellS h (by with_reducible first | exact sl0 | exact .there sl0 | exact .there sl1 | exact .there sl2 | exact .there sl3 | exact .there sl4 | exact .there sl5 | exact .there sl6 | exact .there sl7 | exact .there sl8 | exact .there sl9 | exact .there sl10 | exact .there sl11 | exact .there sl12) ?_; rfl), ?_⟩⟩)
    exact t2 v p r w6 (h.emb (by repeat' (first | with_reducible exact Emb.same _ | exact Emb.nil _ | refine Emb.cons (by with_reducible first | exact sl0 | exact .there sl0 | exact .there sl1 | exact .there sl2 | exact .there sl3 | exact .there sl4 | exact .there sl5 | exact .there sl6 | exact .there sl7 | exact .there sl8 | exact .there sl9 | exact .there sl10 | exact .there sl11 | exact .there sl12) ?_ | refine Emb.skip ?_)))
  · refine al.mk h fun v w5 h => ⟨(by refine Ok.cellS h (by with_reducible first | exact sl0 | exact .there sl0 | exact .there sl1 | exact .there sl2 | exact .there sl3 | exact .there sl4 | exact .there sl5 | exact .there sl6 | exact .there sl7 | exact .there sl8 | exact .there sl9 | exact .there sl10 | exact .there sl11 | exact .there sl12) ?_; rfl), (by refine Ok.cellS h (by with_reducible first | exact sl0 | exact .there sl0 | exact .there sl1 | exact .there sl2 | exact .there sl3 | exact .there sl4 | exact .there sl5 | exact .there sl6 | exact .there sl7 | exact .there sl8 | exact .there sl9 | exact .there sl10 | exact .there sl11 | exact .there sl12) ?_; rfl), call45 (New_ready h fun r w6 h => ⟨(some ⟨r, 0, none⟩, ()), rfl, (by refine Ok.cellS h (by with_reducible first | exact sl0 | exact .there sl0 | exact .there sl1 | exact .there sl2 | exact .there sl3 | exact .there sl4 | exact .there sl5 | exact .there sl6 | exact .there sl7 | exact .there sl8 | exact .there sl9 | exact .there sl10 | exact .there sl11 | exact .there sl12) ?_; rfl), (by refine Ok.cellS h (by with_reducible first | exact sl0 | exact .there sl0 | exact .there sl1 | exact .there sl2 | exact .there sl3 | exact .there sl4 | exact .there sl5 | exact .there sl6 | exact .there sl7 | exact .there sl8 | exact .there sl9 | exact .there sl10 | exact .there sl11 | exact .there sl12) ?_; rfl), ?_⟩)⟩
    exact t2 v p r w6 (h.emb (by repeat' (first | with_reducible exact Emb.same _ | exact Emb.nil _ | refine Emb.cons (by with_reducible first | exact sl0 | exact .there sl0 | exact .there sl1 | exact .there sl2 | exact .there sl3 | exact .there sl4 | exact .there sl5 | exact .there sl6 | exact .there sl7 | exact .there sl8 | exact .there sl9 | exact .there sl10 | exact .there sl11 | exact .there sl12) ?_ | refine Emb.skip ?_)))
  · refine call99 (New_ctx h fun p w5 h => ⟨(some ⟨p, 0, none⟩, ()), rfl, (by refine Ok.cellS h (by with_reducible first | exact sl0 | exact .there sl0 | exact .there sl1 | exact .there sl2 | exact .there sl3 | exact .there sl4 | exact .there sl5 | exact .there sl6 | exact .there sl7 | exact .there sl8 | exact .there sl9 | exact .there sl10 | exact .there sl11 | exact .there sl12) ?_; rfl), (by refine Ok.cellS h (by with_reducible first | exact sl0 | exact .there sl0 | exact .there sl1 | exact .there sl2 | exact .there sl3 | exact .there sl4 | exact .there sl5 | exact .there sl6 | exact .there sl7 | exact .there sl8 | exact .there sl9 | exact .there sl10 | exact .there sl11 | exact .there sl12) ?_; rfl), call45 (New_ready h fun r w6 h => ⟨(some ⟨r, 0, none⟩, ()), rfl, (by refine Ok.cellS h (by with_reducible first | exact sl0 | exact .there sl0 | exact .there sl1 | exact .there sl2 | exact .there sl3 | exact .there sl4 | exact .there sl5 | exact .there sl6 | exact .there sl7 | exact .there sl8 | exact .there sl9 | exact .there sl10 | exact .there sl11 | exact .there sl12) ?_; rfl), (by refine Ok.cellS h (by with_reducible first | exact sl0 | exact .there sl0 | exact .there sl1 | exact .there sl2 | exact .there sl3 | exact .there sl4 | exact .there sl5 | exact .there sl6 | exact .there sl7 | exact .there sl8 | exact .there sl9 | exact .there sl10 | exact .there sl11 | exact .there sl12) ?_; rfl), ?_⟩)⟩)
    exact t2 v p r w6 (h.emb (by repeat' (first | with_reducible exact Emb.same _ | exact Emb.nil _ | refine Emb.cons (by with_reducible first | exact sl0 | exact .there sl0 | exact .there sl1 | exact .there sl2 | exact .there sl3 | exact .there sl4 | exact .there sl5 | exact .there sl6 | exact .there sl7 | exact .there sl8 | exact .there sl9 | exact .there sl10 | exact .there sl11 | exact .there sl12) ?_ | refine Emb.skip ?_)))

end Go.Proofs.YtenonfkfoedfmaaGreatDoor.B


/- What the laws of the whole share. -/
namespace Go.Proofs.YtenonfkfoedfmaaGreatDoor.B
open Go
set_option linter.unusedVariables false

theorem slT_confTask : SlT Pg 25 2 := .of (by kernel_rfl)

abbrev actv (l : List Int) : List (Int × Bool) := l.map fun x => (x, true)

theorem tasks_keep {e w L R} {s : Sl} {l : List Int} (h : Ok e (slc 1 s (ints l) :: L) w) (hl : l.length ≤ 100) (k : ∀ x w', Ok e (slc 2 x (flat taC (actv l)) :: slc 1 s (ints l) :: L) w' → R [.agg #[.int .i64 1, vS x, vS ⟨none, 0, 0⟩, vS ⟨none, 0, 0⟩, vS ⟨none, 0, 0⟩, vS ⟨none, 0, 0⟩, vS ⟨none, 0, 0⟩, vS ⟨none, 0, 0⟩, .int .i64 0]] w') : sh18 s R w := by
  have hs : l.length = s.len := by have := h.slc_len; simp at this; omega
  unfold sh18
  refine al.mk h fun b w1 h => al.mk h fun d w1 h => ?_
  refine st1.mk h (by simp) fun w1 h => st1.mk h (by simp) fun w1 h => st1.mk h (by simp) fun w1 h => st1.mk h (by simp) fun w1 h => st1.mk h (by simp) fun w1 h => st1.mk h (by simp) fun w1 h => st1.mk h (by simp) fun w1 h => st1.mk h (by simp) fun w1 h => st1.mk h (by simp) fun w1 h => ?_
  refine lp.mk (fun t w1 => ∃ (i : Nat) (x : Sl), @Eq Int t.1 (i : Int) ∧ i ≤ l.length ∧ Ok e (pts d [.int .i64 1, vS x, vS ⟨none, 0, 0⟩, vS ⟨none, 0, 0⟩, vS ⟨none, 0, 0⟩, vS ⟨none, 0, 0⟩, vS ⟨none, 0, 0⟩, vS ⟨none, 0, 0⟩, .int .i64 0] :: slc 2 x (flat taC (actv (l.take i))) :: pts b [.int .i64 0, .slice none 0 0, .slice none 0 0, .slice none 0 0, .slice none 0 0, .slice none 0 0, .slice none 0 0, .slice none 0 0, .int .i64 0] :: slc 1 s (ints l) :: L) w1)
    (fun t _ => Int.toNat (Int.sub l.length t.1)) ⟨0, ⟨none, 0, 0⟩, rfl, by omega, (h.slcNil 2).p1⟩ ?_
  rintro ⟨(t : Int), _⟩ w2 ⟨i, x, (rfl : t = (i : Int)), hi, h⟩
  dsimp only
  refine cs.mk (fun h2 => ?_) (fun h2 => ?_)
  · have h2 : i < l.length := by have := of_decide_eq_true h2; omega
    refine dr.mk h fun w3 h => ldS.mk (h.cell rfl) (ix_int h.p3 (by omega) (by omega) fun b2 o2 z hz hcz => ldI.mk (hcz _ ⟨_, h.p3⟩) ?_)
    rw [Int.toNat_natCast, List.getElem?_eq_getElem h2] at hz
    cases hz
    have hxl := slc_flat_len taC_len (by decide) h.p1
    simp at hxl
    refine al.mk h fun f w4 h => ⟨h.p1.cell rfl, ?_⟩
    have h : Ok e (pts f (flat taC [(l[i], true)]) :: slc 2 x (flat taC (actv (l.take i))) :: pts d [.int .i64 1, vS x, vS ⟨none, 0, 0⟩, vS ⟨none, 0, 0⟩, vS ⟨none, 0, 0⟩, vS ⟨none, 0, 0⟩, vS ⟨none, 0, 0⟩, vS ⟨none, 0, 0⟩, .int .i64 0] :: pts b [.int .i64 0, .slice none 0 0, .slice none 0 0, .slice none 0 0, .slice none 0 0, .slice none 0 0, .slice none 0 0, .slice none 0 0, .int .i64 0] :: slc 1 s (ints l) :: L) w4 := by
      have h : Ok e (pts f (flat taC [(l[i], true)]) :: pts d [.int .i64 1, vS x, vS ⟨none, 0, 0⟩, vS ⟨none, 0, 0⟩, vS ⟨none, 0, 0⟩, vS ⟨none, 0, 0⟩, vS ⟨none, 0, 0⟩, vS ⟨none, 0, 0⟩, .int .i64 0] :: slc 2 x (flat taC (actv (l.take i))) :: pts b [.int .i64 0, .slice none 0 0, .slice none 0 0, .slice none 0 0, .slice none 0 0, .slice none 0 0, .slice none 0 0, .slice none 0 0, .int .i64 0] :: slc 1 s (ints l) :: L) w4 := h
      exact (h.emb (by repeat' (first | with_reducible exact Emb.same _ | exact Emb.nil _ | refine Emb.cons (by with_reducible first | exact sl0 | exact .there sl0 | exact .there sl1 | exact .there sl2 | exact .there sl3 | exact .there sl4 | exact .there sl5 | exact .there sl6 | exact .there sl7 | exact .there sl8 | exact .there sl9 | exact .there sl10 | exact .there sl11 | exact .there sl12) ?_ | refine Emb.skip ?_)))
    refine ef.append1 (n := 1) slT_confTask (by decide) h rfl (flat_one taC_one) (by omega) fun s' w7 hl' h => ?_
    rw [← flat_append] at h
    refine st1.mk h.p1 (by simp) fun w8 h => ⟨⟨i + 1, s', w64_in (by omega) (by omega), h2, ?_⟩, ?_⟩
    · rw [List.take_add_one, List.getElem?_eq_getElem h2]
      rw [show actv (l.take i ++ (some l[i]).toList) = actv (l.take i) ++ [(l[i], true)] from List.map_append ..]
      exact h
    · show ((l.length : Int) - w64 ((i : Int) + 1)).toNat < ((l.length : Int) - (i : Int)).toNat
      rw [w64_in (by omega) (by omega)]
      omega
  · have h2 : i = l.length := by have := of_decide_eq_false h2; omega
    subst h2
    rw [List.take_length] at h
    refine ldI.mk (h.cell rfl) (ldS.mk (h.cell rfl) (ldS.mk (h.cell rfl) (ldS.mk (h.cell rfl) (ldS.mk (h.cell rfl) (ldS.mk (h.cell rfl) (ldS.mk (h.cell rfl) (ldS.mk (h.cell rfl) (ldI.mk (h.cell rfl) ?_))))))))
    have h := h.p2
    refine st1.mk h (by simp) fun w1 h => st1.mk h (by simp) fun w1 h => st1.mk h (by simp) fun w1 h => st1.mk h (by simp) fun w1 h => st1.mk h (by simp) fun w1 h => st1.mk h (by simp) fun w1 h => st1.mk h (by simp) fun w1 h => st1.mk h (by simp) fun w1 h => st1.mk h (by simp) fun w1 h => ?_
    refine ldI.mk (h.cell rfl) (ldS.mk (h.cell rfl) (ldS.mk (h.cell rfl) (ldS.mk (h.cell rfl) (ldS.mk (h.cell rfl) (ldS.mk (h.cell rfl) (ldS.mk (h.cell rfl) (ldS.mk (h.cell rfl) (ldI.mk (h.cell rfl) (k x w1 ?_)))))))))
    have h := h.drop
    exact (h.emb (by repeat' (first | with_reducible exact Emb.same _ | exact Emb.nil _ | refine Emb.cons (by with_reducible first | exact sl0 | exact .there sl0 | exact .there sl1 | exact .there sl2 | exact .there sl3 | exact .there sl4 | exact .there sl5 | exact .there sl6 | exact .there sl7 | exact .there sl8 | exact .there sl9 | exact .there sl10 | exact .there sl11 | exact .there sl12) ?_ | refine Emb.skip ?_)))

theorem tasks_top {e w L R} {s : Sl} {l : List Int} (h : Ok e (slc 1 s (ints l) :: L) w) (hl : l.length ≤ 100) (k : ∀ x w', Ok e (slc 2 x (flat taC (actv l)) :: L) w' → R [.agg #[.int .i64 1, vS x, vS ⟨none, 0, 0⟩, vS ⟨none, 0, 0⟩, vS ⟨none, 0, 0⟩, vS ⟨none, 0, 0⟩, vS ⟨none, 0, 0⟩, vS ⟨none, 0, 0⟩, .int .i64 0]] w') : sh18 s R w :=
  tasks_keep h hl fun x w' h => k x w' h.p1.drop

theorem open_top {e w L c S K R} (tb : TabE e) (h : Ok e (cfR c S (old e :: L)) w) (hc : c.ok = true) (hm : KM.new c = some K) (kk : ∀ k A w', Ok e (kerP k A K :: cfR c S (old e :: L)) w' → R [pV k] w') : sh19 (cfV c S) R w := by
  unfold sh19
  refine al.mk h fun b w1 h => ?_
  refine ldI.mk (h.cell rfl) (ldS.mk (h.cell rfl) (ldS.mk (h.cell rfl) (ldS.mk (h.cell rfl) (ldS.mk (h.cell rfl) (ldS.mk (h.cell rfl) (ldS.mk (h.cell rfl) (ldS.mk (h.cell rfl) (ldI.mk (h.cell rfl) ?_))))))))
  exact call51 (a0 := cfV c S) (New_kern tb h.drop (CfOk.of hc) hm fun k A w2 h => ⟨(some ⟨k, 0, none⟩, (0 : Int), ()), rfl, cs.no rfl (kk k A w2 h)⟩)

/-- what the call of a number does -/
def DoC (e : World) (n : Nat) (kd : Int) (g : Int → Int → KM → Option ((Int × Int) × KM)) : Prop :=
  ∀ (k : Nat) (A : KA) (K : KM) (r : (Int × Int) × KM) (L : List SP) (w : World) (x0 x1 x2 x3 : Int) (R : List Value → World → Prop), Ok e (kerP k A K :: old e :: L) w → K.call kd (g x0 x1) = some r →
    (∀ w', Ok e (kerP k A r.2 :: old e :: L) w' → R [.agg #[.int .i64 r.1.1, .int .i64 r.1.2]] w') → sh41 (some ⟨k, 0, none⟩) ((n : Int), x0, x1, x2, x3, ()) R w

theorem do_top {e w L k A K r s R} {n : Nat} {kd : Int} {g} {xs : List Int} (hd : DoC e n kd g) (h : Ok e (slc 1 s (ints xs) :: kerP k A K :: old e :: L) w) (hl : xs.length ≤ 4) (hm : K.call kd (g (xs[0]?.getD 0) (xs[1]?.getD 0)) = some r)
    (kk : ∀ w', Ok e (kerP k A r.2 :: old e :: L) w' → R [.int .i64 r.1.1, .int .i64 r.1.2] w') : sh20 (some ⟨k, 0, none⟩) (n : Int) s R w := by
  unfold sh20
  refine call52 (Make_calls h hl fun w1 h => ⟨(((n : Int), (xs[0]?.getD 0 : Int), (xs[1]?.getD 0 : Int), (xs[2]?.getD 0 : Int), (xs[3]?.getD 0 : Int), ()), ()), rfl, ?_⟩)
  refine call41 (a1 := ((n : Int), xs[0]?.getD 0, xs[1]?.getD 0, xs[2]?.getD 0, xs[3]?.getD 0, ())) (hd k A K r L w1 _ _ _ _ _ h hm fun w2 h => ⟨((r.1.1, r.1.2, ()), ()), rfl, ?_⟩)
  refine al.mk h fun b w3 h => st1.mk h (by simp) fun w4 h => st1.mk h (by simp) fun w5 h => dr.mk h fun w6 h => ldI.mk (h.cell rfl) (ldI.mk (h.cell rfl) (kk w6 h.drop))

theorem state_top {e w L k A K n s R} (h : Ok e (kerP k A K :: L) w) (hm : K.state n = some s) (kk : ∀ w', Ok e (kerP k A K :: L) w' → R [.int .i64 s] w') : sh27 (some ⟨k, 0, none⟩) n R w := by
  unfold sh27
  obtain ⟨f, hf, rfl⟩ := Option.map_eq_some_iff.1 hm
  refine call24 (Task_kern h hf fun w1 h => ⟨((f.state, f.pri, f.base, (0 : Int), f.kind, f.obj, f.lc, f.lv, ()), (f.acts, f.wups, f.susps, ()), (0 : Int), ()), rfl, ?_⟩)
  refine al.mk h fun b w1 h => al.mk h fun d w1 h => ?_
  have h := h.p1
  refine st1.mk h (by simp) fun w1 h => st1.mk h (by simp) fun w1 h => st1.mk h (by simp) fun w1 h => st1.mk h (by simp) fun w1 h => st1.mk h (by simp) fun w1 h => st1.mk h (by simp) fun w1 h => st1.mk h (by simp) fun w1 h => st1.mk h (by simp) fun w1 h => ?_
  refine st1.mk h.p1 (by simp) fun w1 h => st1.mk h (by simp) fun w1 h => st1.mk h (by simp) fun w1 h => ldI.mk (h.p1.cell rfl) (kk w1 h.drop.drop)

theorem last_top {e w L k A K n f R} (h : Ok e (kerP k A K :: L) w) (hm : K.task n = some f) (kk : ∀ w', Ok e (kerP k A K :: L) w' → R [.int .i64 f.lc, .int .i64 f.lv] w') : sh23 (some ⟨k, 0, none⟩) n R w := by
  unfold sh23
  refine call24 (Task_kern h hm fun w1 h => ⟨((f.state, f.pri, f.base, (0 : Int), f.kind, f.obj, f.lc, f.lv, ()), (f.acts, f.wups, f.susps, ()), (0 : Int), ()), rfl, ?_⟩)
  refine al.mk h fun b w1 h => al.mk h fun d w1 h => ?_
  have h := h.p1
  refine st1.mk h (by simp) fun w1 h => st1.mk h (by simp) fun w1 h => st1.mk h (by simp) fun w1 h => st1.mk h (by simp) fun w1 h => st1.mk h (by simp) fun w1 h => st1.mk h (by simp) fun w1 h => st1.mk h (by simp) fun w1 h => st1.mk h (by simp) fun w1 h => ?_
  refine st1.mk h.p1 (by simp) fun w1 h => st1.mk h (by simp) fun w1 h => st1.mk h (by simp) fun w1 h => dr.mk h fun w1 h => ldI.mk (h.p1.cell rfl) (ldI.mk (h.p1.cell rfl) (kk w1 h.drop.drop))

/-! ### a delay -/
theorem tasks_22 {e k A K r x0 x1 x2 x3} (hm : KM.cDly x0 K = some r) : GrpC e k A K r (sh79 (some ⟨k, 0, none⟩) (((22 : Nat) : Int), x0, x1, x2, x3, ())) := by
  intro L w R h kk
  unfold KM.cDly at hm
  unfold sh79
  refine al.mk h fun b w1 h => al.mk h fun d w2 h => ldI.mk (h.p1.cell rfl) (ldI.mk (h.p1.cell rfl) (ldI.mk (h.p1.cell rfl) (ldI.mk (h.p1.cell rfl) (ldI.mk (h.p1.cell rfl) ?_))))
  refine call130 (a1 := (((22 : Nat) : Int), x0, x1, x2, x3, ())) (named_kern h.p2 (n := 22) rfl (by decide) (by decide) fun w3 h => ⟨(nmd K 22 2 x0, ()), rfl, ?_⟩)
  rw [show nmd K 22 2 x0 = K.who from rfl]
  have h : Ok e (pts d [.int .i64 0, .int .i64 0] :: pts b [.int .i64 ((22 : Nat) : Int), .int .i64 x0, .int .i64 x1, .int .i64 x2, .int .i64 x3] :: kerP k A K :: old e :: L) w3 := (h.emb (by repeat' (first | with_reducible exact Emb.same _ | exact Emb.nil _ | refine Emb.cons (by with_reducible first | exact sl0 | exact .there sl0 | exact .there sl1 | exact .there sl2 | exact .there sl3 | exact .there sl4 | exact .there sl5 | exact .there sl6 | exact .there sl7 | exact .there sl8 | exact .there sl9 | exact .there sl10 | exact .there sl11 | exact .there sl12) ?_ | refine Emb.skip ?_)))
  refine jn.bool (decide (K.who = 0)) (fun J hJ => ?_) (jn.bool (decide (K.who = 0)) (fun J hJ => ?_) (cs.mk (fun hw => ?_) (fun hw => ?_)))
  · refine cs.mk (fun hc => ldI.mk (h.p1.cell rfl) ?_) (fun hc => ?_)
    · rw [decide_eq_true (by simpa using hc)] at hJ; exact hJ
    · rw [decide_eq_false (by simpa using hc)] at hJ; exact hJ
  · refine cs.mk (fun hc => ldI.mk (h.p1.cell rfl) ?_) (fun hc => ?_)
    · have hc : decide (K.who = 0) = true := hc
      rw [hc] at hJ; exact hJ
    · have hc : decide (K.who = 0) = false := hc
      rw [hc] at hJ; exact hJ
  · have hw : K.who = 0 := of_decide_eq_true hw
    rw [if_pos hw] at hm
    cases hm
    exact fin_code h fun w4 h => kk w4 h.drop
  have hw : ¬ K.who = 0 := of_decide_eq_false hw
  rw [if_neg hw] at hm
  refine ldI.mk (h.p1.cell rfl) ?_
  (repeat (first | ((with_reducible refine cs.yes ?_ ?_); · rfl) | ((with_reducible refine cs.no ?_ ?_); · rfl) | refine jn.mk fun J hJ => ?_ | with_reducible apply_assumption -exfalso -symm))
  refine ⟨by decide, by decide, ldI.mk (h.p1.cell rfl) ?_⟩
  by_cases hb : x0 < 0 ∨ x0 > 2147483647
  · rw [if_pos hb] at hm
    cases hm
    refine call137 (Rel_bad (by omega) ⟨((0 : Int), (-17 : Int), ()), rfl, cs.yes rfl (fin_code h fun w4 h => kk w4 h.drop)⟩)
  · rw [if_neg hb] at hm
    obtain ⟨K', hK, rfl⟩ := Option.map_eq_some_iff.1 hm
    refine call137 (Rel_nums (by omega) ⟨(x0, (0 : Int), ()), rfl, cs.no rfl ⟨by decide, by decide, ldI.mk (h.p1.cell rfl) ?_⟩⟩)
    exact call138 (stay_kern h.p2 hK fun w4 h => ⟨(((1 : Int), (0 : Int), ()), ()), rfl, fin_res h.p1 fun w5 h => kk w5 h.p1.drop⟩)

theorem do_22 {e} (tb : TabE e) : DoC e 22 2 fun x0 _ => KM.cDly x0 := by
  intro k A K r L w x0 x1 x2 x3 R h hm kk
  exact Do_kern (n := 22) tb rfl (by decide) h hm (fun r hr => .inl ⟨by decide, tasks_22 hr⟩) kk

/-! ### what is known of every kernel -/
def knownM : Option Bool :=
  (KM.new ⟨1, [(5, true), (3, true)], [], [], [], []⟩).bind fun K0 =>
  if K0.who ≠ 2 then none else
  (K0.call 2 (KM.cDly 0)).bind fun r1 =>
  r1.2.tick.bind fun K2 =>
  (K2.state 1).bind fun s1 => (K2.state 2).map fun s2 => decide (r1.1.1 = 1) && decide (r1.2.who = 1) && decide (K2.who = 2) && decide (s1 = 2) && decide (s2 = 1)

theorem knownM_true : knownM = some true := by decide +kernel

end Go.Proofs.YtenonfkfoedfmaaGreatDoor.B


/- What is known of every kernel. -/
namespace Go.Proofs.YtenonfkfoedfmaaGreatDoor.B
open Go
set_option linter.unusedVariables false

abbrev nilS : Sl := ⟨none, 0, 0⟩

theorem conf_tasks {e L w x} {l : List (Int × Bool)} (tic : Int) (h : Ok e (slc 2 x (flat taC l) :: L) w) : Ok e (cfR ⟨tic, l, [], [], [], []⟩ ⟨x, nilS, nilS, nilS, nilS⟩ L) w := by
  have h := (((h.slcNil 3).slcNil 2).slcNil 2).slcNil 3
  have h2 : Ok e (slc 2 x (flat taC l) :: slc 3 nilS [] :: slc 2 nilS [] :: slc 2 nilS [] :: slc 3 nilS [] :: L) w := (h.emb (by repeat' (first | with_reducible exact Emb.same _ | exact Emb.nil _ | refine Emb.cons (by with_reducible first | exact sl0 | exact .there sl0 | exact .there sl1 | exact .there sl2 | exact .there sl3 | exact .there sl4 | exact .there sl5 | exact .there sl6 | exact .there sl7 | exact .there sl8 | exact .there sl9 | exact .there sl10 | exact .there sl11 | exact .there sl12) ?_ | refine Emb.skip ?_)))
  exact h2

theorem slcOf {e w L b} {l : List Int} (h : Ok e (pts b (ints l) :: L) w) : Ok e (slc 1 ⟨some ⟨b, 0, none⟩, l.length, l.length⟩ (ints l) :: L) w :=
  Ok.slcNew (vs := ints l) h (by rw [ints_len, Nat.mul_one]) (ints_one l)

theorem known_top {e w L R} (tb : TabE e) (h : Ok e (old e :: L) w) (kk : ∀ w', Ok e (old e :: L) w' → R [.bool true] w') : sh17 R w := by
  obtain ⟨K0, hK0, hm⟩ := Option.bind_eq_some_iff.1 knownM_true
  split at hm
  · cases hm
  · next hw0 =>
    obtain ⟨r1, hr1, hm⟩ := Option.bind_eq_some_iff.1 hm
    obtain ⟨K2, hK2, hm⟩ := Option.bind_eq_some_iff.1 hm
    obtain ⟨s1, hs1, hm⟩ := Option.bind_eq_some_iff.1 hm
    obtain ⟨s2, hs2, hm⟩ := Option.map_eq_some_iff.1 hm
    simp only [Bool.and_eq_true, decide_eq_true_eq] at hm
    obtain ⟨⟨⟨⟨m1, m2⟩, m3⟩, m4⟩, m5⟩ := hm
    unfold sh17
    refine al.mk h fun b w1 h => ?_
    refine call18 (a0 := ⟨some ⟨b, 0, none⟩, 2, 2⟩) (tasks_top (l := [5, 3]) (slcOf (l := [5, 3]) h) (by decide) fun x w2 h => ⟨(((1 : Int), x, nilS, nilS, nilS, nilS, nilS, nilS, (0 : Int), ()), ()), rfl, ?_⟩)
    refine call19 (a0 := cfV ⟨1, [(5, true), (3, true)], [], [], [], []⟩ ⟨x, nilS, nilS, nilS, nilS⟩) (open_top tb (conf_tasks 1 h) (by decide) hK0 fun k A w3 h => ⟨(some ⟨k, 0, none⟩, ()), rfl, ?_⟩)
    have h : Ok e (kerP k A K0 :: old e :: L) w3 := (h.emb (by repeat' (first | with_reducible exact Emb.same _ | exact Emb.nil _ | refine Emb.cons (by with_reducible first | exact sl0 | exact .there sl0 | exact .there sl1 | exact .there sl2 | exact .there sl3 | exact .there sl4 | exact .there sl5 | exact .there sl6 | exact .there sl7 | exact .there sl8 | exact .there sl9 | exact .there sl10 | exact .there sl11 | exact .there sl12) ?_ | refine Emb.skip ?_)))
    refine jn.mk fun J hJ => cs.no rfl (call21 (Running_kern h ⟨(K0.who, ()), rfl, hJ _ _ (cs.no (by simpa using hw0) ?_)⟩))
    refine al.mk h fun b1 w4 h => ?_
    refine call20 (a2 := ⟨some ⟨b1, 0, none⟩, 1, 1⟩) (do_top (n := 22) (xs := [0]) (do_22 tb) (slcOf (l := [0]) h) (by decide) hr1 fun w5 h => ⟨(r1.1.1, r1.1.2, ()), rfl, ?_⟩)
    refine call21 (Running_kern h ⟨(r1.2.who, ()), rfl, ?_⟩)
    refine call22 (Tick_kern tb h hK2 fun w6 h => ⟨(nilS, ()), rfl, ?_⟩)
    refine jn.mk fun J1 hJ1 => cs.yes (by simpa using m1) (hJ1 _ _ (jn.mk fun J2 hJ2 => cs.yes (by simpa using m2) (call21 (Running_kern h ⟨(K2.who, ()), rfl, hJ2 _ _ (jn.mk fun J3 hJ3 => cs.yes (by simpa using m3) ?_)⟩))))
    refine call27 (state_top h hs1 fun w7 h => ⟨(s1, ()), rfl, hJ3 _ _ (jn.mk fun J4 hJ4 => cs.yes (by simpa using m4) ?_)⟩)
    refine call27 (state_top h hs2 fun w8 h => ⟨(s2, ()), rfl, hJ4 _ _ ?_⟩)
    have := kk w8 h.drop
    rw [m5]
    exact this

end Go.Proofs.YtenonfkfoedfmaaGreatDoor.B

