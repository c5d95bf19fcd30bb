/- Contracts of the document's message buffer: Recv, Drop, Change. -/
import Derived.Test.YtjamgdepbjipdaaRef16b
namespace Go.Proofs.Ytjamgdepbjipdaa.B
open Go
set_option linter.unusedVariables false

theorem atI_nil {t : Int} : ¬ 0 ≤ atI [] t := fun h => absurd (atI_pos.1 h) (by simp)

theorem chgL_nil1 {byPri : Bool} {t pri : Int} : chgL byPri [] t pri = (false, []) := by
  unfold chgL
  rw [if_pos (.inl (by have := atI_nil (t := t); omega))]

theorem drop_eq {z : Nat} {q : BB} {t : Int} (ho : BBo z q) : q.drop z t = if 0 ≤ atI q.S t then BB.fill z ⟨q.M, rmL q.S t, q.R, q.s⟩ else if 0 ≤ atI q.R t then BB.fill z ⟨q.M, q.S, rmL q.R t, q.s⟩ else ([], q) := by
  obtain ⟨M, S, R, s⟩ := q
  unfold BB.drop
  rcases ho.or with h | h
  · dsimp only at h ⊢
    subst h
    rw [if_neg atI_nil, if_neg atI_nil]
  · dsimp only at h ⊢
    subst h
    rw [if_neg (atI_nil (t := t)), if_neg atI_nil, fill_nil (by rfl)]

theorem change_eq {z : Nat} {byPri : Bool} {q : BB} {t pri : Int} (ho : BBo z q) : q.change z byPri t pri = if (chgL byPri q.S t pri).1 = true then (((BB.fill z ⟨q.M, (chgL byPri q.S t pri).2, q.R, q.s⟩).1, true), (BB.fill z ⟨q.M, (chgL byPri q.S t pri).2, q.R, q.s⟩).2)
    else if (chgL false q.R t pri).1 = true then (((BB.fill z ⟨q.M, q.S, (chgL false q.R t pri).2, q.s⟩).1, true), (BB.fill z ⟨q.M, q.S, (chgL false q.R t pri).2, q.s⟩).2) else (([], false), q) := by
  obtain ⟨M, S, R, s⟩ := q
  unfold BB.change
  rcases ho.or with h | h
  · dsimp only at h ⊢
    subst h
    rw [chgL_nil1, if_neg Bool.false_ne_true]
  · dsimp only at h ⊢
    subst h
    rw [chgL_nil1, if_neg Bool.false_ne_true, if_neg Bool.false_ne_true]
    split
    · next h1 => rw [h1, fill_nil (by rfl)]
    · next h1 =>
      have h1 := Bool.eq_false_iff.2 h1
      rw [h1, chgL_no h1]

set_option maxHeartbeats 2000000 in
theorem Recv_ref16 {e w L b byPri most z q t pri R} (h : Ok e (rbP b byPri most z q :: L) w) (ho : BBo z q)
    (k : ∀ u w', u.len = (q.recv z t pri).1.1.2.2.length → Ok e (slc 1 u (ints (q.recv z t pri).1.1.2.2) :: rbP b byPri most z (q.recv z t pri).2 :: L) w' →
      R [.agg #[.string (bs (q.recv z t pri).1.1.1), .bool (q.recv z t pri).1.1.2.1, vS u], .int .i64 (q.recv z t pri).1.2] w') : sh21 (some ⟨b, 0, none⟩) t pri R w := by
  unfold sh21
  unfold BB.recv at k
  refine al.mk h fun c w1 h => ?_
  refine call23 (TryRecv_ref16 h.p1 ho fun u w2 hu h => ⟨((bs (q.tryRecv z).1.1, (q.tryRecv z).1.2.1, u, ()), ()), rfl, ?_⟩)
  refine al.mk h fun c2 w3 h => ?_
  dsimp only
  (repeat (first | with_reducible refine dr.mk h fun _ h => ?_ | with_reducible refine nn.mk ?_ | ((first | with_reducible apply ldI.mk | with_reducible apply ldB.mk | with_reducible apply ldP.mk | with_reducible apply ldS.mk | with_reducible apply ldM.mk | with_reducible apply ldF.mk | with_reducible apply ldG.mk); (· exact (by refine Ok.cellS h (by with_reducible first | exact sl0 | exact .there sl0 | exact .there sl1 | exact .there sl2 | exact .there sl3 | exact .there sl4 | exact .there sl5 | exact .there sl6 | exact .there sl7 | exact .there sl8 | exact .there sl9 | exact .there sl10 | exact .there sl11 | exact .there sl12) ?_; rfl))) | (refine st1.mk (Ok.bring h (by with_reducible first | exact sl0 | exact .there sl0 | exact .there sl1 | exact .there sl2 | exact .there sl3 | exact .there sl4 | exact .there sl5 | exact .there sl6 | exact .there sl7 | exact .there sl8 | exact .there sl9 | exact .there sl10 | exact .there sl11 | exact .there sl12)) (by simp) fun _ h => ?_; dsimp only [List.set] at h)))
  refine cs.mk (fun hc => ?_) (fun hc => ?_)
  · rw [if_pos hc] at k
    rw [hc] at h
    (repeat (first | with_reducible refine dr.mk h fun _ h => ?_ | with_reducible refine nn.mk ?_ | ((first | with_reducible apply ldI.mk | with_reducible apply ldB.mk | with_reducible apply ldP.mk | with_reducible apply ldS.mk | with_reducible apply ldM.mk | with_reducible apply ldF.mk | with_reducible apply ldG.mk); (· exact (by refine Ok.cellS h (by with_reducible first | exact sl0 | exact .there sl0 | exact .there sl1 | exact .there sl2 | exact .there sl3 | exact .there sl4 | exact .there sl5 | exact .there sl6 | exact .there sl7 | exact .there sl8 | exact .there sl9 | exact .there sl10 | exact .there sl11 | exact .there sl12) ?_; rfl))) | (refine st1.mk (Ok.bring h (by with_reducible first | exact sl0 | exact .there sl0 | exact .there sl1 | exact .there sl2 | exact .there sl3 | exact .there sl4 | exact .there sl5 | exact .there sl6 | exact .there sl7 | exact .there sl8 | exact .there sl9 | exact .there sl10 | exact .there sl11 | exact .there sl12)) (by simp) fun _ h => ?_; dsimp only [List.set] at h)))
    rw [← hc]
    exact k u _ hu ((Ok.emb (h) (.cons (A := pts c _) (by with_reducible first | exact sl0 | exact .there sl0 | exact .there sl1 | exact .there sl2 | exact .there sl3 | exact .there sl4 | exact .there sl5 | exact .there sl6 | exact .there sl7 | exact .there sl8 | exact .there sl9 | exact .there sl10 | exact .there sl11 | exact .there sl12) (.cons (A := pts c2 _) (by with_reducible first | exact sl0 | exact .there sl0 | exact .there sl1 | exact .there sl2 | exact .there sl3 | exact .there sl4 | exact .there sl5 | exact .there sl6 | exact .there sl7 | exact .there sl8 | exact .there sl9 | exact .there sl10 | exact .there sl11 | exact .there sl12) (.cons (A := slc 1 u _) (by with_reducible first | exact sl0 | exact .there sl0 | exact .there sl1 | exact .there sl2 | exact .there sl3 | exact .there sl4 | exact .there sl5 | exact .there sl6 | exact .there sl7 | exact .there sl8 | exact .there sl9 | exact .there sl10 | exact .there sl11 | exact .there sl12) (.cons (A := rbP b _ _ _ _) (by with_reducible first | exact sl0 | exact .there sl0 | exact .there sl1 | exact .there sl2 | exact .there sl3 | exact .there sl4 | exact .there sl5 | exact .there sl6 | exact .there sl7 | exact .there sl8 | exact .there sl9 | exact .there sl10 | exact .there sl11 | exact .there sl12) (.same _))))))).drop.drop
  · rw [if_neg (by rw [hc]; simp)] at k
    obtain ⟨h2, h3, h4⟩ := tryRecv_no hc
    rw [h2] at h hu
    dsimp only at h hu
    have l2 := okL_len ho.r
    refine call46 (Good_ref4 h ⟨(decide (1 ≤ t ∧ t ≤ 16 ∧ 1 ≤ pri ∧ pri ≤ 16), ()), rfl, ?_⟩)
    dsimp only
    by_cases hg : ¬ (1 ≤ t ∧ t ≤ 16 ∧ 1 ≤ pri ∧ pri ≤ 16)
    · have e1 : addL false q.R t pri = (-17, q.R) := by unfold addL; rw [if_pos (by omega)]
      rw [e1] at k
      refine cs.yes (by rw [decide_eq_false hg]; rfl) ?_
      (repeat (first | with_reducible refine dr.mk h fun _ h => ?_ | with_reducible refine nn.mk ?_ | ((first | with_reducible apply ldI.mk | with_reducible apply ldB.mk | with_reducible apply ldP.mk | with_reducible apply ldS.mk | with_reducible apply ldM.mk | with_reducible apply ldF.mk | with_reducible apply ldG.mk); (· exact (by refine Ok.cellS h (by with_reducible first | exact sl0 | exact .there sl0 | exact .there sl1 | exact .there sl2 | exact .there sl3 | exact .there sl4 | exact .there sl5 | exact .there sl6 | exact .there sl7 | exact .there sl8 | exact .there sl9 | exact .there sl10 | exact .there sl11 | exact .there sl12) ?_; rfl))) | (refine st1.mk (Ok.bring h (by with_reducible first | exact sl0 | exact .there sl0 | exact .there sl1 | exact .there sl2 | exact .there sl3 | exact .there sl4 | exact .there sl5 | exact .there sl6 | exact .there sl7 | exact .there sl8 | exact .there sl9 | exact .there sl10 | exact .there sl11 | exact .there sl12)) (by simp) fun _ h => ?_; dsimp only [List.set] at h)))
      exact k u _ hu ((Ok.emb (h) (.cons (A := pts c _) (by with_reducible first | exact sl0 | exact .there sl0 | exact .there sl1 | exact .there sl2 | exact .there sl3 | exact .there sl4 | exact .there sl5 | exact .there sl6 | exact .there sl7 | exact .there sl8 | exact .there sl9 | exact .there sl10 | exact .there sl11 | exact .there sl12) (.cons (A := pts c2 _) (by with_reducible first | exact sl0 | exact .there sl0 | exact .there sl1 | exact .there sl2 | exact .there sl3 | exact .there sl4 | exact .there sl5 | exact .there sl6 | exact .there sl7 | exact .there sl8 | exact .there sl9 | exact .there sl10 | exact .there sl11 | exact .there sl12) (.cons (A := slc 1 u _) (by with_reducible first | exact sl0 | exact .there sl0 | exact .there sl1 | exact .there sl2 | exact .there sl3 | exact .there sl4 | exact .there sl5 | exact .there sl6 | exact .there sl7 | exact .there sl8 | exact .there sl9 | exact .there sl10 | exact .there sl11 | exact .there sl12) (.cons (A := rbP b _ _ _ _) (by with_reducible first | exact sl0 | exact .there sl0 | exact .there sl1 | exact .there sl2 | exact .there sl3 | exact .there sl4 | exact .there sl5 | exact .there sl6 | exact .there sl7 | exact .there sl8 | exact .there sl9 | exact .there sl10 | exact .there sl11 | exact .there sl12) (.same _))))))).drop.drop
    have hg := Decidable.not_not.1 hg
    refine cs.no (by rw [decide_eq_true hg]; rfl) ?_
    obtain ⟨g, ps, pr, W, h1, h⟩ := rbE (Ok.emb (h) (.cons (A := rbP b _ _ _ _) (by with_reducible first | exact sl0 | exact .there sl0 | exact .there sl1 | exact .there sl2 | exact .there sl3 | exact .there sl4 | exact .there sl5 | exact .there sl6 | exact .there sl7 | exact .there sl8 | exact .there sl9 | exact .there sl10 | exact .there sl11 | exact .there sl12) (.same _)))
    refine nn.mk (ldP.mk (by refine Ok.cellS h (by with_reducible first | exact sl0 | exact .there sl0 | exact .there sl1 | exact .there sl2 | exact .there sl3 | exact .there sl4 | exact .there sl5 | exact .there sl6 | exact .there sl7 | exact .there sl8 | exact .there sl9 | exact .there sl10 | exact .there sl11 | exact .there sl12) ?_; rfl) ?_)
    refine call47 (At_ref4 (Ok.emb (h) (.cons (A := refP ps _ _) (by with_reducible first | exact sl0 | exact .there sl0 | exact .there sl1 | exact .there sl2 | exact .there sl3 | exact .there sl4 | exact .there sl5 | exact .there sl6 | exact .there sl7 | exact .there sl8 | exact .there sl9 | exact .there sl10 | exact .there sl11 | exact .there sl12) (.same _))) (by rw [h3]; simp) ⟨((-1 : Int), ()), by rw [h3]; rfl, ?_⟩)
    refine cs.no rfl ?_
    refine dr.mk h fun w5 h => ?_
    (repeat (first | with_reducible refine dr.mk h fun _ h => ?_ | with_reducible refine nn.mk ?_ | ((first | with_reducible apply ldI.mk | with_reducible apply ldB.mk | with_reducible apply ldP.mk | with_reducible apply ldS.mk | with_reducible apply ldM.mk | with_reducible apply ldF.mk | with_reducible apply ldG.mk); (· exact (by refine Ok.cellS h (by with_reducible first | exact sl0 | exact .there sl0 | exact .there sl1 | exact .there sl2 | exact .there sl3 | exact .there sl4 | exact .there sl5 | exact .there sl6 | exact .there sl7 | exact .there sl8 | exact .there sl9 | exact .there sl10 | exact .there sl11 | exact .there sl12) ?_; rfl))) | (refine st1.mk (Ok.bring h (by with_reducible first | exact sl0 | exact .there sl0 | exact .there sl1 | exact .there sl2 | exact .there sl3 | exact .there sl4 | exact .there sl5 | exact .there sl6 | exact .there sl7 | exact .there sl8 | exact .there sl9 | exact .there sl10 | exact .there sl11 | exact .there sl12)) (by simp) fun _ h => ?_; dsimp only [List.set] at h)))
    refine call48 (Add_ref4 (Ok.emb (h) (.cons (A := refP pr _ _) (by with_reducible first | exact sl0 | exact .there sl0 | exact .there sl1 | exact .there sl2 | exact .there sl3 | exact .there sl4 | exact .there sl5 | exact .there sl6 | exact .there sl7 | exact .there sl8 | exact .there sl9 | exact .there sl10 | exact .there sl11 | exact .there sl12) (.same _))) (by omega) fun w6 h => ⟨((addL false q.R t pri).1, ()), rfl, ⟨(by refine Ok.cellS h (by with_reducible first | exact sl0 | exact .there sl0 | exact .there sl1 | exact .there sl2 | exact .there sl3 | exact .there sl4 | exact .there sl5 | exact .there sl6 | exact .there sl7 | exact .there sl8 | exact .there sl9 | exact .there sl10 | exact .there sl11 | exact .there sl12) ?_; rfl), (by refine Ok.cellS h (by with_reducible first | exact sl0 | exact .there sl0 | exact .there sl1 | exact .there sl2 | exact .there sl3 | exact .there sl4 | exact .there sl5 | exact .there sl6 | exact .there sl7 | exact .there sl8 | exact .there sl9 | exact .there sl10 | exact .there sl11 | exact .there sl12) ?_; rfl), (by refine Ok.cellS h (by with_reducible first | exact sl0 | exact .there sl0 | exact .there sl1 | exact .there sl2 | exact .there sl3 | exact .there sl4 | exact .there sl5 | exact .there sl6 | exact .there sl7 | exact .there sl8 | exact .there sl9 | exact .there sl10 | exact .there sl11 | exact .there sl12) ?_; rfl)⟩, ?_⟩)
    (repeat (first | with_reducible refine dr.mk h fun _ h => ?_ | with_reducible refine nn.mk ?_ | ((first | with_reducible apply ldI.mk | with_reducible apply ldB.mk | with_reducible apply ldP.mk | with_reducible apply ldS.mk | with_reducible apply ldM.mk | with_reducible apply ldF.mk | with_reducible apply ldG.mk); (· exact (by refine Ok.cellS h (by with_reducible first | exact sl0 | exact .there sl0 | exact .there sl1 | exact .there sl2 | exact .there sl3 | exact .there sl4 | exact .there sl5 | exact .there sl6 | exact .there sl7 | exact .there sl8 | exact .there sl9 | exact .there sl10 | exact .there sl11 | exact .there sl12) ?_; rfl))) | (refine st1.mk (Ok.bring h (by with_reducible first | exact sl0 | exact .there sl0 | exact .there sl1 | exact .there sl2 | exact .there sl3 | exact .there sl4 | exact .there sl5 | exact .there sl6 | exact .there sl7 | exact .there sl8 | exact .there sl9 | exact .there sl10 | exact .there sl11 | exact .there sl12)) (by simp) fun _ h => ?_; dsimp only [List.set] at h)))
    have h := rbI (q := ⟨q.M, q.S, (addL false q.R t pri).2, q.s⟩) ⟨h1.w, h1.s⟩ (Ok.emb (h) (.cons (A := pts b _) (by with_reducible first | exact sl0 | exact .there sl0 | exact .there sl1 | exact .there sl2 | exact .there sl3 | exact .there sl4 | exact .there sl5 | exact .there sl6 | exact .there sl7 | exact .there sl8 | exact .there sl9 | exact .there sl10 | exact .there sl11 | exact .there sl12) (.cons (A := rr6P g _ _) (by with_reducible first | exact sl0 | exact .there sl0 | exact .there sl1 | exact .there sl2 | exact .there sl3 | exact .there sl4 | exact .there sl5 | exact .there sl6 | exact .there sl7 | exact .there sl8 | exact .there sl9 | exact .there sl10 | exact .there sl11 | exact .there sl12) (.cons (A := refP ps _ _) (by with_reducible first | exact sl0 | exact .there sl0 | exact .there sl1 | exact .there sl2 | exact .there sl3 | exact .there sl4 | exact .there sl5 | exact .there sl6 | exact .there sl7 | exact .there sl8 | exact .there sl9 | exact .there sl10 | exact .there sl11 | exact .there sl12) (.cons (A := refP pr _ _) (by with_reducible first | exact sl0 | exact .there sl0 | exact .there sl1 | exact .there sl2 | exact .there sl3 | exact .there sl4 | exact .there sl5 | exact .there sl6 | exact .there sl7 | exact .there sl8 | exact .there sl9 | exact .there sl10 | exact .there sl11 | exact .there sl12) (.same _))))))
    exact k u _ hu ((Ok.emb (h) (.cons (A := pts c _) (by with_reducible first | exact sl0 | exact .there sl0 | exact .there sl1 | exact .there sl2 | exact .there sl3 | exact .there sl4 | exact .there sl5 | exact .there sl6 | exact .there sl7 | exact .there sl8 | exact .there sl9 | exact .there sl10 | exact .there sl11 | exact .there sl12) (.cons (A := pts c2 _) (by with_reducible first | exact sl0 | exact .there sl0 | exact .there sl1 | exact .there sl2 | exact .there sl3 | exact .there sl4 | exact .there sl5 | exact .there sl6 | exact .there sl7 | exact .there sl8 | exact .there sl9 | exact .there sl10 | exact .there sl11 | exact .there sl12) (.cons (A := slc 1 u _) (by with_reducible first | exact sl0 | exact .there sl0 | exact .there sl1 | exact .there sl2 | exact .there sl3 | exact .there sl4 | exact .there sl5 | exact .there sl6 | exact .there sl7 | exact .there sl8 | exact .there sl9 | exact .there sl10 | exact .there sl11 | exact .there sl12) (.cons (A := rbP b _ _ _ _) (by with_reducible first | exact sl0 | exact .there sl0 | exact .there sl1 | exact .there sl2 | exact .there sl3 | exact .there sl4 | exact .there sl5 | exact .there sl6 | exact .there sl7 | exact .there sl8 | exact .there sl9 | exact .there sl10 | exact .there sl11 | exact .there sl12) (.same _))))))).drop.drop

theorem Drop_ref16 {e w L b byPri most z q t R} (h : Ok e (rbP b byPri most z q :: L) w) (ho : BBo z q)
    (k : ∀ u w', u.len = (q.drop z t).1.length → Ok e (slc 1 u (ints (q.drop z t).1) :: rbP b byPri most z (q.drop z t).2 :: L) w' → R [vS u] w') : sh26 (some ⟨b, 0, none⟩) t R w := by
  unfold sh26
  rw [drop_eq ho] at k
  have l1 := okL_len ho.s
  have l2 := okL_len ho.r
  obtain ⟨g, ps, pr, W, h1, h⟩ := rbE h
  refine nn.mk (ldP.mk (by refine Ok.cellS h (by with_reducible first | exact sl0 | exact .there sl0 | exact .there sl1 | exact .there sl2 | exact .there sl3 | exact .there sl4 | exact .there sl5 | exact .there sl6 | exact .there sl7 | exact .there sl8 | exact .there sl9 | exact .there sl10 | exact .there sl11 | exact .there sl12) ?_; rfl) ?_)
  refine call54 (Remove_ref4 (Ok.emb (h) (.cons (A := refP ps _ _) (by with_reducible first | exact sl0 | exact .there sl0 | exact .there sl1 | exact .there sl2 | exact .there sl3 | exact .there sl4 | exact .there sl5 | exact .there sl6 | exact .there sl7 | exact .there sl8 | exact .there sl9 | exact .there sl10 | exact .there sl11 | exact .there sl12) (.same _))) (by omega) fun w2 h => ⟨(decide (0 ≤ atI q.S t), ()), rfl, ?_⟩)
  dsimp only
  by_cases hs : 0 ≤ atI q.S t
  · rw [if_pos hs] at k
    refine jn.bool true (fun J hJ => cs.yes (decide_eq_true hs) hJ) (cs.yes rfl ?_)
    have h := rbI (q := ⟨q.M, rmL q.S t, q.R, q.s⟩) ⟨h1.w, fun i hi => h1.s i (((rmL_sub q.S t).map Prod.fst).subset hi)⟩ (Ok.emb (h) (.cons (A := pts b _) (by with_reducible first | exact sl0 | exact .there sl0 | exact .there sl1 | exact .there sl2 | exact .there sl3 | exact .there sl4 | exact .there sl5 | exact .there sl6 | exact .there sl7 | exact .there sl8 | exact .there sl9 | exact .there sl10 | exact .there sl11 | exact .there sl12) (.cons (A := rr6P g _ _) (by with_reducible first | exact sl0 | exact .there sl0 | exact .there sl1 | exact .there sl2 | exact .there sl3 | exact .there sl4 | exact .there sl5 | exact .there sl6 | exact .there sl7 | exact .there sl8 | exact .there sl9 | exact .there sl10 | exact .there sl11 | exact .there sl12) (.cons (A := refP ps _ _) (by with_reducible first | exact sl0 | exact .there sl0 | exact .there sl1 | exact .there sl2 | exact .there sl3 | exact .there sl4 | exact .there sl5 | exact .there sl6 | exact .there sl7 | exact .there sl8 | exact .there sl9 | exact .there sl10 | exact .there sl11 | exact .there sl12) (.cons (A := refP pr _ _) (by with_reducible first | exact sl0 | exact .there sl0 | exact .there sl1 | exact .there sl2 | exact .there sl3 | exact .there sl4 | exact .there sl5 | exact .there sl6 | exact .there sl7 | exact .there sl8 | exact .there sl9 | exact .there sl10 | exact .there sl11 | exact .there sl12) (.same _))))))
    exact call52 (fill_ref16 h (rmS_ok ho) fun u w5 hu h => ⟨(u, ()), rfl, k u w5 hu h⟩)
  rw [if_neg hs] at k
  rw [rmL_none (by omega)] at h
  refine jn.at (decide (0 ≤ atI q.R t), ()) (fun w' => Ok e (rbP b byPri most z ⟨q.M, q.S, rmL q.R t, q.s⟩ :: L) w') (fun J hJ => cs.no (decide_eq_false hs) ?_) (fun w3 h => ?_)
  · refine nn.mk (ldP.mk (by refine Ok.cellS h (by with_reducible first | exact sl0 | exact .there sl0 | exact .there sl1 | exact .there sl2 | exact .there sl3 | exact .there sl4 | exact .there sl5 | exact .there sl6 | exact .there sl7 | exact .there sl8 | exact .there sl9 | exact .there sl10 | exact .there sl11 | exact .there sl12) ?_; rfl) ?_)
    refine call54 (Remove_ref4 (Ok.emb (h) (.cons (A := refP pr _ _) (by with_reducible first | exact sl0 | exact .there sl0 | exact .there sl1 | exact .there sl2 | exact .there sl3 | exact .there sl4 | exact .there sl5 | exact .there sl6 | exact .there sl7 | exact .there sl8 | exact .there sl9 | exact .there sl10 | exact .there sl11 | exact .there sl12) (.same _))) (by omega) fun w3 h => ⟨(decide (0 ≤ atI q.R t), ()), rfl, ?_⟩)
    exact hJ _ (rbI (q := ⟨q.M, q.S, rmL q.R t, q.s⟩) ⟨h1.w, h1.s⟩ (Ok.emb (h) (.cons (A := pts b _) (by with_reducible first | exact sl0 | exact .there sl0 | exact .there sl1 | exact .there sl2 | exact .there sl3 | exact .there sl4 | exact .there sl5 | exact .there sl6 | exact .there sl7 | exact .there sl8 | exact .there sl9 | exact .there sl10 | exact .there sl11 | exact .there sl12) (.cons (A := rr6P g _ _) (by with_reducible first | exact sl0 | exact .there sl0 | exact .there sl1 | exact .there sl2 | exact .there sl3 | exact .there sl4 | exact .there sl5 | exact .there sl6 | exact .there sl7 | exact .there sl8 | exact .there sl9 | exact .there sl10 | exact .there sl11 | exact .there sl12) (.cons (A := refP ps _ _) (by with_reducible first | exact sl0 | exact .there sl0 | exact .there sl1 | exact .there sl2 | exact .there sl3 | exact .there sl4 | exact .there sl5 | exact .there sl6 | exact .there sl7 | exact .there sl8 | exact .there sl9 | exact .there sl10 | exact .there sl11 | exact .there sl12) (.cons (A := refP pr _ _) (by with_reducible first | exact sl0 | exact .there sl0 | exact .there sl1 | exact .there sl2 | exact .there sl3 | exact .there sl4 | exact .there sl5 | exact .there sl6 | exact .there sl7 | exact .there sl8 | exact .there sl9 | exact .there sl10 | exact .there sl11 | exact .there sl12) (.same _)))))))
  by_cases hr : 0 ≤ atI q.R t
  · rw [if_pos hr] at k
    refine cs.yes (decide_eq_true hr) ?_
    exact call52 (fill_ref16 h (rmR_ok ho) fun u w5 hu h => ⟨(u, ()), rfl, k u w5 hu h⟩)
  · rw [if_neg hr] at k
    refine cs.no (decide_eq_false hr) ?_
    rw [rmL_none (by omega)] at h
    exact k ⟨none, 0, 0⟩ _ rfl (h.slcNil 1)

theorem Change_ref16 {e w L b byPri most z q t pri R} (h : Ok e (rbP b byPri most z q :: L) w) (ho : BBo z q)
    (k : ∀ u w', u.len = (q.change z byPri t pri).1.1.length → Ok e (slc 1 u (ints (q.change z byPri t pri).1.1) :: rbP b byPri most z (q.change z byPri t pri).2 :: L) w' → R [vS u, .bool (q.change z byPri t pri).1.2] w') : sh28 (some ⟨b, 0, none⟩) t pri R w := by
  unfold sh28
  rw [change_eq ho] at k
  have l1 := okL_len ho.s
  have l2 := okL_len ho.r
  obtain ⟨g, ps, pr, W, h1, h⟩ := rbE h
  refine nn.mk (ldP.mk (by refine Ok.cellS h (by with_reducible first | exact sl0 | exact .there sl0 | exact .there sl1 | exact .there sl2 | exact .there sl3 | exact .there sl4 | exact .there sl5 | exact .there sl6 | exact .there sl7 | exact .there sl8 | exact .there sl9 | exact .there sl10 | exact .there sl11 | exact .there sl12) ?_; rfl) ?_)
  refine call56 (Change_ref4 (Ok.emb (h) (.cons (A := refP ps _ _) (by with_reducible first | exact sl0 | exact .there sl0 | exact .there sl1 | exact .there sl2 | exact .there sl3 | exact .there sl4 | exact .there sl5 | exact .there sl6 | exact .there sl7 | exact .there sl8 | exact .there sl9 | exact .there sl10 | exact .there sl11 | exact .there sl12) (.same _))) (by omega) fun w2 h => ⟨((chgL byPri q.S t pri).1, ()), rfl, ?_⟩)
  dsimp only
  cases hc : (chgL byPri q.S t pri).1 with
  | true =>
    rw [if_pos hc] at k
    refine jn.bool true (fun J hJ => cs.yes rfl hJ) (cs.yes rfl ?_)
    have h := rbI (q := ⟨q.M, (chgL byPri q.S t pri).2, q.R, q.s⟩) ⟨h1.w, fun i hi => h1.s i (chgL_ids.mem_iff.1 hi)⟩ (Ok.emb (h) (.cons (A := pts b _) (by with_reducible first | exact sl0 | exact .there sl0 | exact .there sl1 | exact .there sl2 | exact .there sl3 | exact .there sl4 | exact .there sl5 | exact .there sl6 | exact .there sl7 | exact .there sl8 | exact .there sl9 | exact .there sl10 | exact .there sl11 | exact .there sl12) (.cons (A := rr6P g _ _) (by with_reducible first | exact sl0 | exact .there sl0 | exact .there sl1 | exact .there sl2 | exact .there sl3 | exact .there sl4 | exact .there sl5 | exact .there sl6 | exact .there sl7 | exact .there sl8 | exact .there sl9 | exact .there sl10 | exact .there sl11 | exact .there sl12) (.cons (A := refP ps _ _) (by with_reducible first | exact sl0 | exact .there sl0 | exact .there sl1 | exact .there sl2 | exact .there sl3 | exact .there sl4 | exact .there sl5 | exact .there sl6 | exact .there sl7 | exact .there sl8 | exact .there sl9 | exact .there sl10 | exact .there sl11 | exact .there sl12) (.cons (A := refP pr _ _) (by with_reducible first | exact sl0 | exact .there sl0 | exact .there sl1 | exact .there sl2 | exact .there sl3 | exact .there sl4 | exact .there sl5 | exact .there sl6 | exact .there sl7 | exact .there sl8 | exact .there sl9 | exact .there sl10 | exact .there sl11 | exact .there sl12) (.same _))))))
    exact call52 (fill_ref16 h (chgS_ok ho) fun u w5 hu h => ⟨(u, ()), rfl, k u w5 hu h⟩)
  | false =>
    rw [if_neg (by rw [hc]; simp)] at k
    rw [chgL_no hc] at h
    refine jn.at ((chgL false q.R t pri).1, ()) (fun w' => Ok e (rbP b byPri most z ⟨q.M, q.S, (chgL false q.R t pri).2, q.s⟩ :: L) w') (fun J hJ => cs.no rfl ?_) (fun w3 h => ?_)
    · refine nn.mk (ldP.mk (by refine Ok.cellS h (by with_reducible first | exact sl0 | exact .there sl0 | exact .there sl1 | exact .there sl2 | exact .there sl3 | exact .there sl4 | exact .there sl5 | exact .there sl6 | exact .there sl7 | exact .there sl8 | exact .there sl9 | exact .there sl10 | exact .there sl11 | exact .there sl12) ?_; rfl) ?_)
      refine call56 (Change_ref4 (Ok.emb (h) (.cons (A := refP pr _ _) (by with_reducible first | exact sl0 | exact .there sl0 | exact .there sl1 | exact .there sl2 | exact .there sl3 | exact .there sl4 | exact .there sl5 | exact .there sl6 | exact .there sl7 | exact .there sl8 | exact .there sl9 | exact .there sl10 | exact .there sl11 | exact .there sl12) (.same _))) (by omega) fun w2 h => ⟨((chgL false q.R t pri).1, ()), rfl, ?_⟩)
      exact hJ _ (rbI (q := ⟨q.M, q.S, (chgL false q.R t pri).2, q.s⟩) ⟨h1.w, h1.s⟩ (Ok.emb (h) (.cons (A := pts b _) (by with_reducible first | exact sl0 | exact .there sl0 | exact .there sl1 | exact .there sl2 | exact .there sl3 | exact .there sl4 | exact .there sl5 | exact .there sl6 | exact .there sl7 | exact .there sl8 | exact .there sl9 | exact .there sl10 | exact .there sl11 | exact .there sl12) (.cons (A := rr6P g _ _) (by with_reducible first | exact sl0 | exact .there sl0 | exact .there sl1 | exact .there sl2 | exact .there sl3 | exact .there sl4 | exact .there sl5 | exact .there sl6 | exact .there sl7 | exact .there sl8 | exact .there sl9 | exact .there sl10 | exact .there sl11 | exact .there sl12) (.cons (A := refP ps _ _) (by with_reducible first | exact sl0 | exact .there sl0 | exact .there sl1 | exact .there sl2 | exact .there sl3 | exact .there sl4 | exact .there sl5 | exact .there sl6 | exact .there sl7 | exact .there sl8 | exact .there sl9 | exact .there sl10 | exact .there sl11 | exact .there sl12) (.cons (A := refP pr _ _) (by with_reducible first | exact sl0 | exact .there sl0 | exact .there sl1 | exact .there sl2 | exact .there sl3 | exact .there sl4 | exact .there sl5 | exact .there sl6 | exact .there sl7 | exact .there sl8 | exact .there sl9 | exact .there sl10 | exact .there sl11 | exact .there sl12) (.same _)))))))
    have ho2 : BBo z ⟨q.M, q.S, (chgL false q.R t pri).2, q.s⟩ := ⟨ho.zb, ho.sz, ho.ml, ho.s, okL_chg ho.r, ho.sl, ho.or.imp chgL_nil id⟩
    cases hr : (chgL false q.R t pri).1 with
    | true =>
      rw [if_pos hr] at k
      refine cs.yes rfl ?_
      exact call52 (fill_ref16 h ho2 fun u w5 hu h => ⟨(u, ()), rfl, k u w5 hu h⟩)
    | false =>
      rw [if_neg (by rw [hr]; simp)] at k
      rw [chgL_no hr] at h
      exact cs.no rfl (k ⟨none, 0, 0⟩ _ rfl (h.slcNil 1))

end Go.Proofs.Ytjamgdepbjipdaa.B
