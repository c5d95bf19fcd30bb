/- Texts of ours, joined: Grp7. -/
import Derived.Test.YtenonfkfoedfmaaGreatDoorJTopA7
import Derived.Test.YtenonfkfoedfmaaGreatDoorJTopAG1
set_option linter.unusedSimpArgs false
set_option linter.unusedVariables false
/- Sleeps and wakeups. -/
namespace Go.Proofs.YtenonfkfoedfmaaGreatDoor.B
open Go
set_option linter.unusedVariables false

theorem sleep_kern {e w L k A K r R} (h : Ok e (kerP k A K :: L) w) (hw : K.who ≠ 0) (hm : KM.cSlp K = some r) (kk : ∀ w', Ok e (kerP k A r.2 :: L) w' → R [.agg #[.int .i64 r.1.1, .int .i64 r.1.2]] w') : sh135 (some ⟨k, 0, none⟩) (-1) R w := by
  unfold KM.cSlp at hm
  rw [if_neg hw] at hm
  obtain ⟨u, hu, hm⟩ := Option.bind_eq_some_iff.1 hm
  split at hm
  · cases hm
  next hb =>
  have hb := Classical.not_not.1 hb
  unfold sh135
  refine al.mk h fun d w1 h => dr.mk h fun w2 h => ?_
  obtain ⟨t, H, ho, h, back, read⟩ := ker_un h.p1 hu
  refine nn.mk (ldS.mk (h.cell rfl) (nn.mk (ldI.mk (h.cell rfl) (read e _ w2 _ ((Ok.emb (h) (.cons (A := H) (by with_reducible first | exact sl0 | exact .there sl0 | exact .there sl1 | exact .there sl2 | exact .there sl3 | exact .there sl4 | exact .there sl5 | exact .there sl6 | exact .there sl7 | exact .there sl8 | exact .there sl9 | exact .there sl10 | exact .there sl11 | exact .there sl12) (.same _)))) fun b2 o2 hc => ldP.mk hc (nn.mk (ldP.mk (h.p1.cell rfl) (nn.mk (ldI.mk (by refine Ok.cellS h (by with_reducible first | exact sl0 | exact .there sl0 | exact .there sl1 | exact .there sl2 | exact .there sl3 | exact .there sl4 | exact .there sl5 | exact .there sl6 | exact .there sl7 | exact .there sl8 | exact .there sl9 | exact .there sl10 | exact .there sl11 | exact .there sl12) ?_; rfl) ?_))))))))
  refine jn.bool false (fun J hJ => cs.mk (fun _ => hJ) (fun _ => hJ)) (cs.no rfl (nn.mk (ldP.mk (h.p1.cell rfl) ?_)))
  refine call204 (Sleep_tcb ((Ok.emb (h) (.cons (A := pts t (tcC u)) (by with_reducible first | exact sl0 | exact .there sl0 | exact .there sl1 | exact .there sl2 | exact .there sl3 | exact .there sl4 | exact .there sl5 | exact .there sl6 | exact .there sl7 | exact .there sl8 | exact .there sl9 | exact .there sl10 | exact .there sl11 | exact .there sl12) (.same _)))) ⟨hb.1, by omega⟩ (fun h1 w3 h => ⟨(false, (-41 : Int), ()), rfl, cs.yes rfl ?_⟩) (fun h1 h2 w3 h => ⟨(false, (0 : Int), ()), rfl, cs.yes rfl ?_⟩) (fun h1 h2 w3 h => ⟨(true, (0 : Int), ()), rfl, cs.no rfl ?_⟩))
  · rw [if_pos h1] at hm
    cases hm
    have h := back K u e (pts d [.int .i64 0, .int .i64 0] :: L) w3 ho rfl (h.emb (by repeat' (first | with_reducible exact Emb.same _ | exact Emb.nil _ | refine Emb.cons (by with_reducible first | exact sl0 | exact .there sl0 | exact .there sl1 | exact .there sl2 | exact .there sl3 | exact .there sl4 | exact .there sl5 | exact .there sl6 | exact .there sl7 | exact .there sl8 | exact .there sl9 | exact .there sl10 | exact .there sl11 | exact .there sl12) ?_ | refine Emb.skip ?_)))
    rw [setU_same hu] at h
    exact fin_code h.p1 fun w4 h => kk w4 h
  · rw [if_neg (fun hx => hx h1), if_pos h2] at hm
    cases hm
    have h := back K { u with wups := u.wups - 1 } e (pts d [.int .i64 0, .int .i64 0] :: L) w3 ho rfl (h.emb (by repeat' (first | with_reducible exact Emb.same _ | exact Emb.nil _ | refine Emb.cons (by with_reducible first | exact sl0 | exact .there sl0 | exact .there sl1 | exact .there sl2 | exact .there sl3 | exact .there sl4 | exact .there sl5 | exact .there sl6 | exact .there sl7 | exact .there sl8 | exact .there sl9 | exact .there sl10 | exact .there sl11 | exact .there sl12) ?_ | refine Emb.skip ?_)))
    exact fin_code h.p1 fun w4 h => kk w4 h
  · rw [if_neg (fun hx => hx h1), if_neg h2] at hm
    obtain ⟨K', hK, rfl⟩ := Option.map_eq_some_iff.1 hm
    have h := back K { u with state := 4, asleep := true } e (pts d [.int .i64 0, .int .i64 0] :: L) w3 ho rfl (h.emb (by repeat' (first | with_reducible exact Emb.same _ | exact Emb.nil _ | refine Emb.cons (by with_reducible first | exact sl0 | exact .there sl0 | exact .there sl1 | exact .there sl2 | exact .there sl3 | exact .there sl4 | exact .there sl5 | exact .there sl6 | exact .there sl7 | exact .there sl8 | exact .there sl9 | exact .there sl10 | exact .there sl11 | exact .there sl12) ?_ | refine Emb.skip ?_)))
    exact call138 (stay_kern h hK fun w4 h => ⟨(((1 : Int), (0 : Int), ()), ()), rfl, fin_res h.p1 fun w5 h => kk w5 h⟩)

theorem tasks_12 {e k A K r x0 x1 x2 x3} (hm : KM.cSlp K = some r) : GrpC e k A K r (sh79 (some ⟨k, 0, none⟩) (((12 : Nat) : Int), x0, x1, x2, x3, ())) := by
  intro L w R h kk
  refine tasks_pre h (n := 12) rfl (by decide) (by decide) (by decide) (by decide) (fun hz w' h => ?_) (fun hz b d w' h => ?_)
  · unfold KM.cSlp at hm
    rw [if_pos (show K.who = 0 from hz)] at hm
    cases hm
    exact kk w' h
  · unfold tasksR
    refine ldI.mk (h.p1.cell rfl) ?_
    (repeat (first | ((with_reducible refine cs.yes ?_ ?_); · rfl) | ((with_reducible refine cs.no ?_ ?_); · rfl) | refine jn.mk fun J hJ => ?_ | with_reducible apply_assumption -exfalso -symm))
    refine call135 (sleep_kern (h.p2) hz hm fun w3 h => ⟨((r.1.1, r.1.2, ()), ()), rfl, ?_⟩)
    exact fin_res h.p1 fun w4 h => kk w4 h.p1.drop

theorem one_15 {e k A K v u r x0 x1 x2 x3} (hu : K.un v = some u) (hm : K.wup v = some r) :
    OneC e k A K v r fun a => sh140 (some ⟨k, 0, none⟩) (((15 : Nat) : Int), x0, x1, x2, x3, ()) v a := by
  intro L w R t h hc kk
  obtain ⟨H, ho, h, back⟩ := open_t h hu hc
  unfold KM.wup at hm
  rw [hu, Option.bind_some] at hm
  split at hm
  · cases hm
  next hb =>
  have hb := Classical.not_not.1 hb
  unfold sh140
  refine al.mk h fun b5 w3 h => al.mk h fun d5 w4 h => ldI.mk (h.p1.cell rfl) ?_
  (repeat (first | ((with_reducible refine cs.yes ?_ ?_); · rfl) | ((with_reducible refine cs.no ?_ ?_); · rfl) | refine jn.mk fun J hJ => ?_ | with_reducible apply_assumption -exfalso -symm))
  have fin : ∀ u' w', Ok e (pts t (tcC u') :: pts d5 [.int .i64 0, .int .i64 0] :: pts b5 [.int .i64 ((15 : Nat) : Int), .int .i64 x0, .int .i64 x1, .int .i64 x2, .int .i64 x3] :: pts k (kC A K) :: pts (A.ub (v - 1).toNat) (unC t u) :: H :: kR A K (old e :: L)) w' → unC t u' = unC t u →
      Ok e (kerP k A (K.setU v u') :: pts d5 [.int .i64 0, .int .i64 0] :: pts b5 [.int .i64 ((15 : Nat) : Int), .int .i64 x0, .int .i64 x1, .int .i64 x2, .int .i64 x3] :: old e :: L) w' := fun u' w' h hx => by
    rw [← hx] at h
    exact back K u' e _ w' ho rfl (h.emb (by repeat' (first | with_reducible exact Emb.same _ | exact Emb.nil _ | refine Emb.cons (by with_reducible first | exact sl0 | exact .there sl0 | exact .there sl1 | exact .there sl2 | exact .there sl3 | exact .there sl4 | exact .there sl5 | exact .there sl6 | exact .there sl7 | exact .there sl8 | exact .there sl9 | exact .there sl10 | exact .there sl11 | exact .there sl12) ?_ | refine Emb.skip ?_)))
  refine call209 (Wake_tcb ((Ok.emb (h) (.cons (A := pts t (tcC u)) (by with_reducible first | exact sl0 | exact .there sl0 | exact .there sl1 | exact .there sl2 | exact .there sl3 | exact .there sl4 | exact .there sl5 | exact .there sl6 | exact .there sl7 | exact .there sl8 | exact .there sl9 | exact .there sl10 | exact .there sl11 | exact .there sl12) (.cons (A := pts d5 [.int .i64 0, .int .i64 0]) (by with_reducible first | exact sl0 | exact .there sl0 | exact .there sl1 | exact .there sl2 | exact .there sl3 | exact .there sl4 | exact .there sl5 | exact .there sl6 | exact .there sl7 | exact .there sl8 | exact .there sl9 | exact .there sl10 | exact .there sl11 | exact .there sl12) (.cons (A := pts b5 [.int .i64 ((15 : Nat) : Int), .int .i64 x0, .int .i64 x1, .int .i64 x2, .int .i64 x3]) (by with_reducible first | exact sl0 | exact .there sl0 | exact .there sl1 | exact .there sl2 | exact .there sl3 | exact .there sl4 | exact .there sl5 | exact .there sl6 | exact .there sl7 | exact .there sl8 | exact .there sl9 | exact .there sl10 | exact .there sl11 | exact .there sl12) (.same _)))))) hb.1 (fun h1 w3 h => ⟨(false, (-41 : Int), ()), rfl, ?_⟩) (fun h1 h2 w3 h => ⟨(true, (0 : Int), ()), rfl, ?_⟩) (fun h1 h2 h3 w3 h => ⟨(false, (-43 : Int), ()), rfl, ?_⟩) (fun h1 h2 h3 w3 h => ⟨(false, (0 : Int), ()), rfl, ?_⟩))
  · rw [if_pos h1] at hm
    cases hm
    have h := fin u w3 h rfl
    rw [setU_same hu] at h
    exact jn.mk fun J hJ => cs.no rfl (hJ _ _ (fin_code h.p1 fun w4 h => kk w4 h.p1.drop))
  · rw [if_neg h1, if_pos h2] at hm
    obtain ⟨K', hK, rfl⟩ := Option.map_eq_some_iff.1 hm
    have h := fin u.release w3 h (by unfold Un.release; (repeat (first | rfl | split)))
    refine jn.mk fun J hJ => cs.yes rfl (call116 (a2 := ((0 : Int), (0 : Int), ())) (told_kern h hK fun w4 h => ⟨(), rfl, hJ _ _ (fin_code h.p1 fun w5 h => kk w5 h.p1.drop)⟩))
  · rw [if_neg h1, if_neg (by rw [h2]; decide), if_pos h3] at hm
    cases hm
    have h := fin u w3 h rfl
    rw [setU_same hu] at h
    exact jn.mk fun J hJ => cs.no rfl (hJ _ _ (fin_code h.p1 fun w4 h => kk w4 h.p1.drop))
  · rw [if_neg h1, if_neg (by rw [h2]; decide), if_neg h3] at hm
    cases hm
    have h := fin { u with wups := u.wups + 1 } w3 h rfl
    exact jn.mk fun J hJ => cs.no rfl (hJ _ _ (fin_code h.p1 fun w4 h => kk w4 h.p1.drop))

theorem tasks_15 {e k A K r x0 x1 x2 x3} (hm : KM.cIwup x0 K = some r) : GrpC e k A K r (sh79 (some ⟨k, 0, none⟩) (((15 : Nat) : Int), x0, x1, x2, x3, ())) := by
  intro L w R h kk
  unfold KM.cIwup KM.byTask at hm
  refine tasks_pre h (n := 15) rfl (by decide) (by decide) (by decide) (by decide) (fun hz w' h => ?_) (fun hz b d w' h => ?_)
  · rw [if_pos (show K.named x0 false = 0 from hz)] at hm
    cases hm
    exact kk w' h
  · rw [if_neg (show ¬ K.named x0 false = 0 from hz)] at hm
    have hv : nmd K 15 3 x0 = K.named x0 false := rfl
    rw [hv]
    generalize K.named x0 false = v at hm
    obtain ⟨u, hu, -⟩ := Option.bind_eq_some_iff.1 hm
    unfold tasksR
    refine ldI.mk (h.p1.cell rfl) ?_
    (repeat (first | ((with_reducible refine cs.yes ?_ ?_); · rfl) | ((with_reducible refine cs.no ?_ ?_); · rfl) | refine jn.mk fun J hJ => ?_ | with_reducible apply_assumption -exfalso -symm))
    exact one_pre h hu (one_15 hu hm) kk

theorem do_12 {e} (tb : TabE e) : DoC e 12 2 fun _ _ => KM.cSlp := by
  intro k A K r L w x0 x1 x2 x3 R h hm kk
  exact Do_kern (n := 12) tb rfl (by decide) h hm (fun r hr => .inl ⟨by decide, tasks_12 hr⟩) kk

theorem do_15 {e} (tb : TabE e) : DoC e 15 3 fun x0 _ => KM.cIwup x0 := by
  intro k A K r L w x0 x1 x2 x3 R h hm kk
  exact Do_kern (n := 15) tb rfl (by decide) h hm (fun r hr => .inl ⟨by decide, tasks_15 hr⟩) kk

end Go.Proofs.YtenonfkfoedfmaaGreatDoor.B

