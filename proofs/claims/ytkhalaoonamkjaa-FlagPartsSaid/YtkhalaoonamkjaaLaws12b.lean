/- Laws of layer 12: all of the bits or one; one that waits alone; bits that are lowered. -/
import Derived.Test.YtkhalaoonamkjaaLaws12
import Derived.Test.YtkhalaoonamkjaaBits32
namespace Go.Proofs.Ytkhalaoonamkjaa.B
open Go
set_option linter.unusedVariables false

theorem Jb {J : Bool × Unit → World → Prop} {w : World} {c d : Bool} (h : J (d, ()) w) (e : c = d) : J (c, ()) w := by rw [e]; exact h

theorem poll_plain {bits want mode : Int} {g} (hw : want ≠ 0) (hm : mode = 0 ∨ mode = 1) : FQ.poll true false ⟨[], bits, g⟩ want mode = ((if metB bits (want, mode) then bits else 0, metB bits (want, mode), 0), ⟨[], bits, g⟩) := by
  unfold FQ.poll
  rw [if_neg (by omega), if_neg (by simp)]
  cases h : metB bits (want, mode) with
  | true => rfl
  | false => rfl

theorem FlagMeets_walk {e : World} {a0 a1 : Int} (w0 : (Lit.int .u32 a0).wf = true) (w1 : (Lit.int .u32 a1).wf = true) : sh4 a0 a1 (LawEnd e) e := by
  unfold sh4
  refine call9 (known_12 (Ok.start e) fun w1 h => ⟨(true, ()), enc_b rfl, ?_⟩)
  refine cs.no rfl ?_
  refine call10 (New_flag h fun b w2 h => ⟨(some ⟨b, 0, none⟩, ()), rfl, ?_⟩)
  have ho := fqNew_ok a0
  by_cases hz : a1 = 0
  · subst hz
    have hp : ∀ mode, FQ.poll true false (fqNew a0) 0 mode = ((0, false, -17), fqNew a0) := fun mode => by unfold FQ.poll; rw [if_pos (.inl rfl)]
    refine call15 (Poll_flag h ho fun w3 h => ⟨((0 : Int), false, (-17 : Int), ()), by rw [hp]; rfl, ?_⟩)
    rw [hp] at h
    refine call15 (Poll_flag h ho fun w3 h => ⟨((0 : Int), false, (-17 : Int), ()), by rw [hp]; rfl, ?_⟩)
    rw [hp] at h
    refine cs.yes rfl ?_
    dsimp only
    refine jn.bool true (fun J hJ => cs.yes (by first | rfl | simp) (by (repeat (first | with_reducible refine dr.mk h fun _ h => ?_ | with_reducible refine nn.mk ?_ | ((first | with_reducible apply ldI.mk | with_reducible apply ldB.mk | with_reducible apply ldP.mk | with_reducible apply ldS.mk | with_reducible apply ldM.mk | with_reducible apply ldF.mk | with_reducible apply ldG.mk); (· exact (by refine Ok.cellS h (by with_reducible first | exact sl0 | exact .there sl0 | exact .there sl1 | exact .there sl2 | exact .there sl3 | exact .there sl4 | exact .there sl5 | exact .there sl6 | exact .there sl7 | exact .there sl8 | exact .there sl9 | exact .there sl10 | exact .there sl11 | exact .there sl12) ?_; rfl))) | (refine st1.mk (Ok.bring h (by with_reducible first | exact sl0 | exact .there sl0 | exact .there sl1 | exact .there sl2 | exact .there sl3 | exact .there sl4 | exact .there sl5 | exact .there sl6 | exact .there sl7 | exact .there sl8 | exact .there sl9 | exact .there sl10 | exact .there sl11 | exact .there sl12)) (by simp) fun _ h => ?_; dsimp only [List.set] at h))); exact hJ)) ?_
    refine jn.bool true (fun J hJ => cs.yes (by first | rfl | simp) (by (repeat (first | with_reducible refine dr.mk h fun _ h => ?_ | with_reducible refine nn.mk ?_ | ((first | with_reducible apply ldI.mk | with_reducible apply ldB.mk | with_reducible apply ldP.mk | with_reducible apply ldS.mk | with_reducible apply ldM.mk | with_reducible apply ldF.mk | with_reducible apply ldG.mk); (· exact (by refine Ok.cellS h (by with_reducible first | exact sl0 | exact .there sl0 | exact .there sl1 | exact .there sl2 | exact .there sl3 | exact .there sl4 | exact .there sl5 | exact .there sl6 | exact .there sl7 | exact .there sl8 | exact .there sl9 | exact .there sl10 | exact .there sl11 | exact .there sl12) ?_; rfl))) | (refine st1.mk (Ok.bring h (by with_reducible first | exact sl0 | exact .there sl0 | exact .there sl1 | exact .there sl2 | exact .there sl3 | exact .there sl4 | exact .there sl5 | exact .there sl6 | exact .there sl7 | exact .there sl8 | exact .there sl9 | exact .there sl10 | exact .there sl11 | exact .there sl12)) (by simp) fun _ h => ?_; dsimp only [List.set] at h))); exact hJ)) ?_
    refine jn.bool true (fun J hJ => cs.yes (by first | rfl | simp) (by (repeat (first | with_reducible refine dr.mk h fun _ h => ?_ | with_reducible refine nn.mk ?_ | ((first | with_reducible apply ldI.mk | with_reducible apply ldB.mk | with_reducible apply ldP.mk | with_reducible apply ldS.mk | with_reducible apply ldM.mk | with_reducible apply ldF.mk | with_reducible apply ldG.mk); (· exact (by refine Ok.cellS h (by with_reducible first | exact sl0 | exact .there sl0 | exact .there sl1 | exact .there sl2 | exact .there sl3 | exact .there sl4 | exact .there sl5 | exact .there sl6 | exact .there sl7 | exact .there sl8 | exact .there sl9 | exact .there sl10 | exact .there sl11 | exact .there sl12) ?_; rfl))) | (refine st1.mk (Ok.bring h (by with_reducible first | exact sl0 | exact .there sl0 | exact .there sl1 | exact .there sl2 | exact .there sl3 | exact .there sl4 | exact .there sl5 | exact .there sl6 | exact .there sl7 | exact .there sl8 | exact .there sl9 | exact .there sl10 | exact .there sl11 | exact .there sl12)) (by simp) fun _ h => ?_; dsimp only [List.set] at h))); exact hJ)) ?_
    refine jn.bool true (fun J hJ => cs.yes (by first | rfl | simp) (by (repeat (first | with_reducible refine dr.mk h fun _ h => ?_ | with_reducible refine nn.mk ?_ | ((first | with_reducible apply ldI.mk | with_reducible apply ldB.mk | with_reducible apply ldP.mk | with_reducible apply ldS.mk | with_reducible apply ldM.mk | with_reducible apply ldF.mk | with_reducible apply ldG.mk); (· exact (by refine Ok.cellS h (by with_reducible first | exact sl0 | exact .there sl0 | exact .there sl1 | exact .there sl2 | exact .there sl3 | exact .there sl4 | exact .there sl5 | exact .there sl6 | exact .there sl7 | exact .there sl8 | exact .there sl9 | exact .there sl10 | exact .there sl11 | exact .there sl12) ?_; rfl))) | (refine st1.mk (Ok.bring h (by with_reducible first | exact sl0 | exact .there sl0 | exact .there sl1 | exact .there sl2 | exact .there sl3 | exact .there sl4 | exact .there sl5 | exact .there sl6 | exact .there sl7 | exact .there sl8 | exact .there sl9 | exact .there sl10 | exact .there sl11 | exact .there sl12)) (by simp) fun _ h => ?_; dsimp only [List.set] at h))); exact hJ)) ?_
    exact ⟨rfl, (h.emb (by repeat' (first | with_reducible exact Emb.same _ | exact Emb.nil _ | refine Emb.cons (by with_reducible first | exact sl0 | exact .there sl0 | exact .there sl1 | exact .there sl2 | exact .there sl3 | exact .there sl4 | exact .there sl5 | exact .there sl6 | exact .there sl7 | exact .there sl8 | exact .there sl9 | exact .there sl10 | exact .there sl11 | exact .there sl12) ?_ | refine Emb.skip ?_)))⟩
  have hp0 : FQ.poll true false (fqNew a0) a1 0 = _ := poll_plain (g := fun _ => (0, 0)) (bits := a0) hz (.inl rfl)
  have hp1 := poll_plain (g := fun _ => (0, 0)) (bits := a0) hz (mode := 1) (.inr rfl)
  refine call15 (Poll_flag h ho fun w3 h => ⟨(if metB a0 (a1, 0) then a0 else (0 : Int), metB a0 (a1, 0), (0 : Int), ()), by rw [hp0]; rfl, ?_⟩)
  rw [hp0] at h
  dsimp only at h
  refine call15 (Poll_flag h ho fun w3 h => ⟨(if metB a0 (a1, 1) then a0 else (0 : Int), metB a0 (a1, 1), (0 : Int), ()), by rw [hp1]; rfl, ?_⟩)
  rw [hp1] at h
  dsimp only at h
  refine cs.no (by simpa using hz) ?_
  dsimp only
  refine jn.bool (true) (fun J hJ => ?_) ?_
  · exact cs.yes rfl (Jb hJ (beq_self_eq_true (metB a0 (a1, 0))))
  refine jn.bool (true) (fun J hJ => ?_) ?_
  · exact cs.yes rfl (Jb hJ (beq_self_eq_true (metB a0 (a1, 1))))
  refine jn.bool (true) (fun J hJ => ?_) ?_
  · refine cs.yes rfl (jn.bool true (fun J2 hJ2 => cs.mk (fun _ => hJ2) (fun hm => ?_)) hJ)
    have hm : metB a0 (a1, 0) = true := by simpa using hm
    exact Jb hJ2 (show ((if metB a0 (a1, 0) then a0 else (0 : Int)) == a0) = true by rw [if_pos hm]; exact beq_self_eq_true a0)
  refine jn.bool (true) (fun J hJ => ?_) ?_
  · refine cs.yes rfl (jn.bool true (fun J2 hJ2 => cs.mk (fun _ => hJ2) (fun hm => ?_)) hJ)
    have hm : metB a0 (a1, 1) = true := by simpa using hm
    exact Jb hJ2 (show ((if metB a0 (a1, 1) then a0 else (0 : Int)) == a0) = true by rw [if_pos hm]; exact beq_self_eq_true a0)
  refine jn.bool (true) (fun J hJ => ?_) ?_
  · refine cs.yes rfl ?_
    obtain ⟨p, m, f, hf, h⟩ := flagE h
    refine nn.mk (ldI.mk (by refine Ok.cellS h (by with_reducible first | exact sl0 | exact .there sl0 | exact .there sl1 | exact .there sl2 | exact .there sl3 | exact .there sl4 | exact .there sl5 | exact .there sl6 | exact .there sl7 | exact .there sl8 | exact .there sl9 | exact .there sl10 | exact .there sl11 | exact .there sl12) ?_; rfl) (Jb hJ (beq_self_eq_true a0)))
  exact ⟨rfl, (h.emb (by repeat' (first | with_reducible exact Emb.same _ | exact Emb.nil _ | refine Emb.cons (by with_reducible first | exact sl0 | exact .there sl0 | exact .there sl1 | exact .there sl2 | exact .there sl3 | exact .there sl4 | exact .there sl5 | exact .there sl6 | exact .there sl7 | exact .there sl8 | exact .there sl9 | exact .there sl10 | exact .there sl11 | exact .there sl12) ?_ | refine Emb.skip ?_)))⟩

theorem met_all {A W : BitVec 32} : metB (T32 A) (T32 W, 0) = (A &&& W == W) := by
  unfold metB
  rw [if_pos rfl]
  show (bAnd .u32 (T32 A) (T32 W) == T32 W) = _
  rw [bAnd_T, V_T, V_T, Bool.eq_iff_iff, beq_iff_eq, beq_iff_eq, T32_inj]

theorem met_one {A W : BitVec 32} : metB (T32 A) (T32 W, 1) = (A &&& W != 0) := by
  unfold metB
  rw [if_neg (show ¬ (1 : Int) = 0 by decide)]
  show (bAnd .u32 (T32 A) (T32 W) != 0) = _
  rw [bAnd_T, V_T, V_T, Bool.eq_iff_iff, bne_iff_ne, bne_iff_ne, ne_eq, ne_eq, T32_eq0]

theorem FlagAlone_walk {e : World} {a0 a1 : Int} (w0 : (Lit.int .u32 a0).wf = true) (w1 : (Lit.int .u32 a1).wf = true) : sh6 a0 a1 (LawEnd e) e := by
  unfold sh6
  obtain ⟨A, rfl⟩ := T32_ex w0
  refine call9 (known_12 (Ok.start e) fun w1 h => ⟨(true, ()), enc_b rfl, ?_⟩)
  refine cs.no rfl ?_
  by_cases hz : T32 A = 0 ∨ a1 = 0
  · refine jn.bool (true) (fun J hJ => ?_) ?_
    · refine cs.mk (fun _ => hJ) (fun h1 => ?_)
      have h1 : ¬ T32 A = 0 := by simpa using h1
      exact Jb hJ (by simpa using hz.resolve_left h1)
    exact cs.yes rfl ⟨rfl, h⟩
  refine jn.bool (false) (fun J hJ => ?_) ?_
  · exact cs.no (by rw [beq_eq_false_iff_ne]; exact fun h => hz (.inl h)) (Jb hJ (by rw [beq_eq_false_iff_ne]; exact fun h => hz (.inr h)))
  refine cs.no rfl ?_
  refine call10 (New_flag h fun b w2 h => ⟨(some ⟨b, 0, none⟩, ()), rfl, ?_⟩)
  have hA : A ≠ 0 := fun h => hz (.inl (by rw [h]; rfl))
  have hm0 : metB 0 (T32 A, 0) = false := by
    have := met_all (A := 0) (W := A)
    rw [T32_zero] at this
    rw [this]
    simp
    exact fun h => hA h.symm
  have q1 : FQ.wait true false false (fqNew 0) 1 9 (T32 A) 0 = ((0, false, 0), ⟨[(1, 9)], 0, fun i => if i = 1 then (T32 A, 0) else (0, 0)⟩) := by
    have hp : FQ.poll false false (fqNew 0) (T32 A) 0 = ((0, false, 0), fqNew 0) := by
      unfold FQ.poll
      rw [if_neg (by omega), if_neg (by simp [fqNew]), if_neg (by show ¬ metB 0 (T32 A, 0) = true; rw [hm0]; simp)]
    unfold FQ.wait
    rw [hp, if_neg (by simp)]
    rfl
  refine call11 (Wait_flag h (fqNew_ok 0) fun w3 h => ⟨((0 : Int), false, (0 : Int), ()), by rw [q1]; rfl, ?_⟩)
  have o1 := wait_ok (byPri := true) (many := false) (clr := false) (task := 1) (pri := 9) (want := T32 A) (mode := 0) (fqNew_ok 0)
  rw [q1] at h o1
  dsimp only at h o1
  generalize hg : (fun i : Int => if i = 1 then (T32 A, (0 : Int)) else (0, 0)) = g at *
  have hg1 : g 1 = (T32 A, 0) := by rw [← hg]; rfl
  have hp2 : ∀ mode, mode = 0 ∨ mode = 1 → FQ.poll false false ⟨[(1, 9)], 0, g⟩ a1 mode = ((0, false, -28), ⟨[(1, 9)], 0, g⟩) := fun mode hm => by
    unfold FQ.poll
    rw [if_neg (by omega), if_pos ⟨rfl, by simp⟩]
  have q2 : FQ.wait true false false ⟨[(1, 9)], 0, g⟩ 2 1 a1 0 = ((0, false, -28), ⟨[(1, 9)], 0, g⟩) := by
    unfold FQ.wait
    rw [hp2 0 (.inl rfl), if_pos (.inr (show (-28 : Int) ≠ 0 by decide))]
  refine call11 (Wait_flag h o1 fun w3 h => ⟨((0 : Int), false, (-28 : Int), ()), by rw [q2]; rfl, ?_⟩)
  rw [q2] at h
  refine call15 (Poll_flag h o1 fun w3 h => ⟨((0 : Int), false, (-28 : Int), ()), by rw [hp2 1 (.inr rfl)]; rfl, ?_⟩)
  rw [hp2 1 (.inr rfl)] at h
  refine al.mk h fun c w10 h => ?_
  have h : Ok e (slc 1 ⟨some ⟨c, 0, none⟩, 1, 1⟩ ([T32 A].map (Value.int .u32)) :: _) _ := Ok.u32s (xs := [T32 A]) h
  have hr := rd_slc h
  have hb : orB 0 (T32 A) = T32 A := by
    show bOr .u32 0 (T32 A) = _
    rw [bOr_T, V_T, T32_inj]
    simp
  have hm1 : metB (T32 A) (T32 A, 0) = true := by rw [met_all]; simp
  have q3 : FQ.raise false ⟨[(1, 9)], 0, g⟩ [T32 A] = ([(1, T32 A)], ⟨[], T32 A, g⟩) := by
    unfold FQ.raise
    simp only [List.foldl_cons, List.foldl_nil, hb]
    rw [wake_yes (by rw [hg1]; exact hm1), if_neg (by simp)]
    rfl
  refine call12 (Raise_flag (Ok.emb (h) (.cons (A := flagP b _ _ _ _) (by with_reducible first | exact sl0 | exact .there sl0 | exact .there sl1 | exact .there sl2 | exact .there sl3 | exact .there sl4 | exact .there sl5 | exact .there sl6 | exact .there sl7 | exact .there sl8 | exact .there sl9 | exact .there sl10 | exact .there sl11 | exact .there sl12) (.cons (A := slc 1 ⟨some ⟨c, 0, none⟩, 1, 1⟩ _) (by with_reducible first | exact sl0 | exact .there sl0 | exact .there sl1 | exact .there sl2 | exact .there sl3 | exact .there sl4 | exact .there sl5 | exact .there sl6 | exact .there sl7 | exact .there sl8 | exact .there sl9 | exact .there sl10 | exact .there sl11 | exact .there sl12) (.same _)))) o1 hr (by dsimp only; omega) fun r w9 hr h => ⟨(r, ()), rfl, ?_⟩)
  rw [q3] at h hr
  dsimp only at hr h ⊢
  refine jn.bool true (fun J hJ => cs.yes (by first | rfl | simp) (by (repeat (first | with_reducible refine dr.mk h fun _ h => ?_ | with_reducible refine nn.mk ?_ | ((first | with_reducible apply ldI.mk | with_reducible apply ldB.mk | with_reducible apply ldP.mk | with_reducible apply ldS.mk | with_reducible apply ldM.mk | with_reducible apply ldF.mk | with_reducible apply ldG.mk); (· exact (by refine Ok.cellS h (by with_reducible first | exact sl0 | exact .there sl0 | exact .there sl1 | exact .there sl2 | exact .there sl3 | exact .there sl4 | exact .there sl5 | exact .there sl6 | exact .there sl7 | exact .there sl8 | exact .there sl9 | exact .there sl10 | exact .there sl11 | exact .there sl12) ?_; rfl))) | (refine st1.mk (Ok.bring h (by with_reducible first | exact sl0 | exact .there sl0 | exact .there sl1 | exact .there sl2 | exact .there sl3 | exact .there sl4 | exact .there sl5 | exact .there sl6 | exact .there sl7 | exact .there sl8 | exact .there sl9 | exact .there sl10 | exact .there sl11 | exact .there sl12)) (by simp) fun _ h => ?_; dsimp only [List.set] at h))); exact hJ)) ?_
  refine jn.bool true (fun J hJ => cs.yes (by first | rfl | simp) (by (repeat (first | with_reducible refine dr.mk h fun _ h => ?_ | with_reducible refine nn.mk ?_ | ((first | with_reducible apply ldI.mk | with_reducible apply ldB.mk | with_reducible apply ldP.mk | with_reducible apply ldS.mk | with_reducible apply ldM.mk | with_reducible apply ldF.mk | with_reducible apply ldG.mk); (· exact (by refine Ok.cellS h (by with_reducible first | exact sl0 | exact .there sl0 | exact .there sl1 | exact .there sl2 | exact .there sl3 | exact .there sl4 | exact .there sl5 | exact .there sl6 | exact .there sl7 | exact .there sl8 | exact .there sl9 | exact .there sl10 | exact .there sl11 | exact .there sl12) ?_; rfl))) | (refine st1.mk (Ok.bring h (by with_reducible first | exact sl0 | exact .there sl0 | exact .there sl1 | exact .there sl2 | exact .there sl3 | exact .there sl4 | exact .there sl5 | exact .there sl6 | exact .there sl7 | exact .there sl8 | exact .there sl9 | exact .there sl10 | exact .there sl11 | exact .there sl12)) (by simp) fun _ h => ?_; dsimp only [List.set] at h))); exact hJ)) ?_
  refine jn.bool true (fun J hJ => cs.yes (by first | rfl | simp) (by (repeat (first | with_reducible refine dr.mk h fun _ h => ?_ | with_reducible refine nn.mk ?_ | ((first | with_reducible apply ldI.mk | with_reducible apply ldB.mk | with_reducible apply ldP.mk | with_reducible apply ldS.mk | with_reducible apply ldM.mk | with_reducible apply ldF.mk | with_reducible apply ldG.mk); (· exact (by refine Ok.cellS h (by with_reducible first | exact sl0 | exact .there sl0 | exact .there sl1 | exact .there sl2 | exact .there sl3 | exact .there sl4 | exact .there sl5 | exact .there sl6 | exact .there sl7 | exact .there sl8 | exact .there sl9 | exact .there sl10 | exact .there sl11 | exact .there sl12) ?_; rfl))) | (refine st1.mk (Ok.bring h (by with_reducible first | exact sl0 | exact .there sl0 | exact .there sl1 | exact .there sl2 | exact .there sl3 | exact .there sl4 | exact .there sl5 | exact .there sl6 | exact .there sl7 | exact .there sl8 | exact .there sl9 | exact .there sl10 | exact .there sl11 | exact .there sl12)) (by simp) fun _ h => ?_; dsimp only [List.set] at h))); exact hJ)) ?_
  refine jn.bool true (fun J hJ => cs.yes (by first | rfl | simp) (by (repeat (first | with_reducible refine dr.mk h fun _ h => ?_ | with_reducible refine nn.mk ?_ | ((first | with_reducible apply ldI.mk | with_reducible apply ldB.mk | with_reducible apply ldP.mk | with_reducible apply ldS.mk | with_reducible apply ldM.mk | with_reducible apply ldF.mk | with_reducible apply ldG.mk); (· exact (by refine Ok.cellS h (by with_reducible first | exact sl0 | exact .there sl0 | exact .there sl1 | exact .there sl2 | exact .there sl3 | exact .there sl4 | exact .there sl5 | exact .there sl6 | exact .there sl7 | exact .there sl8 | exact .there sl9 | exact .there sl10 | exact .there sl11 | exact .there sl12) ?_; rfl))) | (refine st1.mk (Ok.bring h (by with_reducible first | exact sl0 | exact .there sl0 | exact .there sl1 | exact .there sl2 | exact .there sl3 | exact .there sl4 | exact .there sl5 | exact .there sl6 | exact .there sl7 | exact .there sl8 | exact .there sl9 | exact .there sl10 | exact .there sl11 | exact .there sl12)) (by simp) fun _ h => ?_; dsimp only [List.set] at h))); exact hJ)) ?_
  refine jn.bool true (fun J hJ => cs.yes (by first | rfl | simp) (by (repeat (first | with_reducible refine dr.mk h fun _ h => ?_ | with_reducible refine nn.mk ?_ | ((first | with_reducible apply ldI.mk | with_reducible apply ldB.mk | with_reducible apply ldP.mk | with_reducible apply ldS.mk | with_reducible apply ldM.mk | with_reducible apply ldF.mk | with_reducible apply ldG.mk); (· exact (by refine Ok.cellS h (by with_reducible first | exact sl0 | exact .there sl0 | exact .there sl1 | exact .there sl2 | exact .there sl3 | exact .there sl4 | exact .there sl5 | exact .there sl6 | exact .there sl7 | exact .there sl8 | exact .there sl9 | exact .there sl10 | exact .there sl11 | exact .there sl12) ?_; rfl))) | (refine st1.mk (Ok.bring h (by with_reducible first | exact sl0 | exact .there sl0 | exact .there sl1 | exact .there sl2 | exact .there sl3 | exact .there sl4 | exact .there sl5 | exact .there sl6 | exact .there sl7 | exact .there sl8 | exact .there sl9 | exact .there sl10 | exact .there sl11 | exact .there sl12)) (by simp) fun _ h => ?_; dsimp only [List.set] at h))); exact hJ)) ?_
  refine jn.bool (true) (fun J hJ => ?_) ?_
  · exact cs.yes rfl (Jb hJ (by simp at hr; simp [hr]))
  refine jn.bool (true) (fun J hJ => ?_) ?_
  · refine cs.yes rfl ?_
    refine ix_flat wkV_len (by decide) (Ok.emb (h) (.cons (A := slc 2 r (flat wkV [(1, T32 A)])) (by with_reducible first | exact sl0 | exact .there sl0 | exact .there sl1 | exact .there sl2 | exact .there sl3 | exact .there sl4 | exact .there sl5 | exact .there sl6 | exact .there sl7 | exact .there sl8 | exact .there sl9 | exact .there sl10 | exact .there sl11 | exact .there sl12) (.same _))) (Int.le_refl _) (by simp) fun c1 o x hx _ ho hc => ?_
    cases hx
    exact ldI.mk (hc 0 _ rfl _ ⟨_, (Ok.emb (h) (.cons (A := slc 2 r (flat wkV [(1, T32 A)])) (by with_reducible first | exact sl0 | exact .there sl0 | exact .there sl1 | exact .there sl2 | exact .there sl3 | exact .there sl4 | exact .there sl5 | exact .there sl6 | exact .there sl7 | exact .there sl8 | exact .there sl9 | exact .there sl10 | exact .there sl11 | exact .there sl12) (.same _)))⟩) hJ
  obtain ⟨p, m, f, hf, h⟩ := flagE (Ok.emb (h) (.cons (A := flagP b _ _ _ _) (by with_reducible first | exact sl0 | exact .there sl0 | exact .there sl1 | exact .there sl2 | exact .there sl3 | exact .there sl4 | exact .there sl5 | exact .there sl6 | exact .there sl7 | exact .there sl8 | exact .there sl9 | exact .there sl10 | exact .there sl11 | exact .there sl12) (.same _)))
  refine jn.bool (true) (fun J hJ => ?_) ?_
  · refine cs.yes rfl (nn.mk (ldP.mk (by refine Ok.cellS h (by with_reducible first | exact sl0 | exact .there sl0 | exact .there sl1 | exact .there sl2 | exact .there sl3 | exact .there sl4 | exact .there sl5 | exact .there sl6 | exact .there sl7 | exact .there sl8 | exact .there sl9 | exact .there sl10 | exact .there sl11 | exact .there sl12) ?_; rfl) (nn.mk ?_)))
    exact call13 (Len_order (Ok.emb (h) (.cons (A := lineP p _ _) (by with_reducible first | exact sl0 | exact .there sl0 | exact .there sl1 | exact .there sl2 | exact .there sl3 | exact .there sl4 | exact .there sl5 | exact .there sl6 | exact .there sl7 | exact .there sl8 | exact .there sl9 | exact .there sl10 | exact .there sl11 | exact .there sl12) (.same _))) ⟨((0 : Int), ()), rfl, hJ⟩)
  exact ⟨rfl, (h.emb (by repeat' (first | with_reducible exact Emb.same _ | exact Emb.nil _ | refine Emb.cons (by with_reducible first | exact sl0 | exact .there sl0 | exact .there sl1 | exact .there sl2 | exact .there sl3 | exact .there sl4 | exact .there sl5 | exact .there sl6 | exact .there sl7 | exact .there sl8 | exact .there sl9 | exact .there sl10 | exact .there sl11 | exact .there sl12) ?_ | refine Emb.skip ?_)))⟩

theorem low1 (A M : BitVec 32) : (A &&& M) &&& (A &&& ~~~M) = 0 := by
  apply BitVec.eq_of_getLsbD_eq
  intro i hi
  simp
  intro _ h _
  simp [h]

theorem low2 (A M : BitVec 32) : ((A &&& M) ||| (A &&& ~~~M)) &&& (A &&& ~~~M) = A &&& ~~~M := by
  apply BitVec.eq_of_getLsbD_eq
  intro i hi
  simp [hi]
  intro h1 h2
  exact .inr ⟨h1, h2⟩

theorem FlagLowers_walk {e : World} {a0 a1 : Int} (w0 : (Lit.int .u32 a0).wf = true) (w1 : (Lit.int .u32 a1).wf = true) : sh7 a0 a1 (LawEnd e) e := by
  unfold sh7
  obtain ⟨A, rfl⟩ := T32_ex w0
  obtain ⟨M, rfl⟩ := T32_ex w1
  have hb : anB (T32 A) (T32 M) = T32 (A &&& M) := by show bAnd .u32 _ _ = _; rw [bAnd_T, V_T, V_T]
  have hw : bAndNot .u32 (T32 A) (T32 M) = T32 (A &&& ~~~M) := by rw [bAndNot_T, V_T, V_T]
  refine call9 (known_12 (Ok.start e) fun w1 h => ⟨(true, ()), enc_b rfl, ?_⟩)
  refine cs.no rfl ?_
  refine call10 (New_flag h fun b w2 h => ⟨(some ⟨b, 0, none⟩, ()), rfl, ?_⟩)
  refine call16 (Lower_flag h fun w3 h => ⟨(), rfl, ?_⟩)
  have h0 := h
  obtain ⟨p, m, f, hf, h⟩ := flagE h
  refine nn.mk (ldI.mk (by refine Ok.cellS h (by with_reducible first | exact sl0 | exact .there sl0 | exact .there sl1 | exact .there sl2 | exact .there sl3 | exact .there sl4 | exact .there sl5 | exact .there sl6 | exact .there sl7 | exact .there sl8 | exact .there sl9 | exact .there sl10 | exact .there sl11 | exact .there sl12) ?_; rfl) (cs.no (bne_self_eq_false (anB (T32 A) (T32 M))) ?_))
  clear h hf
  have h := h0
  rw [hw]
  have hb' : bAnd .u32 (T32 A) (T32 M) = T32 (A &&& M) := hb
  rw [hb']
  have h : Ok e [flagP b false true false ⟨[], T32 (A &&& M), fun _ => (0, 0)⟩, old e] w3 := by
    have h2 : Ok e [flagP b false true false ⟨[], anB (T32 A) (T32 M), fun _ => (0, 0)⟩, old e] w3 := h
    rw [hb] at h2
    exact h2
  refine cs.mk (fun _ => ⟨rfl, (h.emb (by repeat' (first | with_reducible exact Emb.same _ | exact Emb.nil _ | refine Emb.cons (by with_reducible first | exact sl0 | exact .there sl0 | exact .there sl1 | exact .there sl2 | exact .there sl3 | exact .there sl4 | exact .there sl5 | exact .there sl6 | exact .there sl7 | exact .there sl8 | exact .there sl9 | exact .there sl10 | exact .there sl11 | exact .there sl12) ?_ | refine Emb.skip ?_)))⟩) (fun hz => ?_)
  have hz : ¬ T32 (A &&& ~~~M) = 0 := by simpa using hz
  have o0 : FQ.ok ⟨[], T32 (A &&& M), fun _ => (0, 0)⟩ := ⟨okL_nil, by simp⟩
  have hm0 : metB (T32 (A &&& M)) (T32 (A &&& ~~~M), 1) = false := by rw [met_one, low1]; rfl
  have q1 : FQ.wait false true false ⟨[], T32 (A &&& M), fun _ => (0, 0)⟩ 1 1 (T32 (A &&& ~~~M)) 1 = ((0, false, 0), ⟨[(1, 1)], T32 (A &&& M), fun i => if i = 1 then (T32 (A &&& ~~~M), 1) else (0, 0)⟩) := by
    unfold FQ.wait
    rw [poll_plain hz (.inr rfl), hm0, if_neg (by simp)]
    rfl
  refine call11 (Wait_flag h o0 fun w3 h => ⟨((0 : Int), false, (0 : Int), ()), by rw [q1]; rfl, ?_⟩)
  have o1 := wait_ok (byPri := false) (many := true) (clr := false) (task := 1) (pri := 1) (want := T32 (A &&& ~~~M)) (mode := 1) o0
  rw [q1] at h o1
  dsimp only at h o1
  refine al.mk h fun c w10 h => ?_
  have h : Ok e (slc 1 ⟨some ⟨c, 0, none⟩, 1, 1⟩ ([T32 (A &&& ~~~M)].map (Value.int .u32)) :: _) _ := Ok.u32s (xs := [T32 (A &&& ~~~M)]) h
  have hr := rd_slc h
  have hor : orB (T32 (A &&& M)) (T32 (A &&& ~~~M)) = T32 ((A &&& M) ||| (A &&& ~~~M)) := by show bOr .u32 _ _ = _; rw [bOr_T, V_T, V_T]
  have q3 : FQ.raise false ⟨[(1, 1)], T32 (A &&& M), fun i => if i = 1 then (T32 (A &&& ~~~M), 1) else (0, 0)⟩ [T32 (A &&& ~~~M)] = ([(1, T32 ((A &&& M) ||| (A &&& ~~~M)))], ⟨[], T32 ((A &&& M) ||| (A &&& ~~~M)), fun i => if i = 1 then (T32 (A &&& ~~~M), 1) else (0, 0)⟩) := by
    unfold FQ.raise
    simp only [List.foldl_cons, List.foldl_nil, hor]
    rw [wake_yes (by
      show metB _ (T32 (A &&& ~~~M), 1) = true
      rw [met_one, low2]
      simp only [bne_iff_ne, ne_eq]
      exact fun h => hz (by rw [h]; rfl)), if_neg (by simp)]
    rfl
  refine call12 (Raise_flag (Ok.emb (h) (.cons (A := flagP b _ _ _ _) (by with_reducible first | exact sl0 | exact .there sl0 | exact .there sl1 | exact .there sl2 | exact .there sl3 | exact .there sl4 | exact .there sl5 | exact .there sl6 | exact .there sl7 | exact .there sl8 | exact .there sl9 | exact .there sl10 | exact .there sl11 | exact .there sl12) (.cons (A := slc 1 ⟨some ⟨c, 0, none⟩, 1, 1⟩ _) (by with_reducible first | exact sl0 | exact .there sl0 | exact .there sl1 | exact .there sl2 | exact .there sl3 | exact .there sl4 | exact .there sl5 | exact .there sl6 | exact .there sl7 | exact .there sl8 | exact .there sl9 | exact .there sl10 | exact .there sl11 | exact .there sl12) (.same _)))) o1 hr (by dsimp only; omega) fun r w9 hr h => ⟨(r, ()), rfl, ?_⟩)
  rw [q3] at h hr
  dsimp only at hr h ⊢
  refine jn.bool true (fun J hJ => cs.yes (by first | rfl | simp) (by (repeat (first | with_reducible refine dr.mk h fun _ h => ?_ | with_reducible refine nn.mk ?_ | ((first | with_reducible apply ldI.mk | with_reducible apply ldB.mk | with_reducible apply ldP.mk | with_reducible apply ldS.mk | with_reducible apply ldM.mk | with_reducible apply ldF.mk | with_reducible apply ldG.mk); (· exact (by refine Ok.cellS h (by with_reducible first | exact sl0 | exact .there sl0 | exact .there sl1 | exact .there sl2 | exact .there sl3 | exact .there sl4 | exact .there sl5 | exact .there sl6 | exact .there sl7 | exact .there sl8 | exact .there sl9 | exact .there sl10 | exact .there sl11 | exact .there sl12) ?_; rfl))) | (refine st1.mk (Ok.bring h (by with_reducible first | exact sl0 | exact .there sl0 | exact .there sl1 | exact .there sl2 | exact .there sl3 | exact .there sl4 | exact .there sl5 | exact .there sl6 | exact .there sl7 | exact .there sl8 | exact .there sl9 | exact .there sl10 | exact .there sl11 | exact .there sl12)) (by simp) fun _ h => ?_; dsimp only [List.set] at h))); exact hJ)) ?_
  refine jn.bool (true) (fun J hJ => ?_) ?_
  · exact cs.yes rfl (Jb hJ (by simp at hr; simp [hr]))
  refine jn.bool (true) (fun J hJ => ?_) ?_
  · refine cs.yes rfl ?_
    refine ix_flat wkV_len (by decide) (Ok.emb (h) (.cons (A := slc 2 r (flat wkV [(1, T32 ((A &&& M) ||| (A &&& ~~~M)))])) (by with_reducible first | exact sl0 | exact .there sl0 | exact .there sl1 | exact .there sl2 | exact .there sl3 | exact .there sl4 | exact .there sl5 | exact .there sl6 | exact .there sl7 | exact .there sl8 | exact .there sl9 | exact .there sl10 | exact .there sl11 | exact .there sl12) (.same _))) (Int.le_refl _) (by simp) fun c1 o x hx _ ho hc => ?_
    cases hx
    refine ldI.mk (hc 1 _ rfl _ ⟨_, (Ok.emb (h) (.cons (A := slc 2 r (flat wkV [(1, T32 ((A &&& M) ||| (A &&& ~~~M)))])) (by with_reducible first | exact sl0 | exact .there sl0 | exact .there sl1 | exact .there sl2 | exact .there sl3 | exact .there sl4 | exact .there sl5 | exact .there sl6 | exact .there sl7 | exact .there sl8 | exact .there sl9 | exact .there sl10 | exact .there sl11 | exact .there sl12) (.same _)))⟩) (Jb hJ ?_)
    rw [← hor]
    exact beq_self_eq_true _
  exact ⟨rfl, (h.emb (by repeat' (first | with_reducible exact Emb.same _ | exact Emb.nil _ | refine Emb.cons (by with_reducible first | exact sl0 | exact .there sl0 | exact .there sl1 | exact .there sl2 | exact .there sl3 | exact .there sl4 | exact .there sl5 | exact .there sl6 | exact .there sl7 | exact .there sl8 | exact .there sl9 | exact .there sl10 | exact .there sl11 | exact .there sl12) ?_ | refine Emb.skip ?_)))⟩

end Go.Proofs.Ytkhalaoonamkjaa.B
