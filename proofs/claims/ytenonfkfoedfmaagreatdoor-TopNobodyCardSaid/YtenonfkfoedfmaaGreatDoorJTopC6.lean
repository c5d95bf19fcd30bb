/- Texts of ours, joined: Do, Nam, Conf, Conf2, New, New2, Top, Top2, Grp, Grp2, Grp3, Grp4, Grp7, Grp14, Grp8, Grp9, Grp10, Grp11, Grp12, Grp13, Nob, Del, Law, DelW, NobW, TopLaid. -/
import Derived.FnData
import Derived.JoinedOf
import Derived.KernelRfl
import Derived.LaidLaws
import Derived.LaidMore
import Derived.MakeChecks
import Derived.OpenShut
import Derived.ProofKit
import Derived.Test.YtenonfkfoedfmaaGreatDoorRows
import Derived.Test.YtenonfkfoedfmaaGreatDoorJTopC5
set_option linter.unusedSimpArgs false
set_option linter.unusedVariables false
/- Contracts of the kernel's Do. -/
namespace Go.Proofs.YtenonfkfoedfmaaGreatDoor.B
open Go
set_option linter.unusedVariables false

abbrev CallT := Int × Int × Int × Int × Int × Unit

/-- what a part of the calls answers -/
def GrpC (e : World) (k : Nat) (A : KA) (K : KM) (r : (Int × Int) × KM) (f : (List Value → World → Prop) → World → Prop) : Prop :=
  ∀ L w (R : List Value → World → Prop), Ok e (kerP k A K :: old e :: L) w → (∀ w', Ok e (kerP k A r.2 :: old e :: L) w' → R [.agg #[.int .i64 r.1.1, .int .i64 r.1.2]] w') → f R w


theorem Do_kern {e w L k A K R} {n : Nat} {a kd x0 x1 x2 x3 : Int} {g : KM → Option ((Int × Int) × KM)} {r' : (Int × Int) × KM} (tb : TabE e) (hn : akL[n]? = some (a, kd)) (h0 : 0 < n) (h : Ok e (kerP k A K :: old e :: L) w) (hm : K.call kd g = some r')
    (hg : ∀ r, g K = some r → (n ≤ 22 ∧ GrpC e k A K r (sh79 (some ⟨k, 0, none⟩) ((n : Int), x0, x1, x2, x3, ()))) ∨ (22 < n ∧ n ≤ 27 ∧ GrpC e k A K r (sh80 (some ⟨k, 0, none⟩) ((n : Int), x0, x1, x2, x3, ()))) ∨ (27 < n ∧ n ≤ 33 ∧ GrpC e k A K r (sh81 (some ⟨k, 0, none⟩) ((n : Int), x0, x1, x2, x3, ()))) ∨ (33 < n ∧ n ≤ 42 ∧ GrpC e k A K r (sh82 (some ⟨k, 0, none⟩) ((n : Int), x0, x1, x2, x3, ()))) ∨ (42 < n ∧ n ≤ 46 ∧ GrpC e k A K r (sh83 (some ⟨k, 0, none⟩) ((n : Int), x0, x1, x2, x3, ()))) ∨ (46 < n ∧ n ≤ 50 ∧ GrpC e k A K r (sh84 (some ⟨k, 0, none⟩) ((n : Int), x0, x1, x2, x3, ()))) ∨ (50 < n ∧ n ≤ 56 ∧ GrpC e k A K r (sh85 (some ⟨k, 0, none⟩) ((n : Int), x0, x1, x2, x3, ()))) ∨ (56 < n ∧ GrpC e k A K r (sh86 (some ⟨k, 0, none⟩) ((n : Int), x0, x1, x2, x3, ()))))
    (kk : ∀ w', Ok e (kerP k A r'.2 :: old e :: L) w' → R [.agg #[.int .i64 r'.1.1, .int .i64 r'.1.2]] w') : sh41 (some ⟨k, 0, none⟩) ((n : Int), x0, x1, x2, x3, ()) R w := by
  unfold sh41
  refine al.mk h fun b w1 h => al.mk h fun d w2 h => ldI.mk (h.p1.cell rfl) ?_
  refine call76 (Known_calls h hn h0 fun w3 h => ⟨(true, ()), rfl, cs.no rfl (dr.mk h fun w4 h => ?_)⟩)
  obtain ⟨ho, hk⟩ := kerE h.p2
  refine nn.mk (ldP.mk (hk.cell rfl) (ldI.mk (h.p1.cell rfl) (ldI.mk (h.p1.cell rfl) (ldI.mk (h.p1.cell rfl) (ldI.mk (h.p1.cell rfl) (ldI.mk (h.p1.cell rfl) (nn.mk (ldI.mk (hk.cell rfl) ?_))))))))
  refine call42 (a0 := ((n : Int), x0, x1, x2, x3, ())) (Kind_calls hk hn h0 fun w5 hk => ⟨(kd, ()), rfl, hk.cell rfl, hk.cell rfl, ?_⟩)
  have hwho : ((K.who : Int) == (0 : Int)) = decide (K.who = 0) := by rw [Bool.eq_iff_iff]; simp
  refine call78 (May_ctx (kd := kd) (idle := decide (K.who = 0)) ((Ok.emb (hk) (.cons (A := placeP A.pl K.pl) (by with_reducible first | exact sl0 | exact .there sl0 | exact .there sl1 | exact .there sl2 | exact .there sl3 | exact .there sl4 | exact .there sl5 | exact .there sl6 | exact .there sl7 | exact .there sl8 | exact .there sl9 | exact .there sl10 | exact .there sl11 | exact .there sl12) (.same _)))) ?_)
  refine ⟨(K.pl.may kd (decide (K.who = 0)), ()), rfl, ?_⟩
  have h : Ok e (pts d [.int .i64 0, .int .i64 0] :: pts b [.int .i64 (n : Int), .int .i64 x0, .int .i64 x1, .int .i64 x2, .int .i64 x3] :: kerP k A K :: old e :: L) w5 := (kerI ho hk).q2
  unfold KM.call at hm
  refine cs.mk (fun h1 => ?_) (fun h1 => ?_)
  · have h1 : K.may kd ≠ 0 := by simpa [KM.may] using h1
    rw [if_pos h1] at hm
    cases hm
    refine call77 (a1 := ⟨none, 0, 0⟩) (say_code h rfl fun w6 h => ⟨((K.may kd, (0 : Int), ()), ()), rfl, ?_⟩)
    exact st1.mk h (by simp) fun w7 h => st1.mk h (by simp) fun w8 h => ldI.mk (h.cell rfl) (ldI.mk (h.cell rfl) (kk w8 h.drop.drop))
  · have h1 : ¬ K.may kd ≠ 0 := by simpa [KM.may] using h1
    rw [if_neg h1] at hm
    obtain ⟨r, hr, rfl⟩ := Option.map_eq_some_iff.1 hm
    have hg := hg r hr
    refine al.mk h fun c w6 h => ldI.mk (h.p2.cell rfl) ?_
    have fin : ∀ w', Ok e (pts c [.int .i64 r.1.1, .int .i64 r.1.2] :: pts d [.int .i64 0, .int .i64 0] :: pts b [.int .i64 (n : Int), .int .i64 x0, .int .i64 x1, .int .i64 x2, .int .i64 x3] :: kerP k A r.2 :: old e :: L) w' →
        cl Pg 57 [pV k] [] w' fun (r43 : Unit) w44 => ldI w44 .i64 c 0 fun n45 => ldI w44 .i64 c (0 + 1) fun n46 => st1 w44 d 0 (.int .i64 n45) fun w47 => st1 w47 d (0 + 1) (.int .i64 n46) fun w48 => ldI w48 .i64 d 0 fun n49 => ldI w48 .i64 d (0 + 1) fun n50 => R [.agg #[.int .i64 n49, .int .i64 n50]] w48 := by
      intro w' h
      refine call57 (choose_kern tb ((Ok.emb (h) (.cons (A := kerP k A r.2) (by with_reducible first | exact sl0 | exact .there sl0 | exact .there sl1 | exact .there sl2 | exact .there sl3 | exact .there sl4 | exact .there sl5 | exact .there sl6 | exact .there sl7 | exact .there sl8 | exact .there sl9 | exact .there sl10 | exact .there sl11 | exact .there sl12) (.cons (A := old e) (by with_reducible first | exact sl0 | exact .there sl0 | exact .there sl1 | exact .there sl2 | exact .there sl3 | exact .there sl4 | exact .there sl5 | exact .there sl6 | exact .there sl7 | exact .there sl8 | exact .there sl9 | exact .there sl10 | exact .there sl11 | exact .there sl12) (.same _))))) fun w7 h => ⟨(), rfl, ?_⟩)
      have h : Ok e (pts c [.int .i64 r.1.1, .int .i64 r.1.2] :: pts d [.int .i64 0, .int .i64 0] :: kerP k A r.2.choose :: old e :: L) w7 := (h.emb (by repeat' (first | with_reducible exact Emb.same _ | exact Emb.nil _ | refine Emb.cons (by with_reducible first | exact sl0 | exact .there sl0 | exact .there sl1 | exact .there sl2 | exact .there sl3 | exact .there sl4 | exact .there sl5 | exact .there sl6 | exact .there sl7 | exact .there sl8 | exact .there sl9 | exact .there sl10 | exact .there sl11 | exact .there sl12) ?_ | refine Emb.skip ?_)))
      refine ldI.mk (h.cell rfl) (ldI.mk (h.cell rfl) (st1.mk h.p1 (by simp) fun w8 h => st1.mk h (by simp) fun w9 h => ?_))
      exact ldI.mk (h.cell rfl) (ldI.mk (h.cell rfl) (kk w9 h.drop.drop))
    have run : ∀ (f : (List Value → World → Prop) → World → Prop) w', GrpC e k A K r f → Ok e (pts c [.int .i64 0, .int .i64 0] :: pts d [.int .i64 0, .int .i64 0] :: pts b [.int .i64 (n : Int), .int .i64 x0, .int .i64 x1, .int .i64 x2, .int .i64 x3] :: kerP k A K :: old e :: L) w' →
        ∀ (Z : World → Prop), (∀ w'', Ok e (pts c [.int .i64 r.1.1, .int .i64 r.1.2] :: pts d [.int .i64 0, .int .i64 0] :: pts b [.int .i64 (n : Int), .int .i64 x0, .int .i64 x1, .int .i64 x2, .int .i64 x3] :: kerP k A r.2 :: old e :: L) w'' → Z w'') →
        f (fun vs w' => ∃ t : TK [.a [(.i .i64), (.i .i64)]], encK [.a [(.i .i64), (.i .i64)]] t = vs ∧ st1 w' c 0 (.int .i64 t.1.1) fun w57 => st1 w57 c (0 + 1) (.int .i64 t.1.2.1) fun w58 => Z w58) w' := by
      intro f w' hf h Z hZ
      refine hf _ w' _ ((Ok.emb (h) (.cons (A := kerP k A K) (by with_reducible first | exact sl0 | exact .there sl0 | exact .there sl1 | exact .there sl2 | exact .there sl3 | exact .there sl4 | exact .there sl5 | exact .there sl6 | exact .there sl7 | exact .there sl8 | exact .there sl9 | exact .there sl10 | exact .there sl11 | exact .there sl12) (.cons (A := old e) (by with_reducible first | exact sl0 | exact .there sl0 | exact .there sl1 | exact .there sl2 | exact .there sl3 | exact .there sl4 | exact .there sl5 | exact .there sl6 | exact .there sl7 | exact .there sl8 | exact .there sl9 | exact .there sl10 | exact .there sl11 | exact .there sl12) (.same _))))) fun w7 h => ⟨((r.1.1, r.1.2, ()), ()), rfl, ?_⟩
      have h : Ok e (pts c [.int .i64 0, .int .i64 0] :: pts d [.int .i64 0, .int .i64 0] :: pts b [.int .i64 (n : Int), .int .i64 x0, .int .i64 x1, .int .i64 x2, .int .i64 x3] :: kerP k A r.2 :: old e :: L) w7 := (h.emb (by repeat' (first | with_reducible exact Emb.same _ | exact Emb.nil _ | refine Emb.cons (by with_reducible first | exact sl0 | exact .there sl0 | exact .there sl1 | exact .there sl2 | exact .there sl3 | exact .there sl4 | exact .there sl5 | exact .there sl6 | exact .there sl7 | exact .there sl8 | exact .there sl9 | exact .there sl10 | exact .there sl11 | exact .there sl12) ?_ | refine Emb.skip ?_)))
      exact st1.mk h (by simp) fun w8 h => st1.mk h (by simp) fun w9 h => hZ w9 h
    refine jn.at (t := ()) (fun w' => Ok e (pts c [.int .i64 r.1.1, .int .i64 r.1.2] :: pts d [.int .i64 0, .int .i64 0] :: pts b [.int .i64 (n : Int), .int .i64 x0, .int .i64 x1, .int .i64 x2, .int .i64 x3] :: kerP k A r.2 :: old e :: L) w') (fun J hJ => ?_) (fun w' h => fin w' h)
    rcases hg with ⟨h2, hf⟩ | ⟨h2, h3, hf⟩ | ⟨h2, h3, hf⟩ | ⟨h2, h3, hf⟩ | ⟨h2, h3, hf⟩ | ⟨h2, h3, hf⟩ | ⟨h2, h3, hf⟩ | ⟨h2, hf⟩
    · exact cs.yes (by simp; omega) (ldI.mk (h.p2.cell rfl) (ldI.mk (h.p2.cell rfl) (ldI.mk (h.p2.cell rfl) (ldI.mk (h.p2.cell rfl) (ldI.mk (h.p2.cell rfl) (call79 (a0 := some ⟨k, 0, none⟩) (a1 := ((n : Int), x0, x1, x2, x3, ())) (run _ w6 hf h _ fun w'' h => hJ w'' h)))))))
    · refine cs.no (by simp; omega) (ldI.mk (h.p2.cell rfl) (jn.at (t := ()) (fun w' => Ok e (pts c [.int .i64 r.1.1, .int .i64 r.1.2] :: pts d [.int .i64 0, .int .i64 0] :: pts b [.int .i64 (n : Int), .int .i64 x0, .int .i64 x1, .int .i64 x2, .int .i64 x3] :: kerP k A r.2 :: old e :: L) w') (fun J0 hJ0 => ?_) (fun w' h => hJ w' h)))
      exact cs.yes (by simp; omega) (ldI.mk (h.p2.cell rfl) (ldI.mk (h.p2.cell rfl) (ldI.mk (h.p2.cell rfl) (ldI.mk (h.p2.cell rfl) (ldI.mk (h.p2.cell rfl) (call80 (a0 := some ⟨k, 0, none⟩) (a1 := ((n : Int), x0, x1, x2, x3, ())) (run _ w6 hf h _ fun w'' h => hJ0 w'' h)))))))
    · refine cs.no (by simp; omega) (ldI.mk (h.p2.cell rfl) (jn.at (t := ()) (fun w' => Ok e (pts c [.int .i64 r.1.1, .int .i64 r.1.2] :: pts d [.int .i64 0, .int .i64 0] :: pts b [.int .i64 (n : Int), .int .i64 x0, .int .i64 x1, .int .i64 x2, .int .i64 x3] :: kerP k A r.2 :: old e :: L) w') (fun J0 hJ0 => ?_) (fun w' h => hJ w' h)))
      refine cs.no (by simp; omega) (ldI.mk (h.p2.cell rfl) (jn.at (t := ()) (fun w' => Ok e (pts c [.int .i64 r.1.1, .int .i64 r.1.2] :: pts d [.int .i64 0, .int .i64 0] :: pts b [.int .i64 (n : Int), .int .i64 x0, .int .i64 x1, .int .i64 x2, .int .i64 x3] :: kerP k A r.2 :: old e :: L) w') (fun J1 hJ1 => ?_) (fun w' h => hJ0 w' h)))
      exact cs.yes (by simp; omega) (ldI.mk (h.p2.cell rfl) (ldI.mk (h.p2.cell rfl) (ldI.mk (h.p2.cell rfl) (ldI.mk (h.p2.cell rfl) (ldI.mk (h.p2.cell rfl) (call81 (a0 := some ⟨k, 0, none⟩) (a1 := ((n : Int), x0, x1, x2, x3, ())) (run _ w6 hf h _ fun w'' h => hJ1 w'' h)))))))
    · refine cs.no (by simp; omega) (ldI.mk (h.p2.cell rfl) (jn.at (t := ()) (fun w' => Ok e (pts c [.int .i64 r.1.1, .int .i64 r.1.2] :: pts d [.int .i64 0, .int .i64 0] :: pts b [.int .i64 (n : Int), .int .i64 x0, .int .i64 x1, .int .i64 x2, .int .i64 x3] :: kerP k A r.2 :: old e :: L) w') (fun J0 hJ0 => ?_) (fun w' h => hJ w' h)))
      refine cs.no (by simp; omega) (ldI.mk (h.p2.cell rfl) (jn.at (t := ()) (fun w' => Ok e (pts c [.int .i64 r.1.1, .int .i64 r.1.2] :: pts d [.int .i64 0, .int .i64 0] :: pts b [.int .i64 (n : Int), .int .i64 x0, .int .i64 x1, .int .i64 x2, .int .i64 x3] :: kerP k A r.2 :: old e :: L) w') (fun J1 hJ1 => ?_) (fun w' h => hJ0 w' h)))
      refine cs.no (by simp; omega) (ldI.mk (h.p2.cell rfl) (jn.at (t := ()) (fun w' => Ok e (pts c [.int .i64 r.1.1, .int .i64 r.1.2] :: pts d [.int .i64 0, .int .i64 0] :: pts b [.int .i64 (n : Int), .int .i64 x0, .int .i64 x1, .int .i64 x2, .int .i64 x3] :: kerP k A r.2 :: old e :: L) w') (fun J2 hJ2 => ?_) (fun w' h => hJ1 w' h)))
      exact cs.yes (by simp; omega) (ldI.mk (h.p2.cell rfl) (ldI.mk (h.p2.cell rfl) (ldI.mk (h.p2.cell rfl) (ldI.mk (h.p2.cell rfl) (ldI.mk (h.p2.cell rfl) (call82 (a0 := some ⟨k, 0, none⟩) (a1 := ((n : Int), x0, x1, x2, x3, ())) (run _ w6 hf h _ fun w'' h => hJ2 w'' h)))))))
    · refine cs.no (by simp; omega) (ldI.mk (h.p2.cell rfl) (jn.at (t := ()) (fun w' => Ok e (pts c [.int .i64 r.1.1, .int .i64 r.1.2] :: pts d [.int .i64 0, .int .i64 0] :: pts b [.int .i64 (n : Int), .int .i64 x0, .int .i64 x1, .int .i64 x2, .int .i64 x3] :: kerP k A r.2 :: old e :: L) w') (fun J0 hJ0 => ?_) (fun w' h => hJ w' h)))
      refine cs.no (by simp; omega) (ldI.mk (h.p2.cell rfl) (jn.at (t := ()) (fun w' => Ok e (pts c [.int .i64 r.1.1, .int .i64 r.1.2] :: pts d [.int .i64 0, .int .i64 0] :: pts b [.int .i64 (n : Int), .int .i64 x0, .int .i64 x1, .int .i64 x2, .int .i64 x3] :: kerP k A r.2 :: old e :: L) w') (fun J1 hJ1 => ?_) (fun w' h => hJ0 w' h)))
      refine cs.no (by simp; omega) (ldI.mk (h.p2.cell rfl) (jn.at (t := ()) (fun w' => Ok e (pts c [.int .i64 r.1.1, .int .i64 r.1.2] :: pts d [.int .i64 0, .int .i64 0] :: pts b [.int .i64 (n : Int), .int .i64 x0, .int .i64 x1, .int .i64 x2, .int .i64 x3] :: kerP k A r.2 :: old e :: L) w') (fun J2 hJ2 => ?_) (fun w' h => hJ1 w' h)))
      refine cs.no (by simp; omega) (ldI.mk (h.p2.cell rfl) (jn.at (t := ()) (fun w' => Ok e (pts c [.int .i64 r.1.1, .int .i64 r.1.2] :: pts d [.int .i64 0, .int .i64 0] :: pts b [.int .i64 (n : Int), .int .i64 x0, .int .i64 x1, .int .i64 x2, .int .i64 x3] :: kerP k A r.2 :: old e :: L) w') (fun J3 hJ3 => ?_) (fun w' h => hJ2 w' h)))
      exact cs.yes (by simp; omega) (ldI.mk (h.p2.cell rfl) (ldI.mk (h.p2.cell rfl) (ldI.mk (h.p2.cell rfl) (ldI.mk (h.p2.cell rfl) (ldI.mk (h.p2.cell rfl) (call83 (a0 := some ⟨k, 0, none⟩) (a1 := ((n : Int), x0, x1, x2, x3, ())) (run _ w6 hf h _ fun w'' h => hJ3 w'' h)))))))
    · refine cs.no (by simp; omega) (ldI.mk (h.p2.cell rfl) (jn.at (t := ()) (fun w' => Ok e (pts c [.int .i64 r.1.1, .int .i64 r.1.2] :: pts d [.int .i64 0, .int .i64 0] :: pts b [.int .i64 (n : Int), .int .i64 x0, .int .i64 x1, .int .i64 x2, .int .i64 x3] :: kerP k A r.2 :: old e :: L) w') (fun J0 hJ0 => ?_) (fun w' h => hJ w' h)))
      refine cs.no (by simp; omega) (ldI.mk (h.p2.cell rfl) (jn.at (t := ()) (fun w' => Ok e (pts c [.int .i64 r.1.1, .int .i64 r.1.2] :: pts d [.int .i64 0, .int .i64 0] :: pts b [.int .i64 (n : Int), .int .i64 x0, .int .i64 x1, .int .i64 x2, .int .i64 x3] :: kerP k A r.2 :: old e :: L) w') (fun J1 hJ1 => ?_) (fun w' h => hJ0 w' h)))
      refine cs.no (by simp; omega) (ldI.mk (h.p2.cell rfl) (jn.at (t := ()) (fun w' => Ok e (pts c [.int .i64 r.1.1, .int .i64 r.1.2] :: pts d [.int .i64 0, .int .i64 0] :: pts b [.int .i64 (n : Int), .int .i64 x0, .int .i64 x1, .int .i64 x2, .int .i64 x3] :: kerP k A r.2 :: old e :: L) w') (fun J2 hJ2 => ?_) (fun w' h => hJ1 w' h)))
      refine cs.no (by simp; omega) (ldI.mk (h.p2.cell rfl) (jn.at (t := ()) (fun w' => Ok e (pts c [.int .i64 r.1.1, .int .i64 r.1.2] :: pts d [.int .i64 0, .int .i64 0] :: pts b [.int .i64 (n : Int), .int .i64 x0, .int .i64 x1, .int .i64 x2, .int .i64 x3] :: kerP k A r.2 :: old e :: L) w') (fun J3 hJ3 => ?_) (fun w' h => hJ2 w' h)))
      refine cs.no (by simp; omega) (ldI.mk (h.p2.cell rfl) (jn.at (t := ()) (fun w' => Ok e (pts c [.int .i64 r.1.1, .int .i64 r.1.2] :: pts d [.int .i64 0, .int .i64 0] :: pts b [.int .i64 (n : Int), .int .i64 x0, .int .i64 x1, .int .i64 x2, .int .i64 x3] :: kerP k A r.2 :: old e :: L) w') (fun J4 hJ4 => ?_) (fun w' h => hJ3 w' h)))
      exact cs.yes (by simp; omega) (ldI.mk (h.p2.cell rfl) (ldI.mk (h.p2.cell rfl) (ldI.mk (h.p2.cell rfl) (ldI.mk (h.p2.cell rfl) (ldI.mk (h.p2.cell rfl) (call84 (a0 := some ⟨k, 0, none⟩) (a1 := ((n : Int), x0, x1, x2, x3, ())) (run _ w6 hf h _ fun w'' h => hJ4 w'' h)))))))
    · refine cs.no (by simp; omega) (ldI.mk (h.p2.cell rfl) (jn.at (t := ()) (fun w' => Ok e (pts c [.int .i64 r.1.1, .int .i64 r.1.2] :: pts d [.int .i64 0, .int .i64 0] :: pts b [.int .i64 (n : Int), .int .i64 x0, .int .i64 x1, .int .i64 x2, .int .i64 x3] :: kerP k A r.2 :: old e :: L) w') (fun J0 hJ0 => ?_) (fun w' h => hJ w' h)))
      refine cs.no (by simp; omega) (ldI.mk (h.p2.cell rfl) (jn.at (t := ()) (fun w' => Ok e (pts c [.int .i64 r.1.1, .int .i64 r.1.2] :: pts d [.int .i64 0, .int .i64 0] :: pts b [.int .i64 (n : Int), .int .i64 x0, .int .i64 x1, .int .i64 x2, .int .i64 x3] :: kerP k A r.2 :: old e :: L) w') (fun J1 hJ1 => ?_) (fun w' h => hJ0 w' h)))
      refine cs.no (by simp; omega) (ldI.mk (h.p2.cell rfl) (jn.at (t := ()) (fun w' => Ok e (pts c [.int .i64 r.1.1, .int .i64 r.1.2] :: pts d [.int .i64 0, .int .i64 0] :: pts b [.int .i64 (n : Int), .int .i64 x0, .int .i64 x1, .int .i64 x2, .int .i64 x3] :: kerP k A r.2 :: old e :: L) w') (fun J2 hJ2 => ?_) (fun w' h => hJ1 w' h)))
      refine cs.no (by simp; omega) (ldI.mk (h.p2.cell rfl) (jn.at (t := ()) (fun w' => Ok e (pts c [.int .i64 r.1.1, .int .i64 r.1.2] :: pts d [.int .i64 0, .int .i64 0] :: pts b [.int .i64 (n : Int), .int .i64 x0, .int .i64 x1, .int .i64 x2, .int .i64 x3] :: kerP k A r.2 :: old e :: L) w') (fun J3 hJ3 => ?_) (fun w' h => hJ2 w' h)))
      refine cs.no (by simp; omega) (ldI.mk (h.p2.cell rfl) (jn.at (t := ()) (fun w' => Ok e (pts c [.int .i64 r.1.1, .int .i64 r.1.2] :: pts d [.int .i64 0, .int .i64 0] :: pts b [.int .i64 (n : Int), .int .i64 x0, .int .i64 x1, .int .i64 x2, .int .i64 x3] :: kerP k A r.2 :: old e :: L) w') (fun J4 hJ4 => ?_) (fun w' h => hJ3 w' h)))
      refine cs.no (by simp; omega) (ldI.mk (h.p2.cell rfl) (jn.at (t := ()) (fun w' => Ok e (pts c [.int .i64 r.1.1, .int .i64 r.1.2] :: pts d [.int .i64 0, .int .i64 0] :: pts b [.int .i64 (n : Int), .int .i64 x0, .int .i64 x1, .int .i64 x2, .int .i64 x3] :: kerP k A r.2 :: old e :: L) w') (fun J5 hJ5 => ?_) (fun w' h => hJ4 w' h)))
      exact cs.yes (by simp; omega) (ldI.mk (h.p2.cell rfl) (ldI.mk (h.p2.cell rfl) (ldI.mk (h.p2.cell rfl) (ldI.mk (h.p2.cell rfl) (ldI.mk (h.p2.cell rfl) (call85 (a0 := some ⟨k, 0, none⟩) (a1 := ((n : Int), x0, x1, x2, x3, ())) (run _ w6 hf h _ fun w'' h => hJ5 w'' h)))))))
    · refine cs.no (by simp; omega) (ldI.mk (h.p2.cell rfl) (jn.at (t := ()) (fun w' => Ok e (pts c [.int .i64 r.1.1, .int .i64 r.1.2] :: pts d [.int .i64 0, .int .i64 0] :: pts b [.int .i64 (n : Int), .int .i64 x0, .int .i64 x1, .int .i64 x2, .int .i64 x3] :: kerP k A r.2 :: old e :: L) w') (fun J0 hJ0 => ?_) (fun w' h => hJ w' h)))
      refine cs.no (by simp; omega) (ldI.mk (h.p2.cell rfl) (jn.at (t := ()) (fun w' => Ok e (pts c [.int .i64 r.1.1, .int .i64 r.1.2] :: pts d [.int .i64 0, .int .i64 0] :: pts b [.int .i64 (n : Int), .int .i64 x0, .int .i64 x1, .int .i64 x2, .int .i64 x3] :: kerP k A r.2 :: old e :: L) w') (fun J1 hJ1 => ?_) (fun w' h => hJ0 w' h)))
      refine cs.no (by simp; omega) (ldI.mk (h.p2.cell rfl) (jn.at (t := ()) (fun w' => Ok e (pts c [.int .i64 r.1.1, .int .i64 r.1.2] :: pts d [.int .i64 0, .int .i64 0] :: pts b [.int .i64 (n : Int), .int .i64 x0, .int .i64 x1, .int .i64 x2, .int .i64 x3] :: kerP k A r.2 :: old e :: L) w') (fun J2 hJ2 => ?_) (fun w' h => hJ1 w' h)))
      refine cs.no (by simp; omega) (ldI.mk (h.p2.cell rfl) (jn.at (t := ()) (fun w' => Ok e (pts c [.int .i64 r.1.1, .int .i64 r.1.2] :: pts d [.int .i64 0, .int .i64 0] :: pts b [.int .i64 (n : Int), .int .i64 x0, .int .i64 x1, .int .i64 x2, .int .i64 x3] :: kerP k A r.2 :: old e :: L) w') (fun J3 hJ3 => ?_) (fun w' h => hJ2 w' h)))
      refine cs.no (by simp; omega) (ldI.mk (h.p2.cell rfl) (jn.at (t := ()) (fun w' => Ok e (pts c [.int .i64 r.1.1, .int .i64 r.1.2] :: pts d [.int .i64 0, .int .i64 0] :: pts b [.int .i64 (n : Int), .int .i64 x0, .int .i64 x1, .int .i64 x2, .int .i64 x3] :: kerP k A r.2 :: old e :: L) w') (fun J4 hJ4 => ?_) (fun w' h => hJ3 w' h)))
      refine cs.no (by simp; omega) (ldI.mk (h.p2.cell rfl) (jn.at (t := ()) (fun w' => Ok e (pts c [.int .i64 r.1.1, .int .i64 r.1.2] :: pts d [.int .i64 0, .int .i64 0] :: pts b [.int .i64 (n : Int), .int .i64 x0, .int .i64 x1, .int .i64 x2, .int .i64 x3] :: kerP k A r.2 :: old e :: L) w') (fun J5 hJ5 => ?_) (fun w' h => hJ4 w' h)))
      refine cs.no (by simp; omega) ?_
      exact ldI.mk (h.p2.cell rfl) (ldI.mk (h.p2.cell rfl) (ldI.mk (h.p2.cell rfl) (ldI.mk (h.p2.cell rfl) (ldI.mk (h.p2.cell rfl) (call86 (a0 := some ⟨k, 0, none⟩) (a1 := ((n : Int), x0, x1, x2, x3, ())) (run _ w6 hf h _ fun w'' h => hJ5 w'' h))))))


end Go.Proofs.YtenonfkfoedfmaaGreatDoor.B


/- The task that a call names; steps at the end of a call. -/
namespace Go.Proofs.YtenonfkfoedfmaaGreatDoor.B
open Go
set_option linter.unusedVariables false

/-- does a call name no task? -/
def noName (n : Nat) : Bool := [4, 8, 9, 10, 11, 12, 13, 22].contains n

def other (n : Nat) : Bool := [5, 17, 20, 21].contains n

def nmd (K : KM) (n : Nat) (kd x : Int) : Int := if noName n = true then K.who else K.named x (!other n && decide (kd ≠ 3))

theorem named_kern {e w L k A K R} {n : Nat} {a kd x0 x1 x2 x3 : Int} (h : Ok e (kerP k A K :: L) w) (hn : akL[n]? = some (a, kd)) (h0 : 0 < n) (h22 : n ≤ 22)
    (kk : ∀ w', Ok e (kerP k A K :: L) w' → R [.int .i64 (nmd K n kd x0)] w') : sh130 (some ⟨k, 0, none⟩) ((n : Int), x0, x1, x2, x3, ()) R w := by
  obtain ⟨ho, h⟩ := kerE h
  have hul := ptrsB_len h.p1
  have hus := ho.us
  unfold sh130
  refine al.mk h fun b w1 h => ldI.mk (h.cell rfl) ?_
  have who : noName n = true → nn (some ⟨k, 0, none⟩) fun b8 o9 => ldI w1 .i64 b8 (o9 + 12) fun n10 => R [.int .i64 n10] w1 := fun hw => nn.mk (ldI.mk (h.p1.cell rfl) (by
    have := kk w1 (kerI ho h.drop)
    unfold nmd at this
    rw [if_pos hw] at this
    exact this))
  have hk2 : ∀ w2, Ok e (pts b [.int .i64 (n : Int), .int .i64 x0, .int .i64 x1, .int .i64 x2, .int .i64 x3] :: pts k (kC A K) :: unitsP A.ub A.us K.us :: kR A K L) w2 → ∀ z, nmd K n kd x0 = z → R [.int .i64 z] w2 := fun w2 h z hz => hz ▸ kk w2 (kerI ho h.drop)
  clear kk
  refine jn.bool (noName n) (fun J hJ => ?_) (cs.mk (fun hw => who hw) (fun hw => ?_))
  · clear who hk2 h
    have hc : n = 1 ∨ n = 2 ∨ n = 3 ∨ n = 4 ∨ n = 5 ∨ n = 6 ∨ n = 7 ∨ n = 8 ∨ n = 9 ∨ n = 10 ∨ n = 11 ∨ n = 12 ∨ n = 13 ∨ n = 14 ∨ n = 15 ∨ n = 16 ∨ n = 17 ∨ n = 18 ∨ n = 19 ∨ n = 20 ∨ n = 21 ∨ n = 22 := by omega
    rcases hc with rfl | rfl | rfl | rfl | rfl | rfl | rfl | rfl | rfl | rfl | rfl | rfl | rfl | rfl | rfl | rfl | rfl | rfl | rfl | rfl | rfl | rfl
    all_goals (repeat (first | ((with_reducible refine cs.yes ?_ ?_); · rfl) | ((with_reducible refine cs.no ?_ ?_); · rfl) | refine jn.mk fun J hJ => ?_ | with_reducible apply_assumption -exfalso -symm))
  refine ⟨by decide, by decide, ldI.mk (h.cell rfl) ?_⟩
  have hnm : nmd K n kd x0 = K.named x0 (!other n && decide (kd ≠ 3)) := by unfold nmd; rw [if_neg (by intro hc; rw [show noName n = false from hw] at hc; cases hc)]
  rw [hnm] at hk2
  refine jn.bool (decide (1 ≤ x0 ∧ x0 ≤ K.us.length)) (fun J hJ => ?_) (cs.mk (fun h1 => ?_) (fun h1 => ?_))
  · refine cs.mk (fun h1 => ?_) (fun h1 => ?_)
    · have h1 : x0 ≥ 1 := of_decide_eq_true h1
      refine nn.mk (ldS.mk (h.p1.cell rfl) ?_)
      rw [show decide ((x0 : Int) < ((A.us.len : Int) : Int)) = decide (1 ≤ x0 ∧ x0 ≤ K.us.length) from decide_eq_decide.2 (by simp at hul; omega)]
      exact hJ
    · have h1 : ¬ x0 ≥ 1 := of_decide_eq_false h1
      rw [show decide (1 ≤ x0 ∧ x0 ≤ K.us.length) = false from decide_eq_false (by omega)] at hJ
      exact hJ
  · have h1 := of_decide_eq_true h1
    exact hk2 w1 h x0 (if_pos h1)
  have h1 := of_decide_eq_false h1
  refine ldI.mk (h.cell rfl) (jn.bool (other n) (fun J hJ => ?_) (cs.mk (fun h2 => ?_) (fun h2 => ?_)))
  · clear who hk2 h
    have hc : n = 1 ∨ n = 2 ∨ n = 3 ∨ n = 4 ∨ n = 5 ∨ n = 6 ∨ n = 7 ∨ n = 8 ∨ n = 9 ∨ n = 10 ∨ n = 11 ∨ n = 12 ∨ n = 13 ∨ n = 14 ∨ n = 15 ∨ n = 16 ∨ n = 17 ∨ n = 18 ∨ n = 19 ∨ n = 20 ∨ n = 21 ∨ n = 22 := by omega
    rcases hc with rfl | rfl | rfl | rfl | rfl | rfl | rfl | rfl | rfl | rfl | rfl | rfl | rfl | rfl | rfl | rfl | rfl | rfl | rfl | rfl | rfl | rfl
    all_goals (repeat (first | ((with_reducible refine cs.yes ?_ ?_); · rfl) | ((with_reducible refine cs.no ?_ ?_); · rfl) | refine jn.mk fun J hJ => ?_ | with_reducible apply_assumption -exfalso -symm))
  · have h2 : other n = true := h2
    refine hk2 w1 h 0 ?_
    unfold KM.named
    rw [if_neg h1, if_neg (by rw [h2]; simp)]
  · have h2 : other n = false := h2
    refine ⟨by decide, by decide, ldI.mk (h.cell rfl) (jn.mk fun J hJ => cs.mk (fun h3 => ?_) (fun h3 => ?_))⟩
    · have h3 : x0 = 0 := by simpa using h3
      refine ldI.mk (h.cell rfl) (ldI.mk (h.cell rfl) (ldI.mk (h.cell rfl) (ldI.mk (h.cell rfl) (ldI.mk (h.cell rfl) ?_))))
      refine call42 (a0 := ((n : Int), x0, x1, x2, x3, ())) (Kind_calls h hn h0 fun w2 h => ⟨(kd, ()), rfl, hJ _ _ (cs.mk (fun h4 => ?_) (fun h4 => ?_))⟩)
      · have h4 : ¬ kd = 3 := by simpa using h4
        refine nn.mk (ldI.mk (h.p1.cell rfl) (hk2 w2 h _ ?_))
        unfold KM.named
        rw [if_neg h1, if_pos ⟨h3, by rw [h2, decide_eq_true h4]; rfl⟩]
      · have h4 : kd = 3 := by simpa using h4
        refine hk2 w2 h 0 ?_
        unfold KM.named
        rw [if_neg h1, if_neg (by rw [decide_eq_false (fun hc => hc h4)]; simp)]
    · have h3 : ¬ x0 = 0 := by simpa using h3
      refine hJ _ _ (cs.no rfl (hk2 w1 h 0 ?_))
      unfold KM.named
      rw [if_neg h1, if_neg (fun hc => h3 hc.1)]

section
variable {e : World} {L : List SP} {w : World} {d : Nat} {c v : Int} {R : List Value → World → Prop}

/-- a call ends with a code alone -/
theorem fin_code (h : Ok e (pts d [.int .i64 0, .int .i64 0] :: L) w) (k : ∀ w', Ok e L w' → R [.agg #[.int .i64 c, .int .i64 0]] w') :
    cl Pg 77 [.int .i64 c, .slice none 0 0] [.a [(.i .i64), (.i .i64)]] w fun (r : (Int × Int × Unit) × Unit) w1 => st1 w1 d 0 (.int .i64 r.1.1) fun w2 => st1 w2 d (0 + 1) (.int .i64 r.1.2.1) fun w3 => ldI w3 .i64 d 0 fun n => ldI w3 .i64 d (0 + 1) fun m => R [.agg #[.int .i64 n, .int .i64 m]] w3 := by
  refine call77 (a1 := ⟨none, 0, 0⟩) (say_code h rfl fun w1 h => ⟨((c, (0 : Int), ()), ()), rfl, ?_⟩)
  exact st1.mk h (by simp) fun w2 h => st1.mk h (by simp) fun w3 h => ldI.mk (h.cell rfl) (ldI.mk (h.cell rfl) (k w3 h.drop))

/-- what a call answers is kept -/
theorem fin_res (h : Ok e (pts d [.int .i64 0, .int .i64 0] :: L) w) (k : ∀ w', Ok e L w' → R [.agg #[.int .i64 c, .int .i64 v]] w') :
    st1 w d 0 (.int .i64 c) fun w2 => st1 w2 d (0 + 1) (.int .i64 v) fun w3 => ldI w3 .i64 d 0 fun n => ldI w3 .i64 d (0 + 1) fun m => R [.agg #[.int .i64 n, .int .i64 m]] w3 :=
  st1.mk h (by simp) fun w2 h => st1.mk h (by simp) fun w3 h => ldI.mk (h.cell rfl) (ldI.mk (h.cell rfl) (k w3 h.drop))

end

end Go.Proofs.YtenonfkfoedfmaaGreatDoor.B


/- Configurations: checked, laid out. -/
namespace Go.Proofs.YtenonfkfoedfmaaGreatDoor.B
open Go
set_option linter.unusedVariables false

/-- where a configuration's rows lie -/
structure CfS where
  ts : Sl
  ss : Sl
  ds : Sl
  ms : Sl
  ps : Sl

def taC (x : Int × Bool) : List Value := [.int .i64 x.1, .bool x.2]

def seC (x : Bool × Int × Int) : List Value := [.bool x.1, .int .i64 x.2.1, .int .i64 x.2.2]

def daC (x : Bool × Int) : List Value := [.bool x.1, .int .i64 x.2]

theorem taC_len (a : Int × Bool) : (taC a).length = 2 := rfl

theorem seC_len (a : Bool × Int × Int) : (seC a).length = 3 := rfl

theorem daC_len (a : Bool × Int) : (daC a).length = 2 := rfl

theorem taC_one (a : Int × Bool) : ∀ v ∈ taC a, v.oneCell' = true := by
  intro v hv
  simp [taC] at hv
  rcases hv with rfl | rfl <;> rfl

abbrev cfC (c : ConfM) (S : CfS) : List Value := [.int .i64 c.tic, vS S.ts, vS S.ss, vS ⟨none, 0, 0⟩, vS S.ds, vS S.ms, vS S.ps, vS ⟨none, 0, 0⟩, .int .i64 0]

abbrev cfR (c : ConfM) (S : CfS) (L : List SP) : List SP :=
  slc 2 S.ts (flat taC c.tasks) :: slc 3 S.ss (flat seC c.sems) :: slc 2 S.ds (flat daC c.datas) :: slc 2 S.ms (flat kdC c.mtxs) :: slc 3 S.ps (flat seC c.pools) :: L

abbrev cfV (c : ConfM) (S : CfS) : (Int × Sl × Sl × Sl × Sl × Sl × Sl × Sl × Int × Unit) := (c.tic, S.ts, S.ss, ⟨none, 0, 0⟩, S.ds, S.ms, S.ps, ⟨none, 0, 0⟩, 0, ())

theorem kdC_one1 (a : Int × Int) : ∀ v ∈ kdC a, v.oneCell' = true := by
  intro v hv
  simp [kdC] at hv
  rcases hv with rfl | rfl <;> rfl

theorem mul_bd2 {a b : Int} (ha : 0 ≤ a ∧ a ≤ 256) (hb : 0 ≤ b ∧ b ≤ 4096) : 0 ≤ a * b ∧ a * b ≤ 1048576 :=
  ⟨Int.mul_nonneg ha.1 hb.1, Int.le_trans (Int.mul_le_mul_of_nonneg_right ha.2 hb.1) (by omega)⟩

theorem Align_nums0 {w z} {R : List Value → World → Prop} (hz : 0 ≤ z ∧ z ≤ 1073741824) (k : R [.int .i64 (stp z)] w) : sh127 z 4 R w := by
  unfold sh127
  refine jn.bool (false) (fun J hJ => ?_) ?_
  · refine cs.no (decide_eq_false (by omega)) ?_
    rw [show decide (z > 1073741824) = false from decide_eq_false (by omega)]
    exact hJ
  refine jn.bool (false) (fun J hJ => ?_) ?_
  · exact cs.no rfl hJ
  refine jn.bool (false) (fun J hJ => ?_) ?_
  · exact cs.no rfl hJ
  refine cs.no rfl (ob.mk (by decide) ?_)
  rw [w64_in (x := z + 4) (by omega) (by omega), w64_in (x := z + 4 - 1) (by omega) (by omega), Int.tdiv_eq_ediv_of_nonneg (by omega), w64_in (x := (z + 4 - 1) / 4) (by omega) (by omega), w64_in (by omega) (by omega), show z + 4 - 1 = z + 3 by omega]
  exact k

theorem next_conf {e w L a p R} (h : Ok e L w) (ha : 0 ≤ a ∧ a ≤ 1048576) (hp : 1 ≤ p.2.1 ∧ p.2.1 ≤ 256 ∧ 1 ≤ p.2.2.1 ∧ p.2.2.1 ≤ 4096) (k : ∀ w', Ok e L w' → R [.int .i64 (stp a), .int .i64 (stp a + p.2.1 * stp p.2.2.1)] w') : sh71 a p R w := by
  unfold sh71
  have hm := mul_bd2 (a := p.2.1) (b := stp p.2.2.1) (by omega) (by have := stp_bd hp.2.2; omega)
  have ha4 : 0 ≤ stp a ∧ stp a ≤ 1048580 := by unfold stp; omega
  refine al.mk h fun b w1 h => ?_
  refine call127 (Align_nums0 (by omega) ⟨(stp a, ()), rfl, ldI.mk (h.cell rfl) ?_⟩)
  refine jn.bool (false) (fun J hJ => ?_) ?_
  · refine cs.no (decide_eq_false (by omega)) (ldI.mk (h.cell rfl) ?_)
    rw [show decide (p.2.1 > 65536) = false from decide_eq_false (by omega)]
    exact hJ
  refine jn.bool (false) (fun J hJ => ?_) ?_
  · refine cs.no rfl (ldI.mk (h.cell rfl) ?_)
    rw [show decide (p.2.2.1 < 0) = false from decide_eq_false (by omega)]
    exact hJ
  refine jn.bool (false) (fun J hJ => ?_) ?_
  · refine cs.no rfl (ldI.mk (h.cell rfl) ?_)
    rw [show decide (p.2.2.1 > 65536) = false from decide_eq_false (by omega)]
    exact hJ
  refine cs.no rfl (dr.mk h fun w2 h => ldI.mk (h.cell rfl) (ldI.mk (h.cell rfl) ?_))
  refine call127 (Align_nums0 (by omega) ⟨(stp p.2.2.1, ()), rfl, h.cell rfl, ?_⟩)
  have h5 : w64 (p.2.1 * stp p.2.2.1) = p.2.1 * stp p.2.2.1 := w64_in (by omega) (by omega)
  rw [h5, w64_in (by omega) (by omega)]
  exact k _ h.drop

theorem pools_get {ps : List (Bool × Int × Int)} {a : Int} {i : Nat} {p} (h : poolsOk a ps = true) (hp : ps[i]? = some p) : mpGood (stp (bytesM a (ps.take i))) p.2.1 p.2.2 ∧ bytesM a (ps.take (i + 1)) = stp (bytesM a (ps.take i)) + p.2.1 * stp p.2.2 := by
  induction ps generalizing a i with
  | nil => simp at hp
  | cons q ps ih =>
    simp only [poolsOk, Bool.and_eq_true, decide_eq_true_eq] at h
    cases i with
    | zero => cases hp; exact ⟨h.1, rfl⟩
    | succ i => exact ih h.2 (by simpa using hp)

theorem pools_bd {ps : List (Bool × Int × Int)} (h : poolsOk 0 ps = true) (i : Nat) : 0 ≤ bytesM 0 (ps.take i) ∧ bytesM 0 (ps.take i) ≤ 65536 := by
  induction i with
  | zero => simp [bytesM]
  | succ i ih =>
    by_cases hi : i < ps.length
    · obtain ⟨h1, h2⟩ := pools_get h (List.getElem?_eq_getElem hi)
      rw [h2]
      obtain ⟨h3, h4, -, h5, h6, h7, h8, h9⟩ := h1
      have := mul_bd2 (a := ps[i].2.1) (b := stp ps[i].2.2) (by omega) (by have := stp_bd ⟨h7, h8⟩; omega)
      omega
    · rw [List.take_of_length_le (by omega)] at ih ⊢
      exact ih

theorem Check1 {e w L b c S R} {i : Int} (h : Ok e (pts b (cfC c S) :: slc 2 S.ts (flat taC c.tasks) :: L) w) (hi : 0 ≤ i ∧ i < c.tasks.length) (ht : ∀ x ∈ c.tasks, 1 ≤ x.1 ∧ x.1 ≤ 16) (k : R [.int .i64 0] w) : sh174 i b R w := by
  unfold sh174
  refine ldS.mk (h.cell rfl) (ix_flat taC_len (by decide) h.p1 (by omega) (by omega) fun b2 o y hy _ _ hc => ldI.mk (hc 0 _ rfl _ ⟨_, h.p1⟩) ?_)
  have hy := ht y (List.mem_of_getElem? hy)
  refine jn.bool (false) (fun J hJ => ?_) ?_
  · refine cs.no (decide_eq_false (by omega)) ?_
    rw [show decide (y.1 > 16) = false from decide_eq_false (by omega)]
    exact hJ
  exact cs.no rfl k

theorem Check2 {e w L b c S R} {i : Int} (h : Ok e (pts b (cfC c S) :: slc 3 S.ss (flat seC c.sems) :: L) w) (hi : 0 ≤ i ∧ i < c.sems.length) (ht : ∀ x ∈ c.sems, semOk x.2.1 x.2.2) (k : ∀ w', Ok e (pts b (cfC c S) :: slc 3 S.ss (flat seC c.sems) :: L) w' → R [.int .i64 0] w') : sh176 i b R w := by
  unfold sh176
  refine dr.mk h fun w1 h => ldS.mk (h.cell rfl) (ix_flat seC_len (by decide) h.p1 (by omega) (by omega) fun b2 o2 y hy _ _ hc => ldB.mk (hc 0 _ rfl _ ⟨_, h.p1⟩) ?_)
  refine ldS.mk (h.cell rfl) (ix_flat seC_len (by decide) h.p1 (by omega) (by omega) fun b3 o3 y3 hy3 _ _ hc3 => ldI.mk (hc3 1 _ rfl _ ⟨_, h.p1⟩) ?_)
  refine ldS.mk (h.cell rfl) (ix_flat seC_len (by decide) h.p1 (by omega) (by omega) fun b4 o4 y4 hy4 _ _ hc4 => ldI.mk (hc4 2 _ rfl _ ⟨_, h.p1⟩) ?_)
  rw [hy] at hy3 hy4; cases hy3; cases hy4
  refine call43 (New_sem h (fun hn => absurd (ht y (List.mem_of_getElem? hy)) hn) fun _ s p w2 h => ⟨(some ⟨s, 0, none⟩, (0 : Int), ()), rfl, k w2 h.drop.drop⟩)

theorem Check3 {e w L b c S R} {i : Int} (h : Ok e (pts b (cfC c S) :: slc 2 S.ds (flat daC c.datas) :: L) w) (hi : 0 ≤ i ∧ i < c.datas.length) (ht : ∀ x ∈ c.datas, 0 ≤ x.2 ∧ x.2 ≤ 64) (k : ∀ w', Ok e (pts b (cfC c S) :: slc 2 S.ds (flat daC c.datas) :: L) w' → R [.int .i64 0] w') : sh178 i b R w := by
  unfold sh178
  refine dr.mk h fun w1 h => ldS.mk (h.cell rfl) (ix_flat daC_len (by decide) h.p1 (by omega) (by omega) fun b2 o2 y hy _ _ hc => ldB.mk (hc 0 _ rfl _ ⟨_, h.p1⟩) ?_)
  refine ldS.mk (h.cell rfl) (ix_flat daC_len (by decide) h.p1 (by omega) (by omega) fun b3 o3 y3 hy3 _ _ hc3 => ldI.mk (hc3 1 _ rfl _ ⟨_, h.p1⟩) ?_)
  rw [hy] at hy3; cases hy3
  refine call179 (New_dtq h (fun hn => absurd (ht y (List.mem_of_getElem? hy)) hn) fun _ s w2 h => ⟨(some ⟨s, 0, none⟩, (0 : Int), ()), rfl, k w2 h.drop⟩)

theorem Check4 {e w L b c S R} {i : Int} (h : Ok e (pts b (cfC c S) :: slc 2 S.ms (flat kdC c.mtxs) :: L) w) (hi : 0 ≤ i ∧ i < c.mtxs.length) (ht : ∀ x ∈ c.mtxs, MM.right x = true) (k : ∀ w', Ok e (pts b (cfC c S) :: slc 2 S.ms (flat kdC c.mtxs) :: L) w' → R [.int .i64 0] w') : sh180 i b R w := by
  unfold sh180
  refine ldS.mk (h.cell rfl) (ix_flat kdC_len (by decide) h.p1 (by omega) (by omega) fun b2 o2 y hy _ _ hc => ldI.mk (hc 0 _ rfl _ ⟨_, h.p1⟩) (ldI.mk (hc 1 _ rfl _ ⟨_, h.p1⟩) ?_))
  refine al.mk h fun b3 w1 h => ?_
  have h : Ok e (slc 2 ⟨some ⟨b3, 0, none⟩, 1, 1⟩ (flat kdC [y]) :: pts b (cfC c S) :: slc 2 S.ms (flat kdC c.mtxs) :: L) w1 := Ok.slcNew (vs := flat kdC [y]) h rfl (flat_one kdC_one1)
  refine call30 (a0 := ⟨some ⟨b3, 0, none⟩, 1, 1⟩) (New_mtx h (by simp) (fun z hz => ?_) fun a w2 h => ⟨(some ⟨a, 0, none⟩, (0 : Int), ()), rfl, k w2 h.drop.drop⟩)
  rw [List.mem_singleton.1 hz]
  exact ht y (List.mem_of_getElem? hy)

theorem Check5 {e w L b d c S R} {i : Nat} (h : Ok e (pts d [.int .i64 (bytesM 0 (c.pools.take i))] :: pts b (cfC c S) :: slc 3 S.ps (flat seC c.pools) :: L) w) (hi : i < c.pools.length) (ht : poolsOk 0 c.pools = true) (k : ∀ w', Ok e (pts d [.int .i64 (bytesM 0 (c.pools.take (i + 1)))] :: pts b (cfC c S) :: slc 3 S.ps (flat seC c.pools) :: L) w' → R [.int .i64 0] w') : sh181 (i : Int) d b R w := by
  unfold sh181
  obtain ⟨hg, hn⟩ := pools_get ht (List.getElem?_eq_getElem hi)
  rw [hn] at k
  have hbd := pools_bd ht i
  have hg2 := hg
  obtain ⟨-, -, -, g1, g2, g3, g4, -⟩ := hg2
  have rd : ∀ {w1 L1} {g : Nat → Nat → Prop}, Ok e (slc 3 S.ps (flat seC c.pools) :: L1) w1 → (∀ b2 o2, (∀ w', (∃ L', Ok e (slc 3 S.ps (flat seC c.pools) :: L') w') → w'.cell? ⟨b2, o2, none⟩ = some (.bool c.pools[i].1) ∧ w'.cell? ⟨b2, o2 + 1, none⟩ = some (.int .i64 c.pools[i].2.1) ∧ w'.cell? ⟨b2, o2 + 2, none⟩ = some (.int .i64 c.pools[i].2.2)) → g b2 o2) → ix S.ps (i : Int) 3 g := by
    intro w1 L1 g h hg
    refine ix_flat seC_len (by decide) h (by omega) (by omega) fun b2 o2 y hy _ _ hc => hg b2 o2 fun w' hw' => ?_
    rw [Int.toNat_natCast, List.getElem?_eq_getElem hi] at hy
    cases hy
    exact ⟨hc 0 _ rfl w' hw', hc 1 _ rfl w' hw', hc 2 _ rfl w' hw'⟩
  refine dr.mk h fun w1 h => ldI.mk (h.cell rfl) (ldS.mk (h.p1.cell rfl) (rd h.p2 fun b2 o2 hc => ldB.mk (hc w1 ⟨_, h.p2⟩).1 (ldI.mk (hc w1 ⟨_, h.p2⟩).2.1 (ldI.mk (hc w1 ⟨_, h.p2⟩).2.2 ?_))))
  refine call71 (a1 := (c.pools[i].1, c.pools[i].2.1, c.pools[i].2.2, ())) (next_conf h (by omega) ⟨g1, g2, g3, g4⟩ fun w2 h => ⟨(stp (bytesM 0 (c.pools.take i)), stp (bytesM 0 (c.pools.take i)) + c.pools[i].2.1 * stp c.pools[i].2.2, ()), rfl, ?_⟩)
  refine dr.mk h fun w1 h => (ldS.mk (h.p1.cell rfl) (rd h.p2 fun b2 o2 hc => ldB.mk (hc w1 ⟨_, h.p2⟩).1 ?_))
  refine ldS.mk (h.p1.cell rfl) (rd h.p2 fun b2 o2 hc => ldI.mk (hc w1 ⟨_, h.p2⟩).2.1 ?_)
  refine ldS.mk (h.p1.cell rfl) (rd h.p2 fun b2 o2 hc => ldI.mk (hc w1 ⟨_, h.p2⟩).2.2 ?_)
  refine call182 (NewPool_mpf h (fun w2 h hn => absurd hg hn) fun _ s w2 h => ⟨(some ⟨s, 0, none⟩, (0 : Int), ()), rfl, ?_⟩)
  exact st1.mk h.p1 (by simp) fun w3 h => k w3 h.p1.drop

theorem objects_conf {e w L nm n f R} (h : Ok e L w) (k : ∀ w', Ok e L w' → R [.agg #[.string nm, .string nm, .int .i64 n, .int .i64 0, .int .i64 8, vF f]] w') : sh175 nm n f R w := by
  unfold sh175
  refine al.mk h fun b w1 h => ?_
  refine st1.mk h (by simp) fun w1 h => st1.mk h (by simp) fun w1 h => st1.mk h (by simp) fun w1 h => st1.mk h (by simp) fun w1 h => st1.mk h (by simp) fun w1 h => st1.mk h (by simp) fun w1 h => ?_
  exact ⟨_, h.cell rfl, _, h.cell rfl, _, h.cell rfl, _, h.cell rfl, _, h.cell rfl, _, h.cell rfl, k w1 h.drop⟩

/-- a part of a configuration -/
structure PtD where
  nm : ByteArray
  al : ByteArray
  n : Nat
  lo : Nat
  hi : Nat
  f : Fv

def ptC (p : PtD) : List Value := [.string p.nm, .string p.al, .int .i64 p.n, .int .i64 p.lo, .int .i64 p.hi, vF p.f]

theorem ptC_len (a : PtD) : (ptC a).length = 6 := rfl

theorem ptC_one (a : PtD) : ∀ v ∈ ptC a, v.oneCell' = true := by
  intro v hv
  simp [ptC] at hv
  rcases hv with rfl | rfl | rfl | rfl | rfl | rfl <;> rfl

theorem first_conf {e w R s M} {ps : List PtD} (P : Nat → Nat → SP) (h : Ok e (slc 6 s (flat ptC ps) :: P 0 0 :: M) w) (hl : ps.length ≤ 8)
    (hp : ∀ j p, ps[j]? = some p → p.lo ≤ p.n ∧ p.n ≤ p.hi ∧ p.hi ≤ 16 ∧ enterable Pg p.f.fid = true ∧ P j p.n = P (j + 1) 0 ∧ ∀ i, i < p.n → ∀ L w (K : TK [kI] → World → Prop), Ok e (P j i :: L) w → (∀ w', Ok e (P j (i + 1) :: L) w' → K ((0 : Int), ()) w') → cl Pg p.f.fid (p.f.pre ++ ([.int .i64 (i : Int)] ++ p.f.post)) [kI] w K)
    (k : ∀ w', Ok e (P ps.length 0 :: M) w' → R [.string (bs []), .int .i64 0, .int .i64 0] w') : sh173 s R w := by
  unfold sh173
  have hsl : ps.length = s.len := slc_flat_len ptC_len (by decide) h
  refine lp.mk (fun t w1 => ∃ j : Nat, @Eq Int t.1 (j : Int) ∧ j ≤ ps.length ∧ Ok e (slc 6 s (flat ptC ps) :: P j 0 :: M) w1) (fun t _ => Int.toNat (Int.sub ps.length t.1)) ⟨0, rfl, by omega, h⟩ ?_
  rintro ⟨(t : Int), _⟩ w1 ⟨j, (rfl : t = (j : Int)), hj, h⟩
  refine cs.mk (fun h1 => ?_) (fun h1 => ?_)
  · have h1 : j < ps.length := by have := of_decide_eq_true h1; dsimp only at this; omega
    obtain ⟨g1, g2, g3, g4, g5, g6⟩ := hp j _ (List.getElem?_eq_getElem h1)
    refine ix_flat ptC_len (by decide) h (by dsimp only; omega) (by dsimp only; omega) fun b o y hy _ _ hc => ?_
    rw [show Int.toNat ((j : Int), ()).1 = j from Int.toNat_natCast j, List.getElem?_eq_getElem h1] at hy
    cases hy
    refine ⟨_, hc 0 _ rfl _ ⟨_, h⟩, _, hc 1 _ rfl _ ⟨_, h⟩, _, hc 2 _ rfl _ ⟨_, h⟩, _, hc 3 _ rfl _ ⟨_, h⟩, _, hc 4 _ rfl _ ⟨_, h⟩, _, hc 5 _ rfl _ ⟨_, h⟩, ?_⟩
    refine al.mk h fun d w2 h => ?_
    refine st1.mk h (by simp) fun w1 h => st1.mk h (by simp) fun w1 h => st1.mk h (by simp) fun w1 h => st1.mk h (by simp) fun w1 h => st1.mk h (by simp) fun w1 h => st1.mk h (by simp) fun w1 h => ?_
    refine ldI.mk (h.cell rfl) (ldI.mk (h.cell rfl) ?_)
    refine jn.bool (false) (fun J hJ => ?_) ?_
    · refine cs.no (decide_eq_false (by omega)) (ldI.mk (h.cell rfl) (ldI.mk (h.cell rfl) ?_))
      rw [show decide ((ps[j].n : Int) > (ps[j].hi : Int)) = false from decide_eq_false (by omega)]
      exact hJ
    refine cs.no rfl (ldI.mk (h.cell rfl) ?_)
    refine lp.mk (fun t w1 => ∃ i : Nat, @Eq Int t.1 (i : Int) ∧ i ≤ ps[j].n ∧ Ok e (P j i :: pts d (ptC ps[j]) :: slc 6 s (flat ptC ps) :: M) w1) (fun t _ => Int.toNat (Int.sub ps[j].n t.1)) ⟨0, rfl, by omega, h.p2⟩ ?_
    rintro ⟨(t : Int), _⟩ w3 ⟨i, (rfl : t = (i : Int)), hi, h⟩
    refine cs.mk (fun h2 => ?_) (fun h2 => ?_)
    · have h2 : i < ps[j].n := by have := of_decide_eq_true h2; dsimp only at this; omega
      refine ⟨_, h.p1.cell rfl, g4, ?_⟩
      refine g6 i h2 _ w3 _ h fun w4 h => cs.no rfl ⟨⟨i + 1, ?_, by omega, h⟩, ?_⟩
      · exact w64_in (by omega) (by omega)
      · dsimp only
        rw [w64_in (by omega) (by omega)]
        show ((ps[j].n : Int) - ((i : Int) + 1)).toNat < ((ps[j].n : Int) - (i : Int)).toNat
        omega
    · have h2 : ¬ i < ps[j].n := by have := of_decide_eq_false h2; dsimp only at this; omega
      have hin : i = ps[j].n := by omega
      subst hin
      rw [g5] at h
      refine ⟨⟨j + 1, ?_, by omega, h.p1.drop.p1⟩, ?_⟩
      · exact w64_in (by omega) (by omega)
      · dsimp only
        rw [w64_in (by omega) (by omega)]
        show ((ps.length : Int) - ((j : Int) + 1)).toNat < ((ps.length : Int) - (j : Int)).toNat
        omega
  · have h1 : ¬ j < ps.length := by have := of_decide_eq_false h1; dsimp only at this; omega
    have hjn : j = ps.length := by omega
    subst hjn
    exact k w1 h.drop

end Go.Proofs.YtenonfkfoedfmaaGreatDoor.B


/- Configurations: the check, the layout, the objects. -/
namespace Go.Proofs.YtenonfkfoedfmaaGreatDoor.B
open Go
set_option linter.unusedVariables false

structure CfOk (c : ConfM) : Prop where
  tic : 1 ≤ c.tic ∧ c.tic ≤ 1000
  tl : 1 ≤ c.tasks.length ∧ c.tasks.length ≤ 16
  sl : c.sems.length ≤ 8
  dl : c.datas.length ≤ 8
  ml : c.mtxs.length ≤ 8
  pl : c.pools.length ≤ 8
  t : ∀ x ∈ c.tasks, 1 ≤ x.1 ∧ x.1 ≤ 16
  s : ∀ x ∈ c.sems, semOk x.2.1 x.2.2
  d : ∀ x ∈ c.datas, 0 ≤ x.2 ∧ x.2 ≤ 64
  m : ∀ x ∈ c.mtxs, MM.right x = true
  p : poolsOk 0 c.pools = true

theorem CfOk.of {c : ConfM} (h : c.ok = true) : CfOk c := by
  simp only [ConfM.ok, Bool.and_eq_true, decide_eq_true_eq, List.all_eq_true] at h
  obtain ⟨⟨⟨⟨⟨h1, h2⟩, h3⟩, h4⟩, h5⟩, h6⟩ := h
  exact ⟨⟨h1.1, h1.2.1⟩, ⟨h1.2.2.1, h1.2.2.2.1⟩, h1.2.2.2.2.1, h1.2.2.2.2.2.1, h1.2.2.2.2.2.2.1, h1.2.2.2.2.2.2.2, fun x hx => of_decide_eq_true (by simpa using h2 x hx), fun x hx => by have := h3 x hx; simpa [semOk] using this, h4, h5, h6⟩

theorem Check_conf {e w L c S R} (h : Ok e (cfR c S L) w) (hc : CfOk c) (k : ∀ w', Ok e (cfR c S L) w' → R [.string (bs []), .int .i64 0, .int .i64 0] w') : sh98 (cfV c S) R w := by
  unfold sh98
  have l1 : c.tasks.length = S.ts.len := slc_flat_len taC_len (by decide) h
  have l2 : c.sems.length = S.ss.len := slc_flat_len seC_len (by decide) h.p1
  have l3 : c.datas.length = S.ds.len := slc_flat_len daC_len (by decide) h.p2
  have l4 : c.mtxs.length = S.ms.len := slc_flat_len kdC_len (by decide) h.p3
  have l5 : c.pools.length = S.ps.len := slc_flat_len seC_len (by decide) h.p4
  refine al.mk h fun b w1 h => ?_
  have h : Ok e (pts b (cfC c S) :: cfR c S L) w1 := h
  refine ldI.mk (h.cell rfl) ?_
  refine call101 (NewHands_cyc h hc.tic fun hb w2 h => ⟨(some ⟨hb, 0, none⟩, (0 : Int), ()), rfl, ?_⟩)
  refine al.mk h fun hd w3 h => st1.mk h (by simp) fun w4 h => cs.no rfl ?_
  have h : Ok e (pts hd [pV hb] :: hnP hb c.tic 0 0 0 [] :: pts b (cfC c S) :: cfR c S L) w4 := h
  refine al.mk h fun d w5 h => st1.mk h (by simp) fun w6 h => dr.mk h fun w7 h => ?_
  have h : Ok e (pts d [.int .i64 0] :: pts hd [pV hb] :: hnP hb c.tic 0 0 0 [] :: pts b (cfC c S) :: cfR c S L) w7 := h
  have h : Ok e (pts b (cfC c S) :: pts d [.int .i64 0] :: cfR c S (pts hd [pV hb] :: hnP hb c.tic 0 0 0 [] :: L)) w7 := (h.emb (by repeat' (first | with_reducible exact Emb.same _ | exact Emb.nil _ | refine Emb.cons (by with_reducible first | exact sl0 | exact .there sl0 | exact .there sl1 | exact .there sl2 | exact .there sl3 | exact .there sl4 | exact .there sl5 | exact .there sl6 | exact .there sl7 | exact .there sl8 | exact .there sl9 | exact .there sl10 | exact .there sl11 | exact .there sl12) ?_ | refine Emb.skip ?_)))
  refine ldS.mk (h.cell rfl) (ldS.mk (h.cell rfl) (ldS.mk (h.cell rfl) (ldS.mk (h.cell rfl) (ldS.mk (h.cell rfl) (ldS.mk (h.cell rfl) (ldS.mk (h.cell rfl) (ldI.mk (h.cell rfl) ?_)))))))
  refine call175 (a2 := ⟨176, [], [pV b]⟩) (objects_conf h fun w8 h => ⟨(((bs [115, 101, 109]), (bs [115, 101, 109]), ((S.ss.len : Nat) : Int), (0 : Int), (8 : Int), (⟨176, [], [pV b]⟩ : Fv), ()), ()), rfl, h.cell rfl, h.cell rfl, h.cell rfl, h.cell rfl, h.cell rfl, h.cell rfl, h.cell rfl, ?_⟩)
  refine call175 (a2 := ⟨177, [], []⟩) (objects_conf h fun w8 h => ⟨(((bs [102, 108, 97, 103]), (bs [102, 108, 97, 103]), (((0 : Nat) : Nat) : Int), (0 : Int), (8 : Int), (⟨177, [], []⟩ : Fv), ()), ()), rfl, h.cell rfl, h.cell rfl, h.cell rfl, h.cell rfl, h.cell rfl, h.cell rfl, ?_⟩)
  refine call175 (a2 := ⟨178, [], [pV b]⟩) (objects_conf h fun w8 h => ⟨(((bs [100, 97, 116, 97]), (bs [100, 97, 116, 97]), ((S.ds.len : Nat) : Int), (0 : Int), (8 : Int), (⟨178, [], [pV b]⟩ : Fv), ()), ()), rfl, h.cell rfl, h.cell rfl, h.cell rfl, h.cell rfl, h.cell rfl, ?_⟩)
  refine call175 (a2 := ⟨180, [], [pV b]⟩) (objects_conf h fun w8 h => ⟨(((bs [109, 116, 120]), (bs [109, 116, 120]), ((S.ms.len : Nat) : Int), (0 : Int), (8 : Int), (⟨180, [], [pV b]⟩ : Fv), ()), ()), rfl, h.cell rfl, h.cell rfl, h.cell rfl, h.cell rfl, ?_⟩)
  refine call175 (a2 := ⟨181, [], [pV d, pV b]⟩) (objects_conf h fun w8 h => ⟨(((bs [112, 111, 111, 108]), (bs [112, 111, 111, 108]), ((S.ps.len : Nat) : Int), (0 : Int), (8 : Int), (⟨181, [], [pV d, pV b]⟩ : Fv), ()), ()), rfl, h.cell rfl, h.cell rfl, h.cell rfl, ?_⟩)
  refine call175 (a2 := ⟨183, [], [pV b, pV hd]⟩) (objects_conf h fun w8 h => ⟨(((bs [99, 121, 99]), (bs [99, 121, 99]), (((0 : Nat) : Nat) : Int), (0 : Int), (8 : Int), (⟨183, [], [pV b, pV hd]⟩ : Fv), ()), ()), rfl, h.cell rfl, h.cell rfl, ?_⟩)
  refine call175 (a2 := ⟨177, [], []⟩) (objects_conf h fun w8 h => ⟨(((bs [97, 108, 97, 114, 109]), (bs [97, 108, 97, 114, 109]), (0 : Int), (0 : Int), (8 : Int), (⟨177, [], []⟩ : Fv), ()), ()), rfl, h.cell rfl, ?_⟩)
  let ps : List PtD := [⟨bs [116, 97, 115, 107], bs [116, 97, 115, 107, 115], S.ts.len, 1, 16, ⟨174, [], [pV b]⟩⟩, ⟨bs [115, 101, 109], bs [115, 101, 109], S.ss.len, 0, 8, ⟨176, [], [pV b]⟩⟩,
    ⟨bs [102, 108, 97, 103], bs [102, 108, 97, 103], 0, 0, 8, ⟨177, [], []⟩⟩, ⟨bs [100, 97, 116, 97], bs [100, 97, 116, 97], S.ds.len, 0, 8, ⟨178, [], [pV b]⟩⟩,
    ⟨bs [109, 116, 120], bs [109, 116, 120], S.ms.len, 0, 8, ⟨180, [], [pV b]⟩⟩, ⟨bs [112, 111, 111, 108], bs [112, 111, 111, 108], S.ps.len, 0, 8, ⟨181, [], [pV d, pV b]⟩⟩,
    ⟨bs [99, 121, 99], bs [99, 121, 99], 0, 0, 8, ⟨183, [], [pV b, pV hd]⟩⟩, ⟨bs [97, 108, 97, 114, 109], bs [97, 108, 97, 114, 109], 0, 0, 8, ⟨177, [], []⟩⟩]
  let P : Nat → Nat → SP := fun j i => oksH (pts b (cfC c S) :: pts d [.int .i64 (bytesM 0 (c.pools.take (if j < 5 then 0 else if j = 5 then i else c.pools.length)))] :: cfR c S [])
  refine al.mk h fun f w9 h => ?_
  have h : Ok e (slc 6 ⟨some ⟨f, 0, none⟩, 8, 8⟩ (flat ptC ps) :: pts b (cfC c S) :: pts d [.int .i64 0] :: cfR c S (pts hd [pV hb] :: hnP hb c.tic 0 0 0 [] :: L)) w9 := Ok.slcNew (vs := flat ptC ps) h rfl (flat_one ptC_one)
  have h : Ok e (slc 6 ⟨some ⟨f, 0, none⟩, 8, 8⟩ (flat ptC ps) :: P 0 0 :: pts hd [pV hb] :: hnP hb c.tic 0 0 0 [] :: L) w9 := (Ok.pack (M := pts b (cfC c S) :: pts d [.int .i64 0] :: cfR c S []) (L := slc 6 ⟨some ⟨f, 0, none⟩, 8, 8⟩ (flat ptC ps) :: pts hd [pV hb] :: hnP hb c.tic 0 0 0 [] :: L) (h.emb (by repeat' (first | with_reducible exact Emb.same _ | exact Emb.nil _ | refine Emb.cons (by with_reducible first | exact sl0 | exact .there sl0 | exact .there sl1 | exact .there sl2 | exact .there sl3 | exact .there sl4 | exact .there sl5 | exact .there sl6 | exact .there sl7 | exact .there sl8 | exact .there sl9 | exact .there sl10 | exact .there sl11 | exact .there sl12) ?_ | refine Emb.skip ?_)))).p1
  refine call173 (a0 := ⟨some ⟨f, 0, none⟩, 8, 8⟩) (first_conf (ps := ps) P h (Nat.le_refl 8) (fun j p hj => ?_) fun w10 h => ⟨(bs [], (0 : Int), (0 : Int), ()), rfl, ?_⟩)
  · have hj8 : j < 8 := (List.getElem?_eq_some_iff.1 hj).1
    obtain rfl | rfl | rfl | rfl | rfl | rfl | rfl | rfl : j = 0 ∨ j = 1 ∨ j = 2 ∨ j = 3 ∨ j = 4 ∨ j = 5 ∨ j = 6 ∨ j = 7 := by omega
    · cases hj
      refine ⟨l1 ▸ hc.tl.1, l1 ▸ hc.tl.2, Nat.le_refl 16, by kernel_rfl, rfl, fun i hi L w K h kk => ?_⟩
      have hi : i < S.ts.len := hi
      show cl Pg 174 [.int .i64 (i : Int), pV b] [kI] w K
      have h2 : Ok e (pts b (cfC c S) :: pts d [.int .i64 0] :: cfR c S L) w := h.unpack
      exact call174 (Check1 ((Ok.emb (h2) (.cons (A := pts b (cfC c S)) (by with_reducible first | exact sl0 | exact .there sl0 | exact .there sl1 | exact .there sl2 | exact .there sl3 | exact .there sl4 | exact .there sl5 | exact .there sl6 | exact .there sl7 | exact .there sl8 | exact .there sl9 | exact .there sl10 | exact .there sl11 | exact .there sl12) (.cons (A := slc 2 S.ts (flat taC c.tasks)) (by with_reducible first | exact sl0 | exact .there sl0 | exact .there sl1 | exact .there sl2 | exact .there sl3 | exact .there sl4 | exact .there sl5 | exact .there sl6 | exact .there sl7 | exact .there sl8 | exact .there sl9 | exact .there sl10 | exact .there sl11 | exact .there sl12) (.same _))))) (by omega) hc.t ⟨((0 : Int), ()), rfl, kk w h⟩)
    · cases hj
      refine ⟨Nat.zero_le _, l2 ▸ hc.sl, (show (8 : Nat) ≤ 16 by decide), by kernel_rfl, rfl, fun i hi L w K h kk => ?_⟩
      have hi : i < S.ss.len := hi
      show cl Pg 176 [.int .i64 (i : Int), pV b] [kI] w K
      have h2 : Ok e (pts b (cfC c S) :: pts d [.int .i64 0] :: cfR c S L) w := h.unpack
      exact call176 (Check2 ((Ok.emb (h2) (.cons (A := pts b (cfC c S)) (by with_reducible first | exact sl0 | exact .there sl0 | exact .there sl1 | exact .there sl2 | exact .there sl3 | exact .there sl4 | exact .there sl5 | exact .there sl6 | exact .there sl7 | exact .there sl8 | exact .there sl9 | exact .there sl10 | exact .there sl11 | exact .there sl12) (.cons (A := slc 3 S.ss (flat seC c.sems)) (by with_reducible first | exact sl0 | exact .there sl0 | exact .there sl1 | exact .there sl2 | exact .there sl3 | exact .there sl4 | exact .there sl5 | exact .there sl6 | exact .there sl7 | exact .there sl8 | exact .there sl9 | exact .there sl10 | exact .there sl11 | exact .there sl12) (.same _))))) (by omega) hc.s fun w' h => ⟨((0 : Int), ()), rfl, kk w' (Ok.pack (M := pts b (cfC c S) :: pts d [.int .i64 0] :: cfR c S []) (L := L) (show Ok e (pts b (cfC c S) :: pts d [.int .i64 0] :: cfR c S L) w' from (h.emb (by repeat' (first | with_reducible exact Emb.same _ | exact Emb.nil _ | refine Emb.cons (by with_reducible first | exact sl0 | exact .there sl0 | exact .there sl1 | exact .there sl2 | exact .there sl3 | exact .there sl4 | exact .there sl5 | exact .there sl6 | exact .there sl7 | exact .there sl8 | exact .there sl9 | exact .there sl10 | exact .there sl11 | exact .there sl12) ?_ | refine Emb.skip ?_)))))⟩)
    · cases hj
      exact ⟨Nat.zero_le _, Nat.zero_le _, (show (8 : Nat) ≤ 16 by decide), by kernel_rfl, rfl, fun i hi => absurd hi (Nat.not_lt_zero i)⟩
    · cases hj
      refine ⟨Nat.zero_le _, l3 ▸ hc.dl, (show (8 : Nat) ≤ 16 by decide), by kernel_rfl, rfl, fun i hi L w K h kk => ?_⟩
      have hi : i < S.ds.len := hi
      show cl Pg 178 [.int .i64 (i : Int), pV b] [kI] w K
      have h2 : Ok e (pts b (cfC c S) :: pts d [.int .i64 0] :: cfR c S L) w := h.unpack
      exact call178 (Check3 ((Ok.emb (h2) (.cons (A := pts b (cfC c S)) (by with_reducible first | exact sl0 | exact .there sl0 | exact .there sl1 | exact .there sl2 | exact .there sl3 | exact .there sl4 | exact .there sl5 | exact .there sl6 | exact .there sl7 | exact .there sl8 | exact .there sl9 | exact .there sl10 | exact .there sl11 | exact .there sl12) (.cons (A := slc 2 S.ds (flat daC c.datas)) (by with_reducible first | exact sl0 | exact .there sl0 | exact .there sl1 | exact .there sl2 | exact .there sl3 | exact .there sl4 | exact .there sl5 | exact .there sl6 | exact .there sl7 | exact .there sl8 | exact .there sl9 | exact .there sl10 | exact .there sl11 | exact .there sl12) (.same _))))) (by omega) hc.d fun w' h => ⟨((0 : Int), ()), rfl, kk w' (Ok.pack (M := pts b (cfC c S) :: pts d [.int .i64 0] :: cfR c S []) (L := L) (show Ok e (pts b (cfC c S) :: pts d [.int .i64 0] :: cfR c S L) w' from (h.emb (by repeat' (first | with_reducible exact Emb.same _ | exact Emb.nil _ | refine Emb.cons (by with_reducible first | exact sl0 | exact .there sl0 | exact .there sl1 | exact .there sl2 | exact .there sl3 | exact .there sl4 | exact .there sl5 | exact .there sl6 | exact .there sl7 | exact .there sl8 | exact .there sl9 | exact .there sl10 | exact .there sl11 | exact .there sl12) ?_ | refine Emb.skip ?_)))))⟩)
    · cases hj
      refine ⟨Nat.zero_le _, l4 ▸ hc.ml, (show (8 : Nat) ≤ 16 by decide), by kernel_rfl, rfl, fun i hi L w K h kk => ?_⟩
      have hi : i < S.ms.len := hi
      show cl Pg 180 [.int .i64 (i : Int), pV b] [kI] w K
      have h2 : Ok e (pts b (cfC c S) :: pts d [.int .i64 0] :: cfR c S L) w := h.unpack
      exact call180 (Check4 ((Ok.emb (h2) (.cons (A := pts b (cfC c S)) (by with_reducible first | exact sl0 | exact .there sl0 | exact .there sl1 | exact .there sl2 | exact .there sl3 | exact .there sl4 | exact .there sl5 | exact .there sl6 | exact .there sl7 | exact .there sl8 | exact .there sl9 | exact .there sl10 | exact .there sl11 | exact .there sl12) (.cons (A := slc 2 S.ms (flat kdC c.mtxs)) (by with_reducible first | exact sl0 | exact .there sl0 | exact .there sl1 | exact .there sl2 | exact .there sl3 | exact .there sl4 | exact .there sl5 | exact .there sl6 | exact .there sl7 | exact .there sl8 | exact .there sl9 | exact .there sl10 | exact .there sl11 | exact .there sl12) (.same _))))) (by omega) hc.m fun w' h => ⟨((0 : Int), ()), rfl, kk w' (Ok.pack (M := pts b (cfC c S) :: pts d [.int .i64 0] :: cfR c S []) (L := L) (show Ok e (pts b (cfC c S) :: pts d [.int .i64 0] :: cfR c S L) w' from (h.emb (by repeat' (first | with_reducible exact Emb.same _ | exact Emb.nil _ | refine Emb.cons (by with_reducible first | exact sl0 | exact .there sl0 | exact .there sl1 | exact .there sl2 | exact .there sl3 | exact .there sl4 | exact .there sl5 | exact .there sl6 | exact .there sl7 | exact .there sl8 | exact .there sl9 | exact .there sl10 | exact .there sl11 | exact .there sl12) ?_ | refine Emb.skip ?_)))))⟩)
    · cases hj
      refine ⟨Nat.zero_le _, l5 ▸ hc.pl, (show (8 : Nat) ≤ 16 by decide), by kernel_rfl, ?_, fun i hi L w K h kk => ?_⟩
      · show oksH _ = oksH _
        rw [← l5]
        rfl
      have hi : i < S.ps.len := hi
      show cl Pg 181 [.int .i64 (i : Int), pV d, pV b] [kI] w K
      have h2 : Ok e (pts b (cfC c S) :: pts d [.int .i64 (bytesM 0 (c.pools.take i))] :: cfR c S L) w := h.unpack
      exact call181 (Check5 ((Ok.emb (h2) (.cons (A := pts d [.int .i64 (bytesM 0 (c.pools.take i))]) (by with_reducible first | exact sl0 | exact .there sl0 | exact .there sl1 | exact .there sl2 | exact .there sl3 | exact .there sl4 | exact .there sl5 | exact .there sl6 | exact .there sl7 | exact .there sl8 | exact .there sl9 | exact .there sl10 | exact .there sl11 | exact .there sl12) (.cons (A := pts b (cfC c S)) (by with_reducible first | exact sl0 | exact .there sl0 | exact .there sl1 | exact .there sl2 | exact .there sl3 | exact .there sl4 | exact .there sl5 | exact .there sl6 | exact .there sl7 | exact .there sl8 | exact .there sl9 | exact .there sl10 | exact .there sl11 | exact .there sl12) (.cons (A := slc 3 S.ps (flat seC c.pools)) (by with_reducible first | exact sl0 | exact .there sl0 | exact .there sl1 | exact .there sl2 | exact .there sl3 | exact .there sl4 | exact .there sl5 | exact .there sl6 | exact .there sl7 | exact .there sl8 | exact .there sl9 | exact .there sl10 | exact .there sl11 | exact .there sl12) (.same _)))))) (by omega) hc.p fun w' h => ⟨((0 : Int), ()), rfl, kk w' (Ok.pack (M := pts b (cfC c S) :: pts d [.int .i64 (bytesM 0 (c.pools.take (i + 1)))] :: cfR c S []) (L := L) (show Ok e (pts b (cfC c S) :: pts d [.int .i64 (bytesM 0 (c.pools.take (i + 1)))] :: cfR c S L) w' from (h.emb (by repeat' (first | with_reducible exact Emb.same _ | exact Emb.nil _ | refine Emb.cons (by with_reducible first | exact sl0 | exact .there sl0 | exact .there sl1 | exact .there sl2 | exact .there sl3 | exact .there sl4 | exact .there sl5 | exact .there sl6 | exact .there sl7 | exact .there sl8 | exact .there sl9 | exact .there sl10 | exact .there sl11 | exact .there sl12) ?_ | refine Emb.skip ?_)))))⟩)
    · cases hj
      exact ⟨Nat.zero_le _, Nat.zero_le _, (show (8 : Nat) ≤ 16 by decide), by kernel_rfl, rfl, fun i hi => absurd hi (Nat.not_lt_zero i)⟩
    · cases hj
      exact ⟨Nat.zero_le _, Nat.zero_le _, (show (8 : Nat) ≤ 16 by decide), by kernel_rfl, rfl, fun i hi => absurd hi (Nat.not_lt_zero i)⟩
  · have h2 : Ok e (pts b (cfC c S) :: pts d [.int .i64 (bytesM 0 (c.pools.take c.pools.length))] :: cfR c S (pts hd [pV hb] :: hnP hb c.tic 0 0 0 [] :: L)) w10 := h.unpack
    exact k w10 (Ok.emb (h2) (by repeat' (first | with_reducible exact Emb.same _ | exact Emb.nil _ | refine Emb.cons (by with_reducible first | exact sl0 | exact .there sl0 | exact .there sl1 | exact .there sl2 | exact .there sl3 | exact .there sl4 | exact .there sl5 | exact .there sl6 | exact .there sl7 | exact .there sl8 | exact .there sl9 | exact .there sl10 | exact .there sl11 | exact .there sl12) ?_ | refine Emb.skip ?_)))

theorem layout_get {ps : List (Bool × Int × Int)} {a : Int} {i : Nat} (hi : i < ps.length) : (layoutM a ps)[i]? = some (stp (bytesM a (ps.take i))) := by
  induction ps generalizing a i with
  | nil => simp at hi
  | cons q ps ih =>
    cases i with
    | zero => rfl
    | succ i => exact ih (by simpa using hi)

theorem layout_len {ps : List (Bool × Int × Int)} {a : Int} : (layoutM a ps).length = ps.length := by
  induction ps generalizing a with
  | nil => rfl
  | cons q ps ih => simp [layoutM, ih]

/-- a configuration's pools are read -/
theorem ix_pool {e w L s} {ps : List (Bool × Int × Int)} {i : Nat} {g : Nat → Nat → Prop} (h : Ok e (slc 3 s (flat seC ps) :: L) w) (hi : i < ps.length)
    (hg : ∀ b2 o2, (∀ w', (∃ L', Ok e (slc 3 s (flat seC ps) :: L') w') → w'.cell? ⟨b2, o2, none⟩ = some (.bool ps[i].1) ∧ w'.cell? ⟨b2, o2 + 1, none⟩ = some (.int .i64 ps[i].2.1) ∧ w'.cell? ⟨b2, o2 + 2, none⟩ = some (.int .i64 ps[i].2.2)) → g b2 o2) : ix s (i : Int) 3 g := by
  refine ix_flat seC_len (by decide) h (by omega) (by omega) fun b2 o2 y hy _ _ hc => hg b2 o2 fun w' hw' => ?_
  rw [Int.toNat_natCast, List.getElem?_eq_getElem hi] at hy
  cases hy
  exact ⟨hc 0 _ rfl w' hw', hc 1 _ rfl w' hw', hc 2 _ rfl w' hw'⟩

theorem Layout_conf {e w L c S R} (h : Ok e (cfR c S L) w) (hc : CfOk c) (k : ∀ x w', Ok e (slc 1 x (ints (layoutM 0 c.pools)) :: cfR c S L) w' → R [vS x] w') : sh185 (cfV c S) R w := by
  unfold sh185
  have l5 : c.pools.length = S.ps.len := slc_flat_len seC_len (by decide) h.p4
  have hpl := hc.pl
  refine al.mk h fun b w1 h => ldS.mk (h.cell rfl) ?_
  refine lp.mk (fun t w1 => ∃ i : Nat, @Eq Int t.2.2.1 (i : Int) ∧ @Eq Int t.2.1 (bytesM 0 (c.pools.take i)) ∧ i ≤ c.pools.length ∧ Ok e (slc 1 t.1 (ints ((layoutM 0 c.pools).take i)) :: slc 3 S.ps (flat seC c.pools) :: slc 2 S.ts (flat taC c.tasks) :: slc 3 S.ss (flat seC c.sems) :: slc 2 S.ds (flat daC c.datas) :: slc 2 S.ms (flat kdC c.mtxs) :: L) w1)
    (fun t _ => Int.toNat (Int.sub c.pools.length t.2.2.1)) ⟨0, rfl, rfl, by omega, ?_⟩ ?_
  · have h2 : Ok e (slc 1 ⟨none, 0, 0⟩ (ints ((layoutM 0 c.pools).take 0)) :: cfR c S L) w1 := h.drop.slcNil 1
    have h3 : Ok e (slc 1 ⟨none, 0, 0⟩ (ints ((layoutM 0 c.pools).take 0)) :: slc 3 S.ps (flat seC c.pools) :: slc 2 S.ts (flat taC c.tasks) :: slc 3 S.ss (flat seC c.sems) :: slc 2 S.ds (flat daC c.datas) :: slc 2 S.ms (flat kdC c.mtxs) :: L) w1 := (Ok.emb (h2) (by repeat' (first | with_reducible exact Emb.same _ | exact Emb.nil _ | refine Emb.cons (by with_reducible first | exact sl0 | exact .there sl0 | exact .there sl1 | exact .there sl2 | exact .there sl3 | exact .there sl4 | exact .there sl5 | exact .there sl6 | exact .there sl7 | exact .there sl8 | exact .there sl9 | exact .there sl10 | exact .there sl11 | exact .there sl12) ?_ | refine Emb.skip ?_)))
    exact h3
  rintro ⟨x, (at' : Int), (t : Int), _⟩ w3 ⟨i, (rfl : t = (i : Int)), (rfl : at' = _), hi, h⟩
  dsimp only at h ⊢
  refine cs.mk (fun h2 => ?_) (fun h2 => ?_)
  · have h2 : i < c.pools.length := by have := of_decide_eq_true h2; omega
    obtain ⟨hg, hn⟩ := pools_get hc.p (List.getElem?_eq_getElem h2)
    have hbd := pools_bd hc.p i
    have hg2 := hg
    obtain ⟨-, -, -, g1, g2, g3, g4, -⟩ := hg2
    refine ix_pool h.p1 h2 fun b2 o2 hc2 => ldB.mk (hc2 w3 ⟨_, h.p1⟩).1 (ldI.mk (hc2 w3 ⟨_, h.p1⟩).2.1 (ldI.mk (hc2 w3 ⟨_, h.p1⟩).2.2 ?_))
    refine al.mk h fun d w4 h => st1.mk h (by simp) fun w5 h => st1.mk h (by simp) fun w5 h => st1.mk h (by simp) fun w5 h => ldB.mk (h.cell rfl) (ldI.mk (h.cell rfl) (ldI.mk (h.cell rfl) ?_))
    refine call71 (a1 := (c.pools[i].1, c.pools[i].2.1, c.pools[i].2.2, ())) (next_conf h (by omega) ⟨g1, g2, g3, g4⟩ fun w2 h => ⟨(stp (bytesM 0 (c.pools.take i)), stp (bytesM 0 (c.pools.take i)) + c.pools[i].2.1 * stp c.pools[i].2.2, ()), rfl, ?_⟩)
    have h := h.drop
    have hxl := h.slc_len
    simp [layout_len] at hxl
    refine al.mk h fun f w6 h => ?_
    refine ef.append1 (n := 1) slT_int (by decide) h rfl (by simp; rfl) (by omega) fun s' w7 hl' h => ?_
    refine ⟨⟨i + 1, ?_, ?_, h2, ?_⟩, ?_⟩
    · exact w64_in (by omega) (by omega)
    · exact hn.symm
    · rw [List.take_add_one, layout_get h2]
      simpa using h
    · show ((c.pools.length : Int) - w64 ((i : Int) + 1)).toNat < ((c.pools.length : Int) - (i : Int)).toNat
      rw [w64_in (by omega) (by omega)]
      omega
  · have h2 : i = c.pools.length := by have := of_decide_eq_false h2; omega
    subst h2
    rw [List.take_of_length_le (by rw [layout_len]; omega)] at h
    exact k x w3 (h.emb (by repeat' (first | with_reducible exact Emb.same _ | exact Emb.nil _ | refine Emb.cons (by with_reducible first | exact sl0 | exact .there sl0 | exact .there sl1 | exact .there sl2 | exact .there sl3 | exact .there sl4 | exact .there sl5 | exact .there sl6 | exact .there sl7 | exact .there sl8 | exact .there sl9 | exact .there sl10 | exact .there sl11 | exact .there sl12) ?_ | refine Emb.skip ?_)))

end Go.Proofs.YtenonfkfoedfmaaGreatDoor.B


/- A kernel is made. -/
namespace Go.Proofs.YtenonfkfoedfmaaGreatDoor.B
open Go
set_option linter.unusedVariables false

theorem slT_semp : SlT Pg 122 1 := .of (by kernel_rfl)

theorem slT_datp : SlT Pg 124 1 := .of (by kernel_rfl)

theorem slT_poolp : SlT Pg 125 1 := .of (by kernel_rfl)

theorem slT_unitp : SlT Pg 130 1 := .of (by kernel_rfl)

abbrev semN (s : Bool × Int × Int) : SemM := ⟨s.1, s.2.1, s.2.2, []⟩

abbrev datN (d : Bool × Int) : DatM := ⟨d.1, d.2, dqNew⟩

abbrev poolN (a : Int) (p : Bool × Int × Int) : PoolM := ⟨p.1, a, p.2.1, p.2.2, mp0⟩

theorem zip_take {ps : List (Bool × Int × Int)} {ys : List Int} {i : Nat} {a p} (ha : ys[i]? = some a) (hp : ps[i]? = some p) : List.zipWith poolN (ys.take (i + 1)) (ps.take (i + 1)) = List.zipWith poolN (ys.take i) (ps.take i) ++ [poolN a p] := by
  have h1 := (List.getElem?_eq_some_iff.1 ha).1
  have h2 := (List.getElem?_eq_some_iff.1 hp).1
  rw [List.take_add_one, List.take_add_one, ha, hp, Option.toList_some, Option.toList_some, List.zipWith_append (by simp; omega)]
  rfl

set_option maxHeartbeats 1000000 in
theorem build_kern {e w L k c S R} {x6 x7 x8 x9 x10 x11 x12 : Value} (h : Ok e (pts k [vS ⟨none, 0, 0⟩, vS ⟨none, 0, 0⟩, vS ⟨none, 0, 0⟩, vS ⟨none, 0, 0⟩, .int .i64 0, .pointer none, x6, x7, x8, x9, x10, x11, x12] :: cfR c S L) w) (hc : CfOk c)
    (kk : ∀ ss ds ps lk w', Ok e (pts k [vS ss, vS ⟨none, 0, 0⟩, vS ds, vS ps, .int .i64 (c.mtxs.length : Int), pV lk, x6, x7, x8, x9, x10, x11, x12] :: semsP ss (c.sems.map semN) :: datasP ds (c.datas.map datN) :: poolsP ps (List.zipWith poolN (layoutM 0 c.pools) c.pools) :: mmP lk (MM.new c.mtxs) :: cfR c S L) w' → R [] w') : sh100 (some ⟨k, 0, none⟩) (cfV c S) R w := by
  unfold sh100
  have l2 : c.sems.length = S.ss.len := slc_flat_len seC_len (by decide) h.p2
  have l3 : c.datas.length = S.ds.len := slc_flat_len daC_len (by decide) h.p3
  have l4 : c.mtxs.length = S.ms.len := slc_flat_len kdC_len (by decide) h.p4
  have hpl := hc.pl; have hsl := hc.sl; have hdl := hc.dl
  refine al.mk h fun b w1 h => ldS.mk (h.cell rfl) ?_
  have h : Ok e (pts b (cfC c S) :: pts k [vS ⟨none, 0, 0⟩, vS ⟨none, 0, 0⟩, vS ⟨none, 0, 0⟩, vS ⟨none, 0, 0⟩, .int .i64 0, .pointer none, x6, x7, x8, x9, x10, x11, x12] :: cfR c S L) w1 := h
  refine call30 (New_mtx ((Ok.emb (h) (.cons (A := slc 2 S.ms (flat kdC c.mtxs)) (by with_reducible first | exact sl0 | exact .there sl0 | exact .there sl1 | exact .there sl2 | exact .there sl3 | exact .there sl4 | exact .there sl5 | exact .there sl6 | exact .there sl7 | exact .there sl8 | exact .there sl9 | exact .there sl10 | exact .there sl11 | exact .there sl12) (.same _)))) hc.ml hc.m fun lk w2 h => ⟨(some ⟨lk, 0, none⟩, (0 : Int), ()), rfl, nn.mk ?_⟩)
  refine st1.mk ((Ok.emb (h) (.cons (A := pts k [vS ⟨none, 0, 0⟩, vS ⟨none, 0, 0⟩, vS ⟨none, 0, 0⟩, vS ⟨none, 0, 0⟩, .int .i64 0, .pointer none, x6, x7, x8, x9, x10, x11, x12]) (by with_reducible first | exact sl0 | exact .there sl0 | exact .there sl1 | exact .there sl2 | exact .there sl3 | exact .there sl4 | exact .there sl5 | exact .there sl6 | exact .there sl7 | exact .there sl8 | exact .there sl9 | exact .there sl10 | exact .there sl11 | exact .there sl12) (.same _)))) (by simp) fun w3 h => ldS.mk (by refine Ok.cellS h (by with_reducible first | exact sl0 | exact .there sl0 | exact .there sl1 | exact .there sl2 | exact .there sl3 | exact .there sl4 | exact .there sl5 | exact .there sl6 | exact .there sl7 | exact .there sl8 | exact .there sl9 | exact .there sl10 | exact .there sl11 | exact .there sl12) ?_; rfl) (nn.mk (st1.mk h (by simp) fun w4 h => ldS.mk (by refine Ok.cellS h (by with_reducible first | exact sl0 | exact .there sl0 | exact .there sl1 | exact .there sl2 | exact .there sl3 | exact .there sl4 | exact .there sl5 | exact .there sl6 | exact .there sl7 | exact .there sl8 | exact .there sl9 | exact .there sl10 | exact .there sl11 | exact .there sl12) ?_; rfl) ?_))
  dsimp only [List.set] at h
  rw [← l4] at h
  let Q : List SP := pts b (cfC c S) :: mmP lk (MM.new c.mtxs) :: cfR c S L
  have h : Ok e (pts k [vS ⟨none, 0, 0⟩, vS ⟨none, 0, 0⟩, vS ⟨none, 0, 0⟩, vS ⟨none, 0, 0⟩, .int .i64 (c.mtxs.length : Int), pV lk, x6, x7, x8, x9, x10, x11, x12] :: pts b (cfC c S) :: mmP lk (MM.new c.mtxs) :: cfR c S L) w4 := (h.emb (by repeat' (first | with_reducible exact Emb.same _ | exact Emb.nil _ | refine Emb.cons (by with_reducible first | exact sl0 | exact .there sl0 | exact .there sl1 | exact .there sl2 | exact .there sl3 | exact .there sl4 | exact .there sl5 | exact .there sl6 | exact .there sl7 | exact .there sl8 | exact .there sl9 | exact .there sl10 | exact .there sl11 | exact .there sl12) ?_ | refine Emb.skip ?_)))
  refine lp.mk (fun t w1 => ∃ (i : Nat) (s : Sl), @Eq Int t.1 (i : Int) ∧ i ≤ c.sems.length ∧ Ok e (pts k [vS s, vS ⟨none, 0, 0⟩, vS ⟨none, 0, 0⟩, vS ⟨none, 0, 0⟩, .int .i64 (c.mtxs.length : Int), pV lk, x6, x7, x8, x9, x10, x11, x12] :: semsP s ((c.sems.take i).map semN) :: pts b (cfC c S) :: mmP lk (MM.new c.mtxs) :: cfR c S L) w1)
    (fun t _ => Int.toNat (Int.sub c.sems.length t.1)) ⟨0, ⟨none, 0, 0⟩, rfl, by omega, (ptrs_nil (h.slcNil 1)).p1⟩ ?_
  rintro ⟨(t : Int), _⟩ w5 ⟨i, s, (rfl : t = (i : Int)), hi, h⟩
  dsimp only
  refine cs.mk (fun h2 => ?_) (fun h2 => ?_)
  · have h2 : i < c.sems.length := by have := of_decide_eq_true h2; omega
    refine ix_pool ((Ok.emb (h) (.cons (A := slc 3 S.ss (flat seC c.sems)) (by with_reducible first | exact sl0 | exact .there sl0 | exact .there sl1 | exact .there sl2 | exact .there sl3 | exact .there sl4 | exact .there sl5 | exact .there sl6 | exact .there sl7 | exact .there sl8 | exact .there sl9 | exact .there sl10 | exact .there sl11 | exact .there sl12) (.same _)))) h2 fun b2 o2 hc2 => ?_
    obtain ⟨r1, r2, r3⟩ := hc2 w5 ⟨_, (Ok.emb (h) (.cons (A := slc 3 S.ss (flat seC c.sems)) (by with_reducible first | exact sl0 | exact .there sl0 | exact .there sl1 | exact .there sl2 | exact .there sl3 | exact .there sl4 | exact .there sl5 | exact .there sl6 | exact .there sl7 | exact .there sl8 | exact .there sl9 | exact .there sl10 | exact .there sl11 | exact .there sl12) (.same _)))⟩
    have hs := hc.s c.sems[i] (List.getElem_mem h2)
    refine ldB.mk r1 (ldI.mk r2 (ldI.mk r3 (al.mk h fun d w6 h => st1.mk h (by simp) fun w6 h => st1.mk h (by simp) fun w6 h => st1.mk h (by simp) fun w6 h => ldB.mk (h.cell rfl) (ldI.mk (h.cell rfl) (ldI.mk (h.cell rfl) ?_)))))
    have h := h.drop
    refine call43 (New_sem h (fun hn => absurd hs hn) fun _ sb p w7 h => ⟨(some ⟨sb, 0, none⟩, (0 : Int), ()), rfl, nn.mk ?_⟩)
    have h := semI (s := semN c.sems[i]) okL_nil hs h
    have hkl := ptrs_len ((Ok.emb (h) (.cons (A := semsP s ((c.sems.take i).map semN)) (by with_reducible first | exact sl0 | exact .there sl0 | exact .there sl1 | exact .there sl2 | exact .there sl3 | exact .there sl4 | exact .there sl5 | exact .there sl6 | exact .there sl7 | exact .there sl8 | exact .there sl9 | exact .there sl10 | exact .there sl11 | exact .there sl12) (.same _))))
    refine ldS.mk (h.p1.cell rfl) (al.mk h fun f w8 h => ?_)
    refine ef.appendPtr (P := semQ) (pre := []) slT_semp ((Ok.emb (h) (.cons (A := pts f [pV sb]) (by with_reducible first | exact sl0 | exact .there sl0 | exact .there sl1 | exact .there sl2 | exact .there sl3 | exact .there sl4 | exact .there sl5 | exact .there sl6 | exact .there sl7 | exact .there sl8 | exact .there sl9 | exact .there sl10 | exact .there sl11 | exact .there sl12) (.cons (A := semQ sb (semN c.sems[i])) (by with_reducible first | exact sl0 | exact .there sl0 | exact .there sl1 | exact .there sl2 | exact .there sl3 | exact .there sl4 | exact .there sl5 | exact .there sl6 | exact .there sl7 | exact .there sl8 | exact .there sl9 | exact .there sl10 | exact .there sl11 | exact .there sl12) (.cons (A := semsP s ((c.sems.take i).map semN)) (by with_reducible first | exact sl0 | exact .there sl0 | exact .there sl1 | exact .there sl2 | exact .there sl3 | exact .there sl4 | exact .there sl5 | exact .there sl6 | exact .there sl7 | exact .there sl8 | exact .there sl9 | exact .there sl10 | exact .there sl11 | exact .there sl12) (.same _)))))) (by simp; omega) fun s' w9 h => nn.mk (st1.mk h.p1 (by simp) fun w10 h => ?_)
    refine ⟨⟨i + 1, s', w64_in (by omega) (by omega), h2, ?_⟩, ?_⟩
    · rw [List.take_add_one, List.getElem?_eq_getElem h2, List.map_append]
      exact h
    · show ((c.sems.length : Int) - w64 ((i : Int) + 1)).toNat < ((c.sems.length : Int) - (i : Int)).toNat
      rw [w64_in (by omega) (by omega)]
      omega
  have h2 : i = c.sems.length := by have := of_decide_eq_false h2; omega
  subst h2
  rw [List.take_length] at h
  refine ldS.mk (by refine Ok.cellS h (by with_reducible first | exact sl0 | exact .there sl0 | exact .there sl1 | exact .there sl2 | exact .there sl3 | exact .there sl4 | exact .there sl5 | exact .there sl6 | exact .there sl7 | exact .there sl8 | exact .there sl9 | exact .there sl10 | exact .there sl11 | exact .there sl12) ?_; rfl) ?_
  refine lp.mk (fun t w1 => @Eq Int t.1 0 ∧ w1 = w5) (fun _ _ => 0) ⟨rfl, rfl⟩ ?_
  rintro ⟨(t : Int), _⟩ w6 ⟨(rfl : t = 0), rfl⟩
  refine cs.no rfl (ldS.mk (by refine Ok.cellS h (by with_reducible first | exact sl0 | exact .there sl0 | exact .there sl1 | exact .there sl2 | exact .there sl3 | exact .there sl4 | exact .there sl5 | exact .there sl6 | exact .there sl7 | exact .there sl8 | exact .there sl9 | exact .there sl10 | exact .there sl11 | exact .there sl12) ?_; rfl) ?_)
  refine lp.mk (fun t w1 => ∃ (i : Nat) (s2 : Sl), @Eq Int t.1 (i : Int) ∧ i ≤ c.datas.length ∧ Ok e (pts k [vS s, vS ⟨none, 0, 0⟩, vS s2, vS ⟨none, 0, 0⟩, .int .i64 (c.mtxs.length : Int), pV lk, x6, x7, x8, x9, x10, x11, x12] :: datasP s2 ((c.datas.take i).map datN) :: semsP s (c.sems.map semN) :: pts b (cfC c S) :: mmP lk (MM.new c.mtxs) :: cfR c S L) w1)
    (fun t _ => Int.toNat (Int.sub c.datas.length t.1)) ⟨0, ⟨none, 0, 0⟩, rfl, by omega, (ptrs_nil (h.slcNil 1)).p1⟩ ?_
  rintro ⟨(t : Int), _⟩ w5 ⟨i, s2, (rfl : t = (i : Int)), hi, h⟩
  dsimp only
  refine cs.mk (fun h2 => ?_) (fun h2 => ?_)
  · have h2 : i < c.datas.length := by have := of_decide_eq_true h2; omega
    refine ix_flat daC_len (by decide) ((Ok.emb (h) (.cons (A := slc 2 S.ds (flat daC c.datas)) (by with_reducible first | exact sl0 | exact .there sl0 | exact .there sl1 | exact .there sl2 | exact .there sl3 | exact .there sl4 | exact .there sl5 | exact .there sl6 | exact .there sl7 | exact .there sl8 | exact .there sl9 | exact .there sl10 | exact .there sl11 | exact .there sl12) (.same _)))) (by omega) (by omega) fun b2 o2 y hy _ _ hc2 => ?_
    rw [Int.toNat_natCast, List.getElem?_eq_getElem h2] at hy
    cases hy
    have r1 := hc2 0 _ rfl w5 ⟨_, (Ok.emb (h) (.cons (A := slc 2 S.ds (flat daC c.datas)) (by with_reducible first | exact sl0 | exact .there sl0 | exact .there sl1 | exact .there sl2 | exact .there sl3 | exact .there sl4 | exact .there sl5 | exact .there sl6 | exact .there sl7 | exact .there sl8 | exact .there sl9 | exact .there sl10 | exact .there sl11 | exact .there sl12) (.same _)))⟩
    have r2 := hc2 1 _ rfl w5 ⟨_, (Ok.emb (h) (.cons (A := slc 2 S.ds (flat daC c.datas)) (by with_reducible first | exact sl0 | exact .there sl0 | exact .there sl1 | exact .there sl2 | exact .there sl3 | exact .there sl4 | exact .there sl5 | exact .there sl6 | exact .there sl7 | exact .there sl8 | exact .there sl9 | exact .there sl10 | exact .there sl11 | exact .there sl12) (.same _)))⟩
    have hs := hc.d c.datas[i] (List.getElem_mem h2)
    refine ldB.mk r1 (ldI.mk r2 (al.mk h fun d w6 h => st1.mk h (by simp) fun w6 h => st1.mk h (by simp) fun w6 h => ldB.mk (h.cell rfl) (ldI.mk (h.cell rfl) ?_)))
    have h := h.drop
    refine call179 (New_dtq h (fun hn => absurd hs hn) fun _ sb w7 h => ⟨(some ⟨sb, 0, none⟩, (0 : Int), ()), rfl, nn.mk ?_⟩)
    have h := h.imp (B := datQ sb (datN c.datas[i])) fun k hk => ⟨dqNew_ok hs, hk⟩
    have hkl := ptrs_len ((Ok.emb (h) (.cons (A := datasP s2 ((c.datas.take i).map datN)) (by with_reducible first | exact sl0 | exact .there sl0 | exact .there sl1 | exact .there sl2 | exact .there sl3 | exact .there sl4 | exact .there sl5 | exact .there sl6 | exact .there sl7 | exact .there sl8 | exact .there sl9 | exact .there sl10 | exact .there sl11 | exact .there sl12) (.same _))))
    refine ldS.mk (h.p1.cell rfl) (al.mk h fun f w8 h => ?_)
    refine ef.appendPtr (P := datQ) (pre := []) slT_datp ((Ok.emb (h) (.cons (A := pts f [pV sb]) (by with_reducible first | exact sl0 | exact .there sl0 | exact .there sl1 | exact .there sl2 | exact .there sl3 | exact .there sl4 | exact .there sl5 | exact .there sl6 | exact .there sl7 | exact .there sl8 | exact .there sl9 | exact .there sl10 | exact .there sl11 | exact .there sl12) (.cons (A := datQ sb (datN c.datas[i])) (by with_reducible first | exact sl0 | exact .there sl0 | exact .there sl1 | exact .there sl2 | exact .there sl3 | exact .there sl4 | exact .there sl5 | exact .there sl6 | exact .there sl7 | exact .there sl8 | exact .there sl9 | exact .there sl10 | exact .there sl11 | exact .there sl12) (.cons (A := datasP s2 ((c.datas.take i).map datN)) (by with_reducible first | exact sl0 | exact .there sl0 | exact .there sl1 | exact .there sl2 | exact .there sl3 | exact .there sl4 | exact .there sl5 | exact .there sl6 | exact .there sl7 | exact .there sl8 | exact .there sl9 | exact .there sl10 | exact .there sl11 | exact .there sl12) (.same _)))))) (by simp; omega) fun s' w9 h => nn.mk (st1.mk h.p1 (by simp) fun w10 h => ?_)
    refine ⟨⟨i + 1, s', w64_in (by omega) (by omega), h2, ?_⟩, ?_⟩
    · rw [List.take_add_one, List.getElem?_eq_getElem h2, List.map_append]
      exact h
    · show ((c.datas.length : Int) - w64 ((i : Int) + 1)).toNat < ((c.datas.length : Int) - (i : Int)).toNat
      rw [w64_in (by omega) (by omega)]
      omega
  have h2 : i = c.datas.length := by have := of_decide_eq_false h2; omega
  subst h2
  rw [List.take_length] at h
  refine ldI.mk (by refine Ok.cellS h (by with_reducible first | exact sl0 | exact .there sl0 | exact .there sl1 | exact .there sl2 | exact .there sl3 | exact .there sl4 | exact .there sl5 | exact .there sl6 | exact .there sl7 | exact .there sl8 | exact .there sl9 | exact .there sl10 | exact .there sl11 | exact .there sl12) ?_; rfl) (ldS.mk (by refine Ok.cellS h (by with_reducible first | exact sl0 | exact .there sl0 | exact .there sl1 | exact .there sl2 | exact .there sl3 | exact .there sl4 | exact .there sl5 | exact .there sl6 | exact .there sl7 | exact .there sl8 | exact .there sl9 | exact .there sl10 | exact .there sl11 | exact .there sl12) ?_; rfl) (ldS.mk (by refine Ok.cellS h (by with_reducible first | exact sl0 | exact .there sl0 | exact .there sl1 | exact .there sl2 | exact .there sl3 | exact .there sl4 | exact .there sl5 | exact .there sl6 | exact .there sl7 | exact .there sl8 | exact .there sl9 | exact .there sl10 | exact .there sl11 | exact .there sl12) ?_; rfl) (ldS.mk (by refine Ok.cellS h (by with_reducible first | exact sl0 | exact .there sl0 | exact .there sl1 | exact .there sl2 | exact .there sl3 | exact .there sl4 | exact .there sl5 | exact .there sl6 | exact .there sl7 | exact .there sl8 | exact .there sl9 | exact .there sl10 | exact .there sl11 | exact .there sl12) ?_; rfl) (ldS.mk (by refine Ok.cellS h (by with_reducible first | exact sl0 | exact .there sl0 | exact .there sl1 | exact .there sl2 | exact .there sl3 | exact .there sl4 | exact .there sl5 | exact .there sl6 | exact .there sl7 | exact .there sl8 | exact .there sl9 | exact .there sl10 | exact .there sl11 | exact .there sl12) ?_; rfl) (ldS.mk (by refine Ok.cellS h (by with_reducible first | exact sl0 | exact .there sl0 | exact .there sl1 | exact .there sl2 | exact .there sl3 | exact .there sl4 | exact .there sl5 | exact .there sl6 | exact .there sl7 | exact .there sl8 | exact .there sl9 | exact .there sl10 | exact .there sl11 | exact .there sl12) ?_; rfl) (ldS.mk (by refine Ok.cellS h (by with_reducible first | exact sl0 | exact .there sl0 | exact .there sl1 | exact .there sl2 | exact .there sl3 | exact .there sl4 | exact .there sl5 | exact .there sl6 | exact .there sl7 | exact .there sl8 | exact .there sl9 | exact .there sl10 | exact .there sl11 | exact .there sl12) ?_; rfl) (ldS.mk (by refine Ok.cellS h (by with_reducible first | exact sl0 | exact .there sl0 | exact .there sl1 | exact .there sl2 | exact .there sl3 | exact .there sl4 | exact .there sl5 | exact .there sl6 | exact .there sl7 | exact .there sl8 | exact .there sl9 | exact .there sl10 | exact .there sl11 | exact .there sl12) ?_; rfl) (ldI.mk (by refine Ok.cellS h (by with_reducible first | exact sl0 | exact .there sl0 | exact .there sl1 | exact .there sl2 | exact .there sl3 | exact .there sl4 | exact .there sl5 | exact .there sl6 | exact .there sl7 | exact .there sl8 | exact .there sl9 | exact .there sl10 | exact .there sl11 | exact .there sl12) ?_; rfl) ?_))))))))
  have h : Ok e (cfR c S (pts k [vS s, vS ⟨none, 0, 0⟩, vS s2, vS ⟨none, 0, 0⟩, .int .i64 (c.mtxs.length : Int), pV lk, x6, x7, x8, x9, x10, x11, x12] :: datasP s2 (c.datas.map datN) :: semsP s (c.sems.map semN) :: pts b (cfC c S) :: mmP lk (MM.new c.mtxs) :: L)) w5 := (h.emb (by repeat' (first | with_reducible exact Emb.same _ | exact Emb.nil _ | refine Emb.cons (by with_reducible first | exact sl0 | exact .there sl0 | exact .there sl1 | exact .there sl2 | exact .there sl3 | exact .there sl4 | exact .there sl5 | exact .there sl6 | exact .there sl7 | exact .there sl8 | exact .there sl9 | exact .there sl10 | exact .there sl11 | exact .there sl12) ?_ | refine Emb.skip ?_)))
  refine call185 (a0 := cfV c S) (Layout_conf h hc fun x w6 h => ⟨(x, ()), rfl, ?_⟩)
  have hxl := h.slc_len
  simp [layout_len] at hxl
  refine lp.mk (fun t w1 => ∃ (i : Nat) (s3 : Sl), @Eq Int t.1 (i : Int) ∧ i ≤ c.pools.length ∧ Ok e (pts k [vS s, vS ⟨none, 0, 0⟩, vS s2, vS s3, .int .i64 (c.mtxs.length : Int), pV lk, x6, x7, x8, x9, x10, x11, x12] :: poolsP s3 (List.zipWith poolN ((layoutM 0 c.pools).take i) (c.pools.take i)) :: slc 1 x (ints (layoutM 0 c.pools)) :: datasP s2 (c.datas.map datN) :: semsP s (c.sems.map semN) :: pts b (cfC c S) :: mmP lk (MM.new c.mtxs) :: cfR c S L) w1)
    (fun t _ => Int.toNat (Int.sub c.pools.length t.1)) ⟨0, ⟨none, 0, 0⟩, rfl, by omega, ?_⟩ ?_
  · have h := ptrs_nil (P := poolQ) (d := ⟨false, 0, 0, 0, mp0⟩) (h.slcNil 1)
    have h : Ok e (pts k [vS s, vS ⟨none, 0, 0⟩, vS s2, vS ⟨none, 0, 0⟩, .int .i64 (c.mtxs.length : Int), pV lk, x6, x7, x8, x9, x10, x11, x12] :: ptrsP poolQ [] ⟨false, 0, 0, 0, mp0⟩ ⟨none, 0, 0⟩ [] :: slc 1 x (ints (layoutM 0 c.pools)) :: datasP s2 (c.datas.map datN) :: semsP s (c.sems.map semN) :: pts b (cfC c S) :: mmP lk (MM.new c.mtxs) :: cfR c S L) w6 := (h.emb (by repeat' (first | with_reducible exact Emb.same _ | exact Emb.nil _ | refine Emb.cons (by with_reducible first | exact sl0 | exact .there sl0 | exact .there sl1 | exact .there sl2 | exact .there sl3 | exact .there sl4 | exact .there sl5 | exact .there sl6 | exact .there sl7 | exact .there sl8 | exact .there sl9 | exact .there sl10 | exact .there sl11 | exact .there sl12) ?_ | refine Emb.skip ?_)))
    exact h
  rintro ⟨(t : Int), _⟩ w5 ⟨i, s3, (rfl : t = (i : Int)), hi, h⟩
  dsimp only
  refine cs.mk (fun h2 => ?_) (fun h2 => ?_)
  · have h2 : i < c.pools.length := by have := of_decide_eq_true h2; omega
    obtain ⟨hg, hn⟩ := pools_get hc.p (List.getElem?_eq_getElem h2)
    refine ix_int ((Ok.emb (h) (.cons (A := slc 1 x (ints (layoutM 0 c.pools))) (by with_reducible first | exact sl0 | exact .there sl0 | exact .there sl1 | exact .there sl2 | exact .there sl3 | exact .there sl4 | exact .there sl5 | exact .there sl6 | exact .there sl7 | exact .there sl8 | exact .there sl9 | exact .there sl10 | exact .there sl11 | exact .there sl12) (.same _)))) (by omega) (by omega) fun b1 o1 z hz hcz => ldI.mk (hcz _ ⟨_, (Ok.emb (h) (.cons (A := slc 1 x (ints (layoutM 0 c.pools))) (by with_reducible first | exact sl0 | exact .there sl0 | exact .there sl1 | exact .there sl2 | exact .there sl3 | exact .there sl4 | exact .there sl5 | exact .there sl6 | exact .there sl7 | exact .there sl8 | exact .there sl9 | exact .there sl10 | exact .there sl11 | exact .there sl12) (.same _)))⟩) (ldS.mk (by refine Ok.cellS h (by with_reducible first | exact sl0 | exact .there sl0 | exact .there sl1 | exact .there sl2 | exact .there sl3 | exact .there sl4 | exact .there sl5 | exact .there sl6 | exact .there sl7 | exact .there sl8 | exact .there sl9 | exact .there sl10 | exact .there sl11 | exact .there sl12) ?_; rfl) ?_)
    rw [Int.toNat_natCast, layout_get h2] at hz
    cases hz
    refine ix_pool ((Ok.emb (h) (.cons (A := slc 3 S.ps (flat seC c.pools)) (by with_reducible first | exact sl0 | exact .there sl0 | exact .there sl1 | exact .there sl2 | exact .there sl3 | exact .there sl4 | exact .there sl5 | exact .there sl6 | exact .there sl7 | exact .there sl8 | exact .there sl9 | exact .there sl10 | exact .there sl11 | exact .there sl12) (.same _)))) h2 fun b2 o2 hc2 => ?_
    obtain ⟨r1, r2, r3⟩ := hc2 w5 ⟨_, (Ok.emb (h) (.cons (A := slc 3 S.ps (flat seC c.pools)) (by with_reducible first | exact sl0 | exact .there sl0 | exact .there sl1 | exact .there sl2 | exact .there sl3 | exact .there sl4 | exact .there sl5 | exact .there sl6 | exact .there sl7 | exact .there sl8 | exact .there sl9 | exact .there sl10 | exact .there sl11 | exact .there sl12) (.same _)))⟩
    refine ldB.mk r1 (ldI.mk r2 (ldI.mk r3 (al.mk h fun d w6 h => st1.mk h (by simp) fun w6 h => st1.mk h (by simp) fun w6 h => st1.mk h (by simp) fun w6 h => ldB.mk (h.cell rfl) (ldI.mk (h.cell rfl) (ldI.mk (h.cell rfl) ?_)))))
    have h := h.drop
    refine call182 (NewPool_mpf h (fun _ _ hn => absurd hg hn) fun _ sb w7 h => ⟨(some ⟨sb, 0, none⟩, (0 : Int), ()), rfl, nn.mk ?_⟩)
    have h := h.imp (B := poolQ sb (poolN (stp (bytesM 0 (c.pools.take i))) c.pools[i])) fun k hk => ⟨mp0_ok hg, hk⟩
    have hkl := ptrs_len ((Ok.emb (h) (.cons (A := poolsP s3 (List.zipWith poolN ((layoutM 0 c.pools).take i) (c.pools.take i))) (by with_reducible first | exact sl0 | exact .there sl0 | exact .there sl1 | exact .there sl2 | exact .there sl3 | exact .there sl4 | exact .there sl5 | exact .there sl6 | exact .there sl7 | exact .there sl8 | exact .there sl9 | exact .there sl10 | exact .there sl11 | exact .there sl12) (.same _))))
    refine ldS.mk (h.p1.cell rfl) (al.mk h fun f w8 h => ?_)
    refine ef.appendPtr (P := poolQ) (pre := []) slT_poolp ((Ok.emb (h) (.cons (A := pts f [pV sb]) (by with_reducible first | exact sl0 | exact .there sl0 | exact .there sl1 | exact .there sl2 | exact .there sl3 | exact .there sl4 | exact .there sl5 | exact .there sl6 | exact .there sl7 | exact .there sl8 | exact .there sl9 | exact .there sl10 | exact .there sl11 | exact .there sl12) (.cons (A := poolQ sb (poolN (stp (bytesM 0 (c.pools.take i))) c.pools[i])) (by with_reducible first | exact sl0 | exact .there sl0 | exact .there sl1 | exact .there sl2 | exact .there sl3 | exact .there sl4 | exact .there sl5 | exact .there sl6 | exact .there sl7 | exact .there sl8 | exact .there sl9 | exact .there sl10 | exact .there sl11 | exact .there sl12) (.cons (A := poolsP s3 (List.zipWith poolN ((layoutM 0 c.pools).take i) (c.pools.take i))) (by with_reducible first | exact sl0 | exact .there sl0 | exact .there sl1 | exact .there sl2 | exact .there sl3 | exact .there sl4 | exact .there sl5 | exact .there sl6 | exact .there sl7 | exact .there sl8 | exact .there sl9 | exact .there sl10 | exact .there sl11 | exact .there sl12) (.same _)))))) (by simp; omega) fun s' w9 h => nn.mk (st1.mk h.p1 (by simp) fun w10 h => ?_)
    refine ⟨⟨i + 1, s', w64_in (by omega) (by omega), h2, ?_⟩, ?_⟩
    · rw [zip_take (layout_get h2) (List.getElem?_eq_getElem h2)]
      exact h
    · show ((c.pools.length : Int) - w64 ((i : Int) + 1)).toNat < ((c.pools.length : Int) - (i : Int)).toNat
      rw [w64_in (by omega) (by omega)]
      omega
  have h2 : i = c.pools.length := by have := of_decide_eq_false h2; omega
  subst h2
  rw [List.take_length, List.take_of_length_le (by rw [layout_len]; omega)] at h
  exact kk s s2 s3 lk w5 (h.emb (by repeat' (first | with_reducible exact Emb.same _ | exact Emb.nil _ | refine Emb.cons (by with_reducible first | exact sl0 | exact .there sl0 | exact .there sl1 | exact .there sl2 | exact .there sl3 | exact .there sl4 | exact .there sl5 | exact .there sl6 | exact .there sl7 | exact .there sl8 | exact .there sl9 | exact .there sl10 | exact .there sl11 | exact .there sl12) ?_ | refine Emb.skip ?_)))

end Go.Proofs.YtenonfkfoedfmaaGreatDoor.B


/- A kernel is made: the whole. -/
namespace Go.Proofs.YtenonfkfoedfmaaGreatDoor.B
open Go
set_option linter.unusedVariables false

/-- what is done of a new kernel, behind its block -/
def tailX (R : List Value → World → Prop) (b1 k : Nat) (w24 : World) : Prop :=
 dr w24 fun w25 =>
 nn (some ⟨k, 0, none⟩) fun b26 o27 =>
 ldI w25 .i64 b1 0 fun n28 =>
 ldS w25 b1 (0 + 1) fun s29 =>
 ldS w25 b1 (0 + 2) fun s30 =>
 ldS w25 b1 (0 + 3) fun s31 =>
 ldS w25 b1 (0 + 4) fun s32 =>
 ldS w25 b1 (0 + 5) fun s33 =>
 ldS w25 b1 (0 + 6) fun s34 =>
 ldS w25 b1 (0 + 7) fun s35 =>
 ldI w25 .i64 b1 (0 + 8) fun n36 =>
 cl Pg 100 [.pointer (some ⟨b26, o27, none⟩), .agg #[.int .i64 n28, vS s29, vS s30, vS s31, vS s32, vS s33, vS s34, vS s35, .int .i64 n36]] [] w25 fun (r37 : Unit) w38 =>
 ldI w38 .i64 b1 0 fun n39 =>
 cl Pg 101 [.int .i64 n39] [kP, kI] w38 fun (r40 : Option Addr × Int × Unit) w41 =>
 nn (some ⟨k, 0, none⟩) fun b42 o43 =>
 st1 w41 b42 (o43 + 7) (.pointer r40.1) fun w44 =>
 ldS w44 b1 (0 + 7) fun s45 =>
 lp [kI] w44 ((0 : Int), ()) fun (t46 : Int × Unit) J47 w48 =>
 cs (decide ((t46.1 : Int) < ((s45.len : Int) : Int))) (
 ix s45 t46.1 4 fun b49 o50 =>
 ldI w48 .i64 b49 o50 fun n51 =>
 ldI w48 .i64 b49 (o50 + 1) fun n52 =>
 ldB w48 b49 (o50 + 2) fun b53 =>
 ldB w48 b49 (o50 + 3) fun b54 =>
 al w48 192 [.int .i64 0, .int .i64 0, .bool false, .bool false] fun b55 w56 =>
 st1 w56 b55 0 (.int .i64 n51) fun w57 =>
 st1 w57 b55 (0 + 1) (.int .i64 n52) fun w58 =>
 st1 w58 b55 (0 + 2) (.bool b53) fun w59 =>
 st1 w59 b55 (0 + 3) (.bool b54) fun w60 =>
 dr w60 fun w61 =>
 nn (some ⟨k, 0, none⟩) fun b62 o63 =>
 ldP w61 b62 (o63 + 7) fun p64 =>
 ldI w61 .i64 b55 0 fun n65 =>
 ldI w61 .i64 b55 (0 + 1) fun n66 =>
 ldB w61 b55 (0 + 2) fun b67 =>
 ldB w61 b55 (0 + 3) fun b68 =>
 cl Pg 102 [.pointer p64, .int .i64 n65, .int .i64 n66, .bool b67, .bool b68] [kI, kI] w61 fun (r69 : Int × Int × Unit) w70 =>
 J47 (w64 (t46.1 + 1), ()) w70) (
 ldI w48 .i64 b1 (0 + 8) fun n71 =>
 lp [kI] w48 ((0 : Int), ()) fun (t72 : Int × Unit) J73 w74 =>
 cs (decide ((t72.1 : Int) < (n71 : Int))) (
 nn (some ⟨k, 0, none⟩) fun b75 o76 =>
 ldP w74 b75 (o76 + 7) fun p77 =>
 cl Pg 103 [.pointer p77] [kI, kI] w74 fun (r78 : Int × Int × Unit) w79 =>
 J73 (w64 (t72.1 + 1), ()) w79) (
 ldS w74 b1 (0 + 1) fun s80 =>
 lp [kI] w74 ((0 : Int), ()) fun (t81 : Int × Unit) J82 w83 =>
 cs (decide ((t81.1 : Int) < ((s80.len : Int) : Int))) (
 ix s80 t81.1 2 fun b84 o85 =>
 ldI w83 .i64 b84 o85 fun n86 =>
 ldB w83 b84 (o85 + 1) fun b87 =>
 al w83 45 [.int .i64 0, .bool false] fun b88 w89 =>
 st1 w89 b88 0 (.int .i64 n86) fun w90 =>
 st1 w90 b88 (0 + 1) (.bool b87) fun w91 =>
 dr w91 fun w92 =>
 nn (some ⟨k, 0, none⟩) fun b93 o94 =>
 ldP w92 b93 (o94 + 5) fun p95 =>
 ldI w92 .i64 b88 0 fun n96 =>
 cl Pg 31 [.pointer p95, .int .i64 (w64 (t81.1 + 1)), .int .i64 n96] [kI] w92 fun (r97 : Int × Unit) w98 =>
 dr w98 fun w99 =>
 nn (some ⟨k, 0, none⟩) fun b100 o101 =>
 ldS w99 b100 (o101 + 9) fun s102 =>
 ldI w99 .i64 b88 0 fun n103 =>
 ldI w99 .i64 b88 0 fun n104 =>
 cl Pg 104 [] [kP] w99 fun (r105 : Option Addr × Unit) w106 =>
(w106.cell? ⟨b88, 0, none⟩ = some (.int .i64 n104)) ∧ (
(w106.cell? ⟨b88, 0, none⟩ = some (.int .i64 n103)) ∧ (
(w106.cell? ⟨b100, o101 + 9, none⟩ = some (vS s102)) ∧ (
 al w106 137 [.pointer r105.1, .int .i64 n103, .int .i64 n104, .int .i64 0, .int .i64 0, .int .i64 0, .int .i64 0, .int .i64 0] fun b107 w108 =>
(w108.cell? ⟨b100, o101 + 9, none⟩ = some (vS s102)) ∧ (
 al w108 138 [.pointer (some ⟨b107, 0, none⟩)] fun b109 w110 =>
(w110.cell? ⟨b100, o101 + 9, none⟩ = some (vS s102)) ∧ (
 ef Pg (Builtin.append_ #[130, 130] 130 #[vS s102, vS ⟨some ⟨b109, 0, none⟩, 1, 1⟩]) [kS] w110 fun (r111 : Sl × Unit) w112 =>
 nn (some ⟨k, 0, none⟩) fun b113 o114 =>
 st1 w112 b113 (o114 + 9) (vS r111.1) fun w115 =>
 J82 (w64 (t81.1 + 1), ()) w115)))))) (
 ldS w83 b1 (0 + 1) fun s116 =>
 lp [kI] w83 ((0 : Int), ()) fun (t117 : Int × Unit) J118 w119 =>
 cs (decide ((t117.1 : Int) < ((s116.len : Int) : Int))) (
 ix s116 t117.1 2 fun b120 o121 =>
 ldI w119 .i64 b120 o121 fun n122 =>
 ldB w119 b120 (o121 + 1) fun b123 =>
 al w119 45 [.int .i64 0, .bool false] fun b124 w125 =>
 st1 w125 b124 0 (.int .i64 n122) fun w126 =>
 st1 w126 b124 (0 + 1) (.bool b123) fun w127 =>
 ldB w127 b124 (0 + 1) fun b128 =>
 cs b128 (
 cl Pg 105 [.pointer (some ⟨k, 0, none⟩), .int .i64 (w64 (t117.1 + 1))] [kI] w127 fun (r129 : Int × Unit) w130 =>
 J118 (w64 (t117.1 + 1), ()) w130) (
 J118 (w64 (t117.1 + 1), ()) w127)) (
 cl Pg 57 [.pointer (some ⟨k, 0, none⟩)] [] w119 fun (r131 : Unit) w132 =>
 R [.pointer (some ⟨k, 0, none⟩), .int .i64 0] w132))))

set_option maxHeartbeats 2000000 in
theorem New_kern {e w L c S K R} (tb : TabE e) (h : Ok e (cfR c S (old e :: L)) w) (hc : CfOk c) (hm : KM.new c = some K) (kk : ∀ k A w', Ok e (kerP k A K :: cfR c S (old e :: L)) w' → R [pV k, .int .i64 0] w') : sh51 (cfV c S) R w := by
  unfold sh51
  have l1 : c.tasks.length = S.ts.len := slc_flat_len taC_len (by decide) h
  have htl := hc.tl
  refine al.mk h fun b w1 h => ?_
  have h : Ok e (pts b (cfC c S) :: cfR c S (old e :: L)) w1 := h
  refine ldI.mk (h.cell rfl) (ldS.mk (h.cell rfl) (ldS.mk (h.cell rfl) (ldS.mk (h.cell rfl) (ldS.mk (h.cell rfl) (ldS.mk (h.cell rfl) (ldS.mk (h.cell rfl) (ldS.mk (h.cell rfl) (ldI.mk (h.cell rfl) ?_))))))))
  have h : Ok e (cfR c S (pts b (cfC c S) :: old e :: L)) w1 := (h.emb (by repeat' (first | with_reducible exact Emb.same _ | exact Emb.nil _ | refine Emb.cons (by with_reducible first | exact sl0 | exact .there sl0 | exact .there sl1 | exact .there sl2 | exact .there sl3 | exact .there sl4 | exact .there sl5 | exact .there sl6 | exact .there sl7 | exact .there sl8 | exact .there sl9 | exact .there sl10 | exact .there sl11 | exact .there sl12) ?_ | refine Emb.skip ?_)))
  refine call98 (a0 := cfV c S) (Check_conf h hc fun w2 h => ⟨(bs [], (0 : Int), (0 : Int), ()), rfl, cs.no rfl (dr.mk h fun w3 h => ldS.mk (by refine Ok.cellS h (by with_reducible first | exact sl0 | exact .there sl0 | exact .there sl1 | exact .there sl2 | exact .there sl3 | exact .there sl4 | exact .there sl5 | exact .there sl6 | exact .there sl7 | exact .there sl8 | exact .there sl9 | exact .there sl10 | exact .there sl11 | exact .there sl12) ?_; rfl) (ldI.mk (by refine Ok.cellS h (by with_reducible first | exact sl0 | exact .there sl0 | exact .there sl1 | exact .there sl2 | exact .there sl3 | exact .there sl4 | exact .there sl5 | exact .there sl6 | exact .there sl7 | exact .there sl8 | exact .there sl9 | exact .there sl10 | exact .there sl11 | exact .there sl12) ?_; rfl) ?_))⟩)
  obtain ⟨KT, hT, hm⟩ := Option.map_eq_some_iff.1 hm
  obtain ⟨K1, hK1, hA⟩ := Option.bind_eq_some_iff.1 hT
  have tail : ∀ (k v p r : Nat) w4, Ok e (pts k [vS ⟨none, 0, 0⟩, vS ⟨none, 0, 0⟩, vS ⟨none, 0, 0⟩, vS ⟨none, 0, 0⟩, .int .i64 0, .pointer none, pV p, .pointer none, pV r, vS ⟨some ⟨v, 0, none⟩, 1, 1⟩, .int .i64 0, .int .i64 0, .int .i64 0] :: pts v [.pointer none] :: placeP p ⟨[], false, false⟩ :: rdyP r [] :: pts b (cfC c S) :: cfR c S (old e :: L)) w4 → tailX R b k w4 := by
    intro k v p r w4 h
    unfold tailX
    refine dr.mk h fun w5 h => nn.mk (ldI.mk (by refine Ok.cellS h (by with_reducible first | exact sl0 | exact .there sl0 | exact .there sl1 | exact .there sl2 | exact .there sl3 | exact .there sl4 | exact .there sl5 | exact .there sl6 | exact .there sl7 | exact .there sl8 | exact .there sl9 | exact .there sl10 | exact .there sl11 | exact .there sl12) ?_; rfl) (ldS.mk (by refine Ok.cellS h (by with_reducible first | exact sl0 | exact .there sl0 | exact .there sl1 | exact .there sl2 | exact .there sl3 | exact .there sl4 | exact .there sl5 | exact .there sl6 | exact .there sl7 | exact .there sl8 | exact .there sl9 | exact .there sl10 | exact .there sl11 | exact .there sl12) ?_; rfl) (ldS.mk (by refine Ok.cellS h (by with_reducible first | exact sl0 | exact .there sl0 | exact .there sl1 | exact .there sl2 | exact .there sl3 | exact .there sl4 | exact .there sl5 | exact .there sl6 | exact .there sl7 | exact .there sl8 | exact .there sl9 | exact .there sl10 | exact .there sl11 | exact .there sl12) ?_; rfl) (ldS.mk (by refine Ok.cellS h (by with_reducible first | exact sl0 | exact .there sl0 | exact .there sl1 | exact .there sl2 | exact .there sl3 | exact .there sl4 | exact .there sl5 | exact .there sl6 | exact .there sl7 | exact .there sl8 | exact .there sl9 | exact .there sl10 | exact .there sl11 | exact .there sl12) ?_; rfl) (ldS.mk (by refine Ok.cellS h (by with_reducible first | exact sl0 | exact .there sl0 | exact .there sl1 | exact .there sl2 | exact .there sl3 | exact .there sl4 | exact .there sl5 | exact .there sl6 | exact .there sl7 | exact .there sl8 | exact .there sl9 | exact .there sl10 | exact .there sl11 | exact .there sl12) ?_; rfl) (ldS.mk (by refine Ok.cellS h (by with_reducible first | exact sl0 | exact .there sl0 | exact .there sl1 | exact .there sl2 | exact .there sl3 | exact .there sl4 | exact .there sl5 | exact .there sl6 | exact .there sl7 | exact .there sl8 | exact .there sl9 | exact .there sl10 | exact .there sl11 | exact .there sl12) ?_; rfl) (ldS.mk (by refine Ok.cellS h (by with_reducible first | exact sl0 | exact .there sl0 | exact .there sl1 | exact .there sl2 | exact .there sl3 | exact .there sl4 | exact .there sl5 | exact .there sl6 | exact .there sl7 | exact .there sl8 | exact .there sl9 | exact .there sl10 | exact .there sl11 | exact .there sl12) ?_; rfl) (ldS.mk (by refine Ok.cellS h (by with_reducible first | exact sl0 | exact .there sl0 | exact .there sl1 | exact .there sl2 | exact .there sl3 | exact .there sl4 | exact .there sl5 | exact .there sl6 | exact .there sl7 | exact .there sl8 | exact .there sl9 | exact .there sl10 | exact .there sl11 | exact .there sl12) ?_; rfl) (ldI.mk (by refine Ok.cellS h (by with_reducible first | exact sl0 | exact .there sl0 | exact .there sl1 | exact .there sl2 | exact .there sl3 | exact .there sl4 | exact .there sl5 | exact .there sl6 | exact .there sl7 | exact .there sl8 | exact .there sl9 | exact .there sl10 | exact .there sl11 | exact .there sl12) ?_; rfl) ?_)))))))))
    have h : Ok e (pts k [vS ⟨none, 0, 0⟩, vS ⟨none, 0, 0⟩, vS ⟨none, 0, 0⟩, vS ⟨none, 0, 0⟩, .int .i64 0, .pointer none, pV p, .pointer none, pV r, vS ⟨some ⟨v, 0, none⟩, 1, 1⟩, .int .i64 0, .int .i64 0, .int .i64 0] :: cfR c S (pts b (cfC c S) :: pts v [.pointer none] :: placeP p ⟨[], false, false⟩ :: rdyP r [] :: old e :: L)) w5 := (h.emb (by repeat' (first | with_reducible exact Emb.same _ | exact Emb.nil _ | refine Emb.cons (by with_reducible first | exact sl0 | exact .there sl0 | exact .there sl1 | exact .there sl2 | exact .there sl3 | exact .there sl4 | exact .there sl5 | exact .there sl6 | exact .there sl7 | exact .there sl8 | exact .there sl9 | exact .there sl10 | exact .there sl11 | exact .there sl12) ?_ | refine Emb.skip ?_)))
    refine call100 (a1 := cfV c S) (build_kern h hc fun ss ds ps lk w6 h => ⟨(), rfl, ldI.mk (by refine Ok.cellS h (by with_reducible first | exact sl0 | exact .there sl0 | exact .there sl1 | exact .there sl2 | exact .there sl3 | exact .there sl4 | exact .there sl5 | exact .there sl6 | exact .there sl7 | exact .there sl8 | exact .there sl9 | exact .there sl10 | exact .there sl11 | exact .there sl12) ?_; rfl) ?_⟩)
    refine call101 (NewHands_cyc h hc.tic fun hn w7 h => ⟨(some ⟨hn, 0, none⟩, (0 : Int), ()), rfl, nn.mk (st1.mk h.p1 (by simp) fun w8 h => ldS.mk (by refine Ok.cellS h (by with_reducible first | exact sl0 | exact .there sl0 | exact .there sl1 | exact .there sl2 | exact .there sl3 | exact .there sl4 | exact .there sl5 | exact .there sl6 | exact .there sl7 | exact .there sl8 | exact .there sl9 | exact .there sl10 | exact .there sl11 | exact .there sl12) ?_; rfl) ?_)⟩)
    refine lp.mk (fun t w1 => @Eq Int t.1 0 ∧ w1 = w8) (fun _ _ => 0) ⟨rfl, rfl⟩ ?_
    rintro ⟨(t : Int), _⟩ w9 ⟨(rfl : t = 0), rfl⟩
    refine cs.no rfl (ldI.mk (by refine Ok.cellS h (by with_reducible first | exact sl0 | exact .there sl0 | exact .there sl1 | exact .there sl2 | exact .there sl3 | exact .there sl4 | exact .there sl5 | exact .there sl6 | exact .there sl7 | exact .there sl8 | exact .there sl9 | exact .there sl10 | exact .there sl11 | exact .there sl12) ?_; rfl) ?_)
    refine lp.mk (fun t w1 => @Eq Int t.1 0 ∧ w1 = w9) (fun _ _ => 0) ⟨rfl, rfl⟩ ?_
    rintro ⟨(t : Int), _⟩ w10 ⟨(rfl : t = 0), rfl⟩
    refine cs.no rfl (ldS.mk (by refine Ok.cellS h (by with_reducible first | exact sl0 | exact .there sl0 | exact .there sl1 | exact .there sl2 | exact .there sl3 | exact .there sl4 | exact .there sl5 | exact .there sl6 | exact .there sl7 | exact .there sl8 | exact .there sl9 | exact .there sl10 | exact .there sl11 | exact .there sl12) ?_; rfl) ?_)
    have hk : ∃ A, Ok e (kerP k A (KM.new0 c) :: pts b (cfC c S) :: cfR c S (old e :: L)) w10 := by
      refine ⟨⟨ss, ⟨none, 0, 0⟩, ds, ps, ⟨some ⟨v, 0, none⟩, 1, 1⟩, fun _ => 0, lk, p, hn, r⟩, ?_⟩
      refine kerI ⟨by show 0 ≤ c.tic; have := hc.tic; omega, hc.tic.2, by simp [KM.new0], by simp [KM.new0]; exact hc.sl, by simp [KM.new0]; exact hc.dl, by simp [KM.new0, layout_len]; exact hc.pl⟩ ?_
      have e1 : (((KM.new0 c).mm.m.length : Int) - 1) = (c.mtxs.length : Int) := by simp [KM.new0, MM.new]
      show Ok e (pts k [vS ss, vS ⟨none, 0, 0⟩, vS ds, vS ps, .int .i64 (((KM.new0 c).mm.m.length : Int) - 1), pV lk, pV p, pV hn, pV r, vS ⟨some ⟨v, 0, none⟩, 1, 1⟩, .int .i64 0, .int .i64 0, .int .i64 0] :: ptrsB unP [.pointer none] un0 (fun _ => 0) ⟨some ⟨v, 0, none⟩, 1, 1⟩ [] :: semsP ss (c.sems.map semN) :: slc 1 ⟨none, 0, 0⟩ [] :: datasP ds (c.datas.map datN) :: poolsP ps (List.zipWith poolN (layoutM 0 c.pools) c.pools) :: mmP lk (MM.new c.mtxs) :: placeP p ⟨[], false, false⟩ :: hnP hn c.tic 0 0 0 [] :: rdyP r [] :: pts b (cfC c S) :: cfR c S (old e :: L)) w10
      rw [e1]
      have h : Ok e (pts k [vS ss, vS ⟨none, 0, 0⟩, vS ds, vS ps, .int .i64 (c.mtxs.length : Int), pV lk, pV p, pV hn, pV r, vS ⟨some ⟨v, 0, none⟩, 1, 1⟩, .int .i64 0, .int .i64 0, .int .i64 0] :: hnP hn c.tic 0 0 0 [] :: semsP ss (c.sems.map semN) :: datasP ds (c.datas.map datN) :: poolsP ps (List.zipWith poolN (layoutM 0 c.pools) c.pools) :: mmP lk (MM.new c.mtxs) :: cfR c S (pts b (cfC c S) :: pts v [.pointer none] :: placeP p ⟨[], false, false⟩ :: rdyP r [] :: old e :: L)) w10 := h
      have h := ((Ok.emb (h) (.cons (A := pts v [.pointer none]) (by with_reducible first | exact sl0 | exact .there sl0 | exact .there sl1 | exact .there sl2 | exact .there sl3 | exact .there sl4 | exact .there sl5 | exact .there sl6 | exact .there sl7 | exact .there sl8 | exact .there sl9 | exact .there sl10 | exact .there sl11 | exact .there sl12) (.same _)))).slcNew (sz := 1) (n := 1) rfl (by simp; rfl)
      have h := ptrsB_nil (P := unP) (d := un0) (bs := fun _ => 0) h
      have h := h.slcNil 1
      exact (h.emb (by repeat' (first | with_reducible exact Emb.same _ | exact Emb.nil _ | refine Emb.cons (by with_reducible first | exact sl0 | exact .there sl0 | exact .there sl1 | exact .there sl2 | exact .there sl3 | exact .there sl4 | exact .there sl5 | exact .there sl6 | exact .there sl7 | exact .there sl8 | exact .there sl9 | exact .there sl10 | exact .there sl11 | exact .there sl12) ?_ | refine Emb.skip ?_)))
    obtain ⟨A0, hk⟩ := hk
    clear h
    refine lp.mk (fun t w1 => ∃ (i : Nat) (A : KA) (Ki : KM), @Eq Int t.1 (i : Int) ∧ i ≤ c.tasks.length ∧ Ki.us.length = i ∧ KM.newT i (c.tasks.drop i) Ki = some K1 ∧ Ok e (kerP k A Ki :: pts b (cfC c S) :: cfR c S (old e :: L)) w1)
      (fun t _ => Int.toNat (Int.sub c.tasks.length t.1)) ⟨0, A0, KM.new0 c, rfl, by omega, rfl, hK1, hk⟩ ?_
    rintro ⟨(t : Int), _⟩ w5 ⟨i, A, Ki, (rfl : t = (i : Int)), hi, hu, hT, h⟩
    dsimp only
    obtain ⟨ho, h⟩ := kerE h
    refine cs.mk (fun h2 => ?_) (fun h2 => ?_)
    · have h2 : i < c.tasks.length := by have := of_decide_eq_true h2; omega
      rw [List.drop_eq_getElem_cons h2] at hT
      obtain ⟨b2, hb, hT⟩ := Option.bind_eq_some_iff.1 hT
      refine ix_flat taC_len (by decide) ((Ok.emb (h) (.cons (A := slc 2 S.ts (flat taC c.tasks)) (by with_reducible first | exact sl0 | exact .there sl0 | exact .there sl1 | exact .there sl2 | exact .there sl3 | exact .there sl4 | exact .there sl5 | exact .there sl6 | exact .there sl7 | exact .there sl8 | exact .there sl9 | exact .there sl10 | exact .there sl11 | exact .there sl12) (.same _)))) (by omega) (by omega) fun b3 o2 y hy _ _ hc2 => ?_
      rw [Int.toNat_natCast, List.getElem?_eq_getElem h2] at hy
      cases hy
      have r1 := hc2 0 _ rfl w5 ⟨_, (Ok.emb (h) (.cons (A := slc 2 S.ts (flat taC c.tasks)) (by with_reducible first | exact sl0 | exact .there sl0 | exact .there sl1 | exact .there sl2 | exact .there sl3 | exact .there sl4 | exact .there sl5 | exact .there sl6 | exact .there sl7 | exact .there sl8 | exact .there sl9 | exact .there sl10 | exact .there sl11 | exact .there sl12) (.same _)))⟩
      have r2 := hc2 1 _ rfl w5 ⟨_, (Ok.emb (h) (.cons (A := slc 2 S.ts (flat taC c.tasks)) (by with_reducible first | exact sl0 | exact .there sl0 | exact .there sl1 | exact .there sl2 | exact .there sl3 | exact .there sl4 | exact .there sl5 | exact .there sl6 | exact .there sl7 | exact .there sl8 | exact .there sl9 | exact .there sl10 | exact .there sl11 | exact .there sl12) (.same _)))⟩
      refine ldI.mk r1 (ldB.mk r2 (al.mk h fun d w6 h => st1.mk h (by simp) fun w6 h => st1.mk h (by simp) fun w6 h => dr.mk h fun w7 h => nn.mk (ldP.mk (h.p1.cell rfl) (ldI.mk (h.cell rfl) ?_))))
      rw [w64_in (x := (i : Int) + 1) (by omega) (by omega)]
      have hfr := setBase_len hb
      refine call31 (SetBase_mtx ((Ok.emb (h) (.cons (A := mmP A.lk Ki.mm) (by with_reducible first | exact sl0 | exact .there sl0 | exact .there sl1 | exact .there sl2 | exact .there sl3 | exact .there sl4 | exact .there sl5 | exact .there sl6 | exact .there sl7 | exact .there sl8 | exact .there sl9 | exact .there sl10 | exact .there sl11 | exact .there sl12) (.same _)))) hb fun w8 h => ⟨(b2.1, ()), rfl, ?_⟩)
      have h : Ok e (pts d [.int .i64 c.tasks[i].1, .bool c.tasks[i].2] :: pts k (kC A Ki) :: mmP A.lk b2.2 :: unitsP A.ub A.us Ki.us :: semsP A.ss Ki.sems :: flgP A.fs :: datasP A.ds Ki.datas :: poolsP A.ps Ki.pools :: placeP A.pl Ki.pl :: hnP A.hn Ki.tic Ki.up Ki.tb Ki.last Ki.ents :: rdyP A.rq Ki.rdy :: pts b (cfC c S) :: cfR c S (old e :: L)) w8 := (h.emb (by repeat' (first | with_reducible exact Emb.same _ | exact Emb.nil _ | refine Emb.cons (by with_reducible first | exact sl0 | exact .there sl0 | exact .there sl1 | exact .there sl2 | exact .there sl3 | exact .there sl4 | exact .there sl5 | exact .there sl6 | exact .there sl7 | exact .there sl8 | exact .there sl9 | exact .there sl10 | exact .there sl11 | exact .there sl12) ?_ | refine Emb.skip ?_)))
      refine dr.mk h fun w9 h => nn.mk (ldS.mk (h.p1.cell rfl) (ldI.mk (h.cell rfl) (ldI.mk (h.cell rfl) ?_)))
      refine call104 (New_tcb h fun t w10 h => ⟨(some ⟨t, 0, none⟩, ()), rfl, h.p1.cell rfl, h.p1.cell rfl, h.p2.cell rfl, ?_⟩)
      refine al.mk h fun f w11 h => ⟨h.p3.cell rfl, ?_⟩
      have h := unI (u := KM.unNew c.tasks[i].1) (b := f) (t := t) h
      have hul := ptrsB_len ((Ok.emb (h) (.cons (A := unitsP A.ub A.us Ki.us) (by with_reducible first | exact sl0 | exact .there sl0 | exact .there sl1 | exact .there sl2 | exact .there sl3 | exact .there sl4 | exact .there sl5 | exact .there sl6 | exact .there sl7 | exact .there sl8 | exact .there sl9 | exact .there sl10 | exact .there sl11 | exact .there sl12) (.same _))))
      refine al.mk h fun g w12 h => ⟨h.p3.cell rfl, ?_⟩
      refine ef.appendPtrB (P := unP) (pre := [.pointer none]) (a := KM.unNew c.tasks[i].1) slT_unitp ((Ok.emb (h) (.cons (A := pts g [pV f]) (by with_reducible first | exact sl0 | exact .there sl0 | exact .there sl1 | exact .there sl2 | exact .there sl3 | exact .there sl4 | exact .there sl5 | exact .there sl6 | exact .there sl7 | exact .there sl8 | exact .there sl9 | exact .there sl10 | exact .there sl11 | exact .there sl12) (.cons (A := unP f (KM.unNew c.tasks[i].1)) (by with_reducible first | exact sl0 | exact .there sl0 | exact .there sl1 | exact .there sl2 | exact .there sl3 | exact .there sl4 | exact .there sl5 | exact .there sl6 | exact .there sl7 | exact .there sl8 | exact .there sl9 | exact .there sl10 | exact .there sl11 | exact .there sl12) (.cons (A := unitsP A.ub A.us Ki.us) (by with_reducible first | exact sl0 | exact .there sl0 | exact .there sl1 | exact .there sl2 | exact .there sl3 | exact .there sl4 | exact .there sl5 | exact .there sl6 | exact .there sl7 | exact .there sl8 | exact .there sl9 | exact .there sl10 | exact .there sl11 | exact .there sl12) (.same _)))))) (by simp; omega) fun s' w13 h => nn.mk (st1.mk h.p2 (by simp) fun w14 h => ?_)
      refine ⟨⟨i + 1, { A with us := s', ub := updN A.ub Ki.us.length f }, { Ki with mm := b2.2, us := Ki.us ++ [KM.unNew c.tasks[i].1] }, rfl, h2, by simp [hu], hT, ?_⟩, ?_⟩
      · refine kerI ⟨ho.t0, ho.t1, by simp [hu]; omega, ho.sems, ho.datas, ho.pools⟩ ?_
        have h : Ok e (pts k [vS A.ss, vS A.fs, vS A.ds, vS A.ps, .int .i64 ((Ki.mm.m.length : Int) - 1), pV A.lk, pV A.pl, pV A.hn, pV A.rq, vS s', .int .i64 0, .int .i64 0, .int .i64 Ki.who] :: ptrsB unP [.pointer none] un0 (updN A.ub Ki.us.length f) s' (Ki.us ++ [KM.unNew c.tasks[i].1]) :: pts d [.int .i64 c.tasks[i].1, .bool c.tasks[i].2] :: mmP A.lk b2.2 :: semsP A.ss Ki.sems :: flgP A.fs :: datasP A.ds Ki.datas :: poolsP A.ps Ki.pools :: placeP A.pl Ki.pl :: hnP A.hn Ki.tic Ki.up Ki.tb Ki.last Ki.ents :: rdyP A.rq Ki.rdy :: pts b (cfC c S) :: cfR c S (old e :: L)) w14 := h
        rw [← hfr] at h
        have h2 : Ok e (pts k [vS A.ss, vS A.fs, vS A.ds, vS A.ps, .int .i64 ((b2.2.m.length : Int) - 1), pV A.lk, pV A.pl, pV A.hn, pV A.rq, vS s', .int .i64 0, .int .i64 0, .int .i64 Ki.who] :: ptrsB unP [.pointer none] un0 (updN A.ub Ki.us.length f) s' (Ki.us ++ [KM.unNew c.tasks[i].1]) :: semsP A.ss Ki.sems :: flgP A.fs :: datasP A.ds Ki.datas :: poolsP A.ps Ki.pools :: mmP A.lk b2.2 :: placeP A.pl Ki.pl :: hnP A.hn Ki.tic Ki.up Ki.tb Ki.last Ki.ents :: rdyP A.rq Ki.rdy :: pts b (cfC c S) :: cfR c S (old e :: L)) w14 := (h.emb (by repeat' (first | with_reducible exact Emb.same _ | exact Emb.nil _ | refine Emb.cons (by with_reducible first | exact sl0 | exact .there sl0 | exact .there sl1 | exact .there sl2 | exact .there sl3 | exact .there sl4 | exact .there sl5 | exact .there sl6 | exact .there sl7 | exact .there sl8 | exact .there sl9 | exact .there sl10 | exact .there sl11 | exact .there sl12) ?_ | refine Emb.skip ?_)))
        exact h2
      · show ((c.tasks.length : Int) - ((i : Int) + 1)).toNat < ((c.tasks.length : Int) - (i : Int)).toNat
        omega
    have h2 : i = c.tasks.length := by have := of_decide_eq_false h2; omega
    subst h2
    rw [List.drop_length] at hT
    cases hT
    have h := kerI (A := A) ho h
    refine ldS.mk (by refine Ok.cellS h (by with_reducible first | exact sl0 | exact .there sl0 | exact .there sl1 | exact .there sl2 | exact .there sl3 | exact .there sl4 | exact .there sl5 | exact .there sl6 | exact .there sl7 | exact .there sl8 | exact .there sl9 | exact .there sl10 | exact .there sl11 | exact .there sl12) ?_; rfl) ?_
    refine lp.mk (fun t w1 => ∃ (i : Nat) (Ki : KM), @Eq Int t.1 (i : Int) ∧ i ≤ c.tasks.length ∧ KM.newA i (c.tasks.drop i) Ki = some KT ∧ Ok e (kerP k A Ki :: pts b (cfC c S) :: cfR c S (old e :: L)) w1)
      (fun t _ => Int.toNat (Int.sub c.tasks.length t.1)) ⟨0, _, rfl, by omega, hA, h⟩ ?_
    rintro ⟨(t : Int), _⟩ w5 ⟨i, K2, (rfl : t = (i : Int)), hi, hT, h⟩
    dsimp only
    refine cs.mk (fun h2 => ?_) (fun h2 => ?_)
    · have h2 : i < c.tasks.length := by have := of_decide_eq_true h2; omega
      rw [List.drop_eq_getElem_cons h2] at hT
      unfold KM.newA at hT
      refine ix_flat taC_len (by decide) ((Ok.emb (h) (.cons (A := slc 2 S.ts (flat taC c.tasks)) (by with_reducible first | exact sl0 | exact .there sl0 | exact .there sl1 | exact .there sl2 | exact .there sl3 | exact .there sl4 | exact .there sl5 | exact .there sl6 | exact .there sl7 | exact .there sl8 | exact .there sl9 | exact .there sl10 | exact .there sl11 | exact .there sl12) (.same _)))) (by omega) (by omega) fun b3 o2 y hy _ _ hc2 => ?_
      rw [Int.toNat_natCast, List.getElem?_eq_getElem h2] at hy
      cases hy
      have r1 := hc2 0 _ rfl w5 ⟨_, (Ok.emb (h) (.cons (A := slc 2 S.ts (flat taC c.tasks)) (by with_reducible first | exact sl0 | exact .there sl0 | exact .there sl1 | exact .there sl2 | exact .there sl3 | exact .there sl4 | exact .there sl5 | exact .there sl6 | exact .there sl7 | exact .there sl8 | exact .there sl9 | exact .there sl10 | exact .there sl11 | exact .there sl12) (.same _)))⟩
      have r2 := hc2 1 _ rfl w5 ⟨_, (Ok.emb (h) (.cons (A := slc 2 S.ts (flat taC c.tasks)) (by with_reducible first | exact sl0 | exact .there sl0 | exact .there sl1 | exact .there sl2 | exact .there sl3 | exact .there sl4 | exact .there sl5 | exact .there sl6 | exact .there sl7 | exact .there sl8 | exact .there sl9 | exact .there sl10 | exact .there sl11 | exact .there sl12) (.same _)))⟩
      refine ldI.mk r1 (ldB.mk r2 (al.mk h fun d w6 h => st1.mk h (by simp) fun w6 h => st1.mk h (by simp) fun w6 h => ldB.mk (h.cell rfl) ?_))
      rw [w64_in (x := (i : Int) + 1) (by omega) (by omega)]
      have hlt : ((c.tasks.length : Int) - ((i : Int) + 1)).toNat < ((c.tasks.length : Int) - (i : Int)).toNat := by omega
      refine cs.mk (fun h3 => ?_) (fun h3 => ?_)
      · rw [if_pos h3] at hT
        obtain ⟨a, ha, hT⟩ := Option.bind_eq_some_iff.1 hT
        exact call105 (act_kern h.drop ha fun w7 h => ⟨(a.1, ()), rfl, ⟨i + 1, a.2, rfl, h2, hT, h⟩, hlt⟩)
      · rw [if_neg (by rw [h3]; decide)] at hT
        exact ⟨⟨i + 1, K2, rfl, h2, hT, h.drop⟩, hlt⟩
    have h2 : i = c.tasks.length := by have := of_decide_eq_false h2; omega
    subst h2
    rw [List.drop_length] at hT
    cases hT
    refine call57 (choose_kern tb ((Ok.emb (h) (.cons (A := kerP k A KT) (by with_reducible first | exact sl0 | exact .there sl0 | exact .there sl1 | exact .there sl2 | exact .there sl3 | exact .there sl4 | exact .there sl5 | exact .there sl6 | exact .there sl7 | exact .there sl8 | exact .there sl9 | exact .there sl10 | exact .there sl11 | exact .there sl12) (.cons (A := old e) (by with_reducible first | exact sl0 | exact .there sl0 | exact .there sl1 | exact .there sl2 | exact .there sl3 | exact .there sl4 | exact .there sl5 | exact .there sl6 | exact .there sl7 | exact .there sl8 | exact .there sl9 | exact .there sl10 | exact .there sl11 | exact .there sl12) (.same _))))) fun w6 h => ⟨(), rfl, ?_⟩)
    rw [hm] at h
    exact kk k A w6 (h.emb (by repeat' (first | with_reducible exact Emb.same _ | exact Emb.nil _ | refine Emb.cons (by with_reducible first | exact sl0 | exact .there sl0 | exact .there sl1 | exact .there sl2 | exact .there sl3 | exact .there sl4 | exact .there sl5 | exact .there sl6 | exact .there sl7 | exact .there sl8 | exact .there sl9 | exact .there sl10 | exact .there sl11 | exact .there sl12) ?_ | refine Emb.skip ?_)))
  have t2 : ∀ (v p r : Nat) w4, Ok e (pts v [.pointer none] :: placeP p ⟨[], false, false⟩ :: rdyP r [] :: pts b (cfC c S) :: cfR c S (old e :: L)) w4 → al w4 132 [.slice none 0 0, .slice none 0 0, .slice none 0 0, .slice none 0 0, .int .i64 0, .pointer none, .pointer (some ⟨p, 0, none⟩), .pointer none, .pointer (some ⟨r, 0, none⟩), vS ⟨some ⟨v, 0, none⟩, 1, 1⟩, .int .i64 0, .int .i64 0, .int .i64 0] fun k w5 => tailX R b k w5 := fun v p r w4 h => al.mk h fun k w5 h => tail k v p r w5 h
  have h : Ok e (pts b (cfC c S) :: cfR c S (old e :: L)) w3 := (h.emb (by repeat' (first | with_reducible exact Emb.same _ | exact Emb.nil _ | refine Emb.cons (by with_reducible first | exact sl0 | exact .there sl0 | exact .there sl1 | exact .there sl2 | exact .there sl3 | exact .there sl4 | exact .there sl5 | exact .there sl6 | exact .there sl7 | exact .there sl8 | exact .there sl9 | exact .there sl10 | exact .there sl11 | exact .there sl12) ?_ | refine Emb.skip ?_)))
  refine ⟨call99 (New_ctx h fun p w4 h => ⟨(some ⟨p, 0, none⟩, ()), rfl, (by refine Ok.cellS h (by with_reducible first | exact sl0 | exact .there sl0 | exact .there sl1 | exact .there sl2 | exact .there sl3 | exact .there sl4 | exact .there sl5 | exact .there sl6 | exact .there sl7 | exact .there sl8 | exact .there sl9 | exact .there sl10 | exact .there sl11 | exact .there sl12) ?_; rfl), (by refine Ok.cellS h (by with_reducible first | exact sl0 | exact .there sl0 | exact .there sl1 | exact .there sl2 | exact .there sl3 | exact .there sl4 | exact .there sl5 | exact .there sl6 | exact .there sl7 | exact .there sl8 | exact .there sl9 | exact .there sl10 | exact .there sl11 | exact .there sl12) ?_; rfl), ?_, ?_⟩), al.mk h fun v w4 h => ⟨(by refine Ok.cellS h (by with_reducible first | exact sl0 | exact .there sl0 | exact .there sl1 | exact .there sl2 | exact .there sl3 | exact .there sl4 | exact .there sl5 | exact .there sl6 | exact .there sl7 | exact .there sl8 | exact .there sl9 | exact .there sl10 | exact .there sl11 | exact .there sl12) ?_; rfl), (by refine Ok.cellS h (by with_reducible first | exact sl0 | exact .there sl0 | exact .there sl1 | exact .there sl2 | exact .there sl3 | exact .there sl4 | exact .there sl5 | exact .there sl6 | exact .there sl7 | exact .there sl8 | exact .there sl9 | exact .there sl10 | exact .there sl11 | exact .there sl12) ?_; rfl), ?_⟩⟩
  · refine call45 (New_ready h fun r w5 h => ⟨(some ⟨r, 0, none⟩, ()), rfl, (by refine Ok.cellS h (by with_reducible first | exact sl0 | exact .there sl0 | exact .there sl1 | exact .there sl2 | exact .there sl3 | exact .there sl4 | exact .there sl5 | exact .there sl6 | exact .there sl7 | exact .there sl8 | exact .there sl9 | exact .there sl10 | exact .there sl11 | exact .there sl12) ?_; rfl), (by refine Ok.cellS h (by with_reducible first | exact sl0 | exact .there sl0 | exact .there sl1 | exact .there sl2 | exact .there sl3 | exact .there sl4 | exact .there sl5 | exact .there sl6 | exact .there sl7 | exact .there sl8 | exact .there sl9 | exact .there sl10 | exact .there sl11 | exact .there sl12) ?_; rfl), al.mk h fun v w6 h => ⟨(by refine Ok.cellS h (by with_reducible first | exact sl0 | exact .there sl0 | exact .there sl1 | exact .there sl2 | exact .there sl3 | exact .there sl4 | exact .there sl5 | exact .there sl6 | exact .there sl7 | exact .there sl8 | exact .there sl9 | exact .there sl10 | exact .there sl11 | exact .there sl12) ?_; rfl), (by refine Ok.cellS h (by with_reducible first | exact sl0 | exact .there sl0 | exact .there sl1 | exact .there sl2 | exact .there sl3 | exact .there sl4 | exact .there sl5 | exact .there sl6 | exact .there sl7 | exact .there sl8 | exact .there sl9 | exact .there sl10 | exact .there sl11 | exact .there sl12) ?_; rfl), ?_⟩⟩)
    exact t2 v p r w6 (h.emb (by repeat' (first | with_reducible exact Emb.same _ | exact Emb.nil _ | refine Emb.cons (by with_reducible first | exact sl0 | exact .there sl0 | exact .there sl1 | exact .there sl2 | exact .there sl3 | exact .there sl4 | exact .there sl5 | exact .there sl6 | exact .there sl7 | exact .there sl8 | exact .there sl9 | exact .there sl10 | exact .there sl11 | exact .there sl12) ?_ | refine Emb.skip ?_)))
  · refine al.mk h fun v w5 h => ⟨(by refine Ok.cellS h (by with_reducible first | exact sl0 | exact .there sl0 | exact .there sl1 | exact .there sl2 | exact .there sl3 | exact .there sl4 | exact .there sl5 | exact .there sl6 | exact .there sl7 | exact .there sl8 | exact .there sl9 | exact .there sl10 | exact .there sl11 | exact .there sl12) ?_; rfl), (by refine Ok.cellS h (by with_reducible first | exact sl0 | exact .there sl0 | exact .there sl1 | exact .there sl2 | exact .there sl3 | exact .there sl4 | exact .there sl5 | exact .there sl6 | exact .there sl7 | exact .there sl8 | exact .there sl9 | exact .there sl10 | exact .there sl11 | exact .there sl12) ?_; rfl), call45 (New_ready h fun r w6 h => ⟨(some ⟨r, 0, none⟩, ()), rfl, (by refine Ok.cellS h (by with_reducible first | exact sl0 | exact .there sl0 | exact .there sl1 | exact .there sl2 | exact .there sl3 | exact .there sl4 | exact .there sl5 | exact .there sl6 | exact .there sl7 | exact .there sl8 | exact .there sl9 | exact .there sl10 | exact .there sl11 | exact .there sl12) ?_; rfl), (by refine Ok.cellS h (by with_reducible first | exact sl0 | exact .there sl0 | exact .there sl1 | exact .there sl2 | exact .there sl3 | exact .there sl4 | exact .there sl5 | exact .there sl6 | exact .there sl7 | exact .there sl8 | exact .there sl9 | exact .there sl10 | exact .there sl11 | exact .there sl12) ?_; rfl), ?_⟩)⟩
    exact t2 v p r w6 (h.emb (by repeat' (first | with_reducible exact Emb.same _ | exact Emb.nil _ | refine Emb.cons (by with_reducible first | exact sl0 | exact .there sl0 | exact .there sl1 | exact .there sl2 | exact .there sl3 | exact .there sl4 | exact .there sl5 | exact .there sl6 | exact .there sl7 | exact .there sl8 | exact .there sl9 | exact .there sl10 | exact .there sl11 | exact .there sl12) ?_ | refine Emb.skip ?_)))
  · refine call99 (New_ctx h fun p w5 h => ⟨(some ⟨p, 0, none⟩, ()), rfl, (by refine Ok.cellS h (by with_reducible first | exact sl0 | exact .there sl0 | exact .there sl1 | exact .there sl2 | exact .there sl3 | exact .there sl4 | exact .there sl5 | exact .there sl6 | exact .there sl7 | exact .there sl8 | exact .there sl9 | exact .there sl10 | exact .there sl11 | exact .there sl12) ?_; rfl), (by refine Ok.cellS h (by with_reducible first | exact sl0 | exact .there sl0 | exact .there sl1 | exact .there sl2 | exact .there sl3 | exact .there sl4 | exact .there sl5 | exact .there sl6 | exact .there sl7 | exact .there sl8 | exact .there sl9 | exact .there sl10 | exact .there sl11 | exact .there sl12) ?_; rfl), call45 (New_ready h fun r w6 h => ⟨(some ⟨r, 0, none⟩, ()), rfl, (by refine Ok.cellS h (by with_reducible first | exact sl0 | exact .there sl0 | exact .there sl1 | exact .there sl2 | exact .there sl3 | exact .there sl4 | exact .there sl5 | exact .there sl6 | exact .there sl7 | exact .there sl8 | exact .there sl9 | exact .there sl10 | exact .there sl11 | exact .there sl12) ?_; rfl), (by refine Ok.cellS h (by with_reducible first | exact sl0 | exact .there sl0 | exact .there sl1 | exact .there sl2 | exact .there sl3 | exact .there sl4 | exact .there sl5 | exact .there sl6 | exact .there sl7 | exact .there sl8 | exact .there sl9 | exact .there sl10 | exact .there sl11 | exact .there sl12) ?_; rfl), ?_⟩)⟩)
    exact t2 v p r w6 (h.emb (by repeat' (first | with_reducible exact Emb.same _ | exact Emb.nil _ | refine Emb.cons (by with_reducible first | exact sl0 | exact .there sl0 | exact .there sl1 | exact .there sl2 | exact .there sl3 | exact .there sl4 | exact .there sl5 | exact .there sl6 | exact .there sl7 | exact .there sl8 | exact .there sl9 | exact .there sl10 | exact .there sl11 | exact .there sl12) ?_ | refine Emb.skip ?_)))

end Go.Proofs.YtenonfkfoedfmaaGreatDoor.B


/- What the laws of the whole share. -/
namespace Go.Proofs.YtenonfkfoedfmaaGreatDoor.B
open Go
set_option linter.unusedVariables false

theorem slT_confTask : SlT Pg 25 2 := .of (by kernel_rfl)

abbrev actv (l : List Int) : List (Int × Bool) := l.map fun x => (x, true)

theorem tasks_keep {e w L R} {s : Sl} {l : List Int} (h : Ok e (slc 1 s (ints l) :: L) w) (hl : l.length ≤ 100) (k : ∀ x w', Ok e (slc 2 x (flat taC (actv l)) :: slc 1 s (ints l) :: L) w' → R [.agg #[.int .i64 1, vS x, vS ⟨none, 0, 0⟩, vS ⟨none, 0, 0⟩, vS ⟨none, 0, 0⟩, vS ⟨none, 0, 0⟩, vS ⟨none, 0, 0⟩, vS ⟨none, 0, 0⟩, .int .i64 0]] w') : sh18 s R w := by
  have hs : l.length = s.len := by have := h.slc_len; simp at this; omega
  unfold sh18
  refine al.mk h fun b w1 h => al.mk h fun d w1 h => ?_
  refine st1.mk h (by simp) fun w1 h => st1.mk h (by simp) fun w1 h => st1.mk h (by simp) fun w1 h => st1.mk h (by simp) fun w1 h => st1.mk h (by simp) fun w1 h => st1.mk h (by simp) fun w1 h => st1.mk h (by simp) fun w1 h => st1.mk h (by simp) fun w1 h => st1.mk h (by simp) fun w1 h => ?_
  refine lp.mk (fun t w1 => ∃ (i : Nat) (x : Sl), @Eq Int t.1 (i : Int) ∧ i ≤ l.length ∧ Ok e (pts d [.int .i64 1, vS x, vS ⟨none, 0, 0⟩, vS ⟨none, 0, 0⟩, vS ⟨none, 0, 0⟩, vS ⟨none, 0, 0⟩, vS ⟨none, 0, 0⟩, vS ⟨none, 0, 0⟩, .int .i64 0] :: slc 2 x (flat taC (actv (l.take i))) :: pts b [.int .i64 0, .slice none 0 0, .slice none 0 0, .slice none 0 0, .slice none 0 0, .slice none 0 0, .slice none 0 0, .slice none 0 0, .int .i64 0] :: slc 1 s (ints l) :: L) w1)
    (fun t _ => Int.toNat (Int.sub l.length t.1)) ⟨0, ⟨none, 0, 0⟩, rfl, by omega, (h.slcNil 2).p1⟩ ?_
  rintro ⟨(t : Int), _⟩ w2 ⟨i, x, (rfl : t = (i : Int)), hi, h⟩
  dsimp only
  refine cs.mk (fun h2 => ?_) (fun h2 => ?_)
  · have h2 : i < l.length := by have := of_decide_eq_true h2; omega
    refine dr.mk h fun w3 h => ldS.mk (h.cell rfl) (ix_int h.p3 (by omega) (by omega) fun b2 o2 z hz hcz => ldI.mk (hcz _ ⟨_, h.p3⟩) ?_)
    rw [Int.toNat_natCast, List.getElem?_eq_getElem h2] at hz
    cases hz
    have hxl := slc_flat_len taC_len (by decide) h.p1
    simp at hxl
    refine al.mk h fun f w4 h => ⟨h.p1.cell rfl, ?_⟩
    have h : Ok e (pts f (flat taC [(l[i], true)]) :: slc 2 x (flat taC (actv (l.take i))) :: pts d [.int .i64 1, vS x, vS ⟨none, 0, 0⟩, vS ⟨none, 0, 0⟩, vS ⟨none, 0, 0⟩, vS ⟨none, 0, 0⟩, vS ⟨none, 0, 0⟩, vS ⟨none, 0, 0⟩, .int .i64 0] :: pts b [.int .i64 0, .slice none 0 0, .slice none 0 0, .slice none 0 0, .slice none 0 0, .slice none 0 0, .slice none 0 0, .slice none 0 0, .int .i64 0] :: slc 1 s (ints l) :: L) w4 := by
      have h : Ok e (pts f (flat taC [(l[i], true)]) :: pts d [.int .i64 1, vS x, vS ⟨none, 0, 0⟩, vS ⟨none, 0, 0⟩, vS ⟨none, 0, 0⟩, vS ⟨none, 0, 0⟩, vS ⟨none, 0, 0⟩, vS ⟨none, 0, 0⟩, .int .i64 0] :: slc 2 x (flat taC (actv (l.take i))) :: pts b [.int .i64 0, .slice none 0 0, .slice none 0 0, .slice none 0 0, .slice none 0 0, .slice none 0 0, .slice none 0 0, .slice none 0 0, .int .i64 0] :: slc 1 s (ints l) :: L) w4 := h
      exact (h.emb (by repeat' (first | with_reducible exact Emb.same _ | exact Emb.nil _ | refine Emb.cons (by with_reducible first | exact sl0 | exact .there sl0 | exact .there sl1 | exact .there sl2 | exact .there sl3 | exact .there sl4 | exact .there sl5 | exact .there sl6 | exact .there sl7 | exact .there sl8 | exact .there sl9 | exact .there sl10 | exact .there sl11 | exact .there sl12) ?_ | refine Emb.skip ?_)))
    refine ef.append1 (n := 1) slT_confTask (by decide) h rfl (flat_one taC_one) (by omega) fun s' w7 hl' h => ?_
    rw [← flat_append] at h
    refine st1.mk h.p1 (by simp) fun w8 h => ⟨⟨i + 1, s', w64_in (by omega) (by omega), h2, ?_⟩, ?_⟩
    · rw [List.take_add_one, List.getElem?_eq_getElem h2]
      rw [show actv (l.take i ++ (some l[i]).toList) = actv (l.take i) ++ [(l[i], true)] from List.map_append ..]
      exact h
    · show ((l.length : Int) - w64 ((i : Int) + 1)).toNat < ((l.length : Int) - (i : Int)).toNat
      rw [w64_in (by omega) (by omega)]
      omega
  · have h2 : i = l.length := by have := of_decide_eq_false h2; omega
    subst h2
    rw [List.take_length] at h
    refine ldI.mk (h.cell rfl) (ldS.mk (h.cell rfl) (ldS.mk (h.cell rfl) (ldS.mk (h.cell rfl) (ldS.mk (h.cell rfl) (ldS.mk (h.cell rfl) (ldS.mk (h.cell rfl) (ldS.mk (h.cell rfl) (ldI.mk (h.cell rfl) ?_))))))))
    have h := h.p2
    refine st1.mk h (by simp) fun w1 h => st1.mk h (by simp) fun w1 h => st1.mk h (by simp) fun w1 h => st1.mk h (by simp) fun w1 h => st1.mk h (by simp) fun w1 h => st1.mk h (by simp) fun w1 h => st1.mk h (by simp) fun w1 h => st1.mk h (by simp) fun w1 h => st1.mk h (by simp) fun w1 h => ?_
    refine ldI.mk (h.cell rfl) (ldS.mk (h.cell rfl) (ldS.mk (h.cell rfl) (ldS.mk (h.cell rfl) (ldS.mk (h.cell rfl) (ldS.mk (h.cell rfl) (ldS.mk (h.cell rfl) (ldS.mk (h.cell rfl) (ldI.mk (h.cell rfl) (k x w1 ?_)))))))))
    have h := h.drop
    exact (h.emb (by repeat' (first | with_reducible exact Emb.same _ | exact Emb.nil _ | refine Emb.cons (by with_reducible first | exact sl0 | exact .there sl0 | exact .there sl1 | exact .there sl2 | exact .there sl3 | exact .there sl4 | exact .there sl5 | exact .there sl6 | exact .there sl7 | exact .there sl8 | exact .there sl9 | exact .there sl10 | exact .there sl11 | exact .there sl12) ?_ | refine Emb.skip ?_)))

theorem tasks_top {e w L R} {s : Sl} {l : List Int} (h : Ok e (slc 1 s (ints l) :: L) w) (hl : l.length ≤ 100) (k : ∀ x w', Ok e (slc 2 x (flat taC (actv l)) :: L) w' → R [.agg #[.int .i64 1, vS x, vS ⟨none, 0, 0⟩, vS ⟨none, 0, 0⟩, vS ⟨none, 0, 0⟩, vS ⟨none, 0, 0⟩, vS ⟨none, 0, 0⟩, vS ⟨none, 0, 0⟩, .int .i64 0]] w') : sh18 s R w :=
  tasks_keep h hl fun x w' h => k x w' h.p1.drop

theorem open_top {e w L c S K R} (tb : TabE e) (h : Ok e (cfR c S (old e :: L)) w) (hc : c.ok = true) (hm : KM.new c = some K) (kk : ∀ k A w', Ok e (kerP k A K :: cfR c S (old e :: L)) w' → R [pV k] w') : sh19 (cfV c S) R w := by
  unfold sh19
  refine al.mk h fun b w1 h => ?_
  refine ldI.mk (h.cell rfl) (ldS.mk (h.cell rfl) (ldS.mk (h.cell rfl) (ldS.mk (h.cell rfl) (ldS.mk (h.cell rfl) (ldS.mk (h.cell rfl) (ldS.mk (h.cell rfl) (ldS.mk (h.cell rfl) (ldI.mk (h.cell rfl) ?_))))))))
  exact call51 (a0 := cfV c S) (New_kern tb h.drop (CfOk.of hc) hm fun k A w2 h => ⟨(some ⟨k, 0, none⟩, (0 : Int), ()), rfl, cs.no rfl (kk k A w2 h)⟩)

/-- what the call of a number does -/
def DoC (e : World) (n : Nat) (kd : Int) (g : Int → Int → KM → Option ((Int × Int) × KM)) : Prop :=
  ∀ (k : Nat) (A : KA) (K : KM) (r : (Int × Int) × KM) (L : List SP) (w : World) (x0 x1 x2 x3 : Int) (R : List Value → World → Prop), Ok e (kerP k A K :: old e :: L) w → K.call kd (g x0 x1) = some r →
    (∀ w', Ok e (kerP k A r.2 :: old e :: L) w' → R [.agg #[.int .i64 r.1.1, .int .i64 r.1.2]] w') → sh41 (some ⟨k, 0, none⟩) ((n : Int), x0, x1, x2, x3, ()) R w

theorem do_top {e w L k A K r s R} {n : Nat} {kd : Int} {g} {xs : List Int} (hd : DoC e n kd g) (h : Ok e (slc 1 s (ints xs) :: kerP k A K :: old e :: L) w) (hl : xs.length ≤ 4) (hm : K.call kd (g (xs[0]?.getD 0) (xs[1]?.getD 0)) = some r)
    (kk : ∀ w', Ok e (kerP k A r.2 :: old e :: L) w' → R [.int .i64 r.1.1, .int .i64 r.1.2] w') : sh20 (some ⟨k, 0, none⟩) (n : Int) s R w := by
  unfold sh20
  refine call52 (Make_calls h hl fun w1 h => ⟨(((n : Int), (xs[0]?.getD 0 : Int), (xs[1]?.getD 0 : Int), (xs[2]?.getD 0 : Int), (xs[3]?.getD 0 : Int), ()), ()), rfl, ?_⟩)
  refine call41 (a1 := ((n : Int), xs[0]?.getD 0, xs[1]?.getD 0, xs[2]?.getD 0, xs[3]?.getD 0, ())) (hd k A K r L w1 _ _ _ _ _ h hm fun w2 h => ⟨((r.1.1, r.1.2, ()), ()), rfl, ?_⟩)
  refine al.mk h fun b w3 h => st1.mk h (by simp) fun w4 h => st1.mk h (by simp) fun w5 h => dr.mk h fun w6 h => ldI.mk (h.cell rfl) (ldI.mk (h.cell rfl) (kk w6 h.drop))

theorem state_top {e w L k A K n s R} (h : Ok e (kerP k A K :: L) w) (hm : K.state n = some s) (kk : ∀ w', Ok e (kerP k A K :: L) w' → R [.int .i64 s] w') : sh27 (some ⟨k, 0, none⟩) n R w := by
  unfold sh27
  obtain ⟨f, hf, rfl⟩ := Option.map_eq_some_iff.1 hm
  refine call24 (Task_kern h hf fun w1 h => ⟨((f.state, f.pri, f.base, (0 : Int), f.kind, f.obj, f.lc, f.lv, ()), (f.acts, f.wups, f.susps, ()), (0 : Int), ()), rfl, ?_⟩)
  refine al.mk h fun b w1 h => al.mk h fun d w1 h => ?_
  have h := h.p1
  refine st1.mk h (by simp) fun w1 h => st1.mk h (by simp) fun w1 h => st1.mk h (by simp) fun w1 h => st1.mk h (by simp) fun w1 h => st1.mk h (by simp) fun w1 h => st1.mk h (by simp) fun w1 h => st1.mk h (by simp) fun w1 h => st1.mk h (by simp) fun w1 h => ?_
  refine st1.mk h.p1 (by simp) fun w1 h => st1.mk h (by simp) fun w1 h => st1.mk h (by simp) fun w1 h => ldI.mk (h.p1.cell rfl) (kk w1 h.drop.drop)

/-! ### a delay -/
theorem tasks_22 {e k A K r x0 x1 x2 x3} (hm : KM.cDly x0 K = some r) : GrpC e k A K r (sh79 (some ⟨k, 0, none⟩) (((22 : Nat) : Int), x0, x1, x2, x3, ())) := by
  intro L w R h kk
  unfold KM.cDly at hm
  unfold sh79
  refine al.mk h fun b w1 h => al.mk h fun d w2 h => ldI.mk (h.p1.cell rfl) (ldI.mk (h.p1.cell rfl) (ldI.mk (h.p1.cell rfl) (ldI.mk (h.p1.cell rfl) (ldI.mk (h.p1.cell rfl) ?_))))
  refine call130 (a1 := (((22 : Nat) : Int), x0, x1, x2, x3, ())) (named_kern h.p2 (n := 22) rfl (by decide) (by decide) fun w3 h => ⟨(nmd K 22 2 x0, ()), rfl, ?_⟩)
  rw [show nmd K 22 2 x0 = K.who from rfl]
  have h : Ok e (pts d [.int .i64 0, .int .i64 0] :: pts b [.int .i64 ((22 : Nat) : Int), .int .i64 x0, .int .i64 x1, .int .i64 x2, .int .i64 x3] :: kerP k A K :: old e :: L) w3 := (h.emb (by repeat' (first | with_reducible exact Emb.same _ | exact Emb.nil _ | refine Emb.cons (by with_reducible first | exact sl0 | exact .there sl0 | exact .there sl1 | exact .there sl2 | exact .there sl3 | exact .there sl4 | exact .there sl5 | exact .there sl6 | exact .there sl7 | exact .there sl8 | exact .there sl9 | exact .there sl10 | exact .there sl11 | exact .there sl12) ?_ | refine Emb.skip ?_)))
  refine jn.bool (decide (K.who = 0)) (fun J hJ => ?_) (jn.bool (decide (K.who = 0)) (fun J hJ => ?_) (cs.mk (fun hw => ?_) (fun hw => ?_)))
  · refine cs.mk (fun hc => ldI.mk (h.p1.cell rfl) ?_) (fun hc => ?_)
    · rw [decide_eq_true (by simpa using hc)] at hJ; exact hJ
    · rw [decide_eq_false (by simpa using hc)] at hJ; exact hJ
  · refine cs.mk (fun hc => ldI.mk (h.p1.cell rfl) ?_) (fun hc => ?_)
    · have hc : decide (K.who = 0) = true := hc
      rw [hc] at hJ; exact hJ
    · have hc : decide (K.who = 0) = false := hc
      rw [hc] at hJ; exact hJ
  · have hw : K.who = 0 := of_decide_eq_true hw
    rw [if_pos hw] at hm
    cases hm
    exact fin_code h fun w4 h => kk w4 h.drop
  have hw : ¬ K.who = 0 := of_decide_eq_false hw
  rw [if_neg hw] at hm
  refine ldI.mk (h.p1.cell rfl) ?_
  (repeat (first | ((with_reducible refine cs.yes ?_ ?_); · rfl) | ((with_reducible refine cs.no ?_ ?_); · rfl) | refine jn.mk fun J hJ => ?_ | with_reducible apply_assumption -exfalso -symm))
  refine ⟨by decide, by decide, ldI.mk (h.p1.cell rfl) ?_⟩
  by_cases hb : x0 < 0 ∨ x0 > 2147483647
  · rw [if_pos hb] at hm
    cases hm
    refine call137 (Rel_bad (by omega) ⟨((0 : Int), (-17 : Int), ()), rfl, cs.yes rfl (fin_code h fun w4 h => kk w4 h.drop)⟩)
  · rw [if_neg hb] at hm
    obtain ⟨K', hK, rfl⟩ := Option.map_eq_some_iff.1 hm
    refine call137 (Rel_nums (by omega) ⟨(x0, (0 : Int), ()), rfl, cs.no rfl ⟨by decide, by decide, ldI.mk (h.p1.cell rfl) ?_⟩⟩)
    exact call138 (stay_kern h.p2 hK fun w4 h => ⟨(((1 : Int), (0 : Int), ()), ()), rfl, fin_res h.p1 fun w5 h => kk w5 h.p1.drop⟩)

theorem do_22 {e} (tb : TabE e) : DoC e 22 2 fun x0 _ => KM.cDly x0 := by
  intro k A K r L w x0 x1 x2 x3 R h hm kk
  exact Do_kern (n := 22) tb rfl (by decide) h hm (fun r hr => .inl ⟨by decide, tasks_22 hr⟩) kk

/-! ### what is known of every kernel -/
def knownM : Option Bool :=
  (KM.new ⟨1, [(5, true), (3, true)], [], [], [], []⟩).bind fun K0 =>
  if K0.who ≠ 2 then none else
  (K0.call 2 (KM.cDly 0)).bind fun r1 =>
  r1.2.tick.bind fun K2 =>
  (K2.state 1).bind fun s1 => (K2.state 2).map fun s2 => decide (r1.1.1 = 1) && decide (r1.2.who = 1) && decide (K2.who = 2) && decide (s1 = 2) && decide (s2 = 1)

theorem knownM_true : knownM = some true := by decide +kernel

end Go.Proofs.YtenonfkfoedfmaaGreatDoor.B


/- What is known of every kernel. -/
namespace Go.Proofs.YtenonfkfoedfmaaGreatDoor.B
open Go
set_option linter.unusedVariables false

abbrev nilS : Sl := ⟨none, 0, 0⟩

theorem conf_tasks {e L w x} {l : List (Int × Bool)} (tic : Int) (h : Ok e (slc 2 x (flat taC l) :: L) w) : Ok e (cfR ⟨tic, l, [], [], [], []⟩ ⟨x, nilS, nilS, nilS, nilS⟩ L) w := by
  have h := (((h.slcNil 3).slcNil 2).slcNil 2).slcNil 3
  have h2 : Ok e (slc 2 x (flat taC l) :: slc 3 nilS [] :: slc 2 nilS [] :: slc 2 nilS [] :: slc 3 nilS [] :: L) w := (h.emb (by repeat' (first | with_reducible exact Emb.same _ | exact Emb.nil _ | refine Emb.cons (by with_reducible first | exact sl0 | exact .there sl0 | exact .there sl1 | exact .there sl2 | exact .there sl3 | exact .there sl4 | exact .there sl5 | exact .there sl6 | exact .there sl7 | exact .there sl8 | exact .there sl9 | exact .there sl10 | exact .there sl11 | exact .there sl12) ?_ | refine Emb.skip ?_)))
  exact h2

theorem slcOf {e w L b} {l : List Int} (h : Ok e (pts b (ints l) :: L) w) : Ok e (slc 1 ⟨some ⟨b, 0, none⟩, l.length, l.length⟩ (ints l) :: L) w :=
  Ok.slcNew (vs := ints l) h (by rw [ints_len, Nat.mul_one]) (ints_one l)

theorem known_top {e w L R} (tb : TabE e) (h : Ok e (old e :: L) w) (kk : ∀ w', Ok e (old e :: L) w' → R [.bool true] w') : sh17 R w := by
  obtain ⟨K0, hK0, hm⟩ := Option.bind_eq_some_iff.1 knownM_true
  split at hm
  · cases hm
  · next hw0 =>
    obtain ⟨r1, hr1, hm⟩ := Option.bind_eq_some_iff.1 hm
    obtain ⟨K2, hK2, hm⟩ := Option.bind_eq_some_iff.1 hm
    obtain ⟨s1, hs1, hm⟩ := Option.bind_eq_some_iff.1 hm
    obtain ⟨s2, hs2, hm⟩ := Option.map_eq_some_iff.1 hm
    simp only [Bool.and_eq_true, decide_eq_true_eq] at hm
    obtain ⟨⟨⟨⟨m1, m2⟩, m3⟩, m4⟩, m5⟩ := hm
    unfold sh17
    refine al.mk h fun b w1 h => ?_
    refine call18 (a0 := ⟨some ⟨b, 0, none⟩, 2, 2⟩) (tasks_top (l := [5, 3]) (slcOf (l := [5, 3]) h) (by decide) fun x w2 h => ⟨(((1 : Int), x, nilS, nilS, nilS, nilS, nilS, nilS, (0 : Int), ()), ()), rfl, ?_⟩)
    refine call19 (a0 := cfV ⟨1, [(5, true), (3, true)], [], [], [], []⟩ ⟨x, nilS, nilS, nilS, nilS⟩) (open_top tb (conf_tasks 1 h) (by decide) hK0 fun k A w3 h => ⟨(some ⟨k, 0, none⟩, ()), rfl, ?_⟩)
    have h : Ok e (kerP k A K0 :: old e :: L) w3 := (h.emb (by repeat' (first | with_reducible exact Emb.same _ | exact Emb.nil _ | refine Emb.cons (by with_reducible first | exact sl0 | exact .there sl0 | exact .there sl1 | exact .there sl2 | exact .there sl3 | exact .there sl4 | exact .there sl5 | exact .there sl6 | exact .there sl7 | exact .there sl8 | exact .there sl9 | exact .there sl10 | exact .there sl11 | exact .there sl12) ?_ | refine Emb.skip ?_)))
    refine jn.mk fun J hJ => cs.no rfl (call21 (Running_kern h ⟨(K0.who, ()), rfl, hJ _ _ (cs.no (by simpa using hw0) ?_)⟩))
    refine al.mk h fun b1 w4 h => ?_
    refine call20 (a2 := ⟨some ⟨b1, 0, none⟩, 1, 1⟩) (do_top (n := 22) (xs := [0]) (do_22 tb) (slcOf (l := [0]) h) (by decide) hr1 fun w5 h => ⟨(r1.1.1, r1.1.2, ()), rfl, ?_⟩)
    refine call21 (Running_kern h ⟨(r1.2.who, ()), rfl, ?_⟩)
    refine call22 (Tick_kern tb h hK2 fun w6 h => ⟨(nilS, ()), rfl, ?_⟩)
    refine jn.mk fun J1 hJ1 => cs.yes (by simpa using m1) (hJ1 _ _ (jn.mk fun J2 hJ2 => cs.yes (by simpa using m2) (call21 (Running_kern h ⟨(K2.who, ()), rfl, hJ2 _ _ (jn.mk fun J3 hJ3 => cs.yes (by simpa using m3) ?_)⟩))))
    refine call27 (state_top h hs1 fun w7 h => ⟨(s1, ()), rfl, hJ3 _ _ (jn.mk fun J4 hJ4 => cs.yes (by simpa using m4) ?_)⟩)
    refine call27 (state_top h hs2 fun w8 h => ⟨(s2, ()), rfl, hJ4 _ _ ?_⟩)
    have := kk w8 h.drop
    rw [m5]
    exact this

end Go.Proofs.YtenonfkfoedfmaaGreatDoor.B


/- Calls of tasks: what they share. -/
namespace Go.Proofs.YtenonfkfoedfmaaGreatDoor.B
open Go
set_option linter.unusedVariables false

/-- the calls of tasks, behind the task's name -/
def tasksR (k b1 b3 : Nat) (v : Int) (R : List Value → World → Prop) (w18 : World) : Prop :=
 ldI w18 .i64 b1 0 fun n26 =>
 cs ((n26 : Int) == (4 : Int)) (
 nn (some ⟨k, 0, none⟩) fun b27 o28 =>
 ldP w18 b27 (o28 + 6) fun p29 =>
 cl Pg 131 [.pointer p29, .bool false] [] w18 fun (r30 : Unit) w31 =>
 nn (some ⟨k, 0, none⟩) fun b32 o33 =>
 ldP w31 b32 (o33 + 6) fun p34 =>
 cl Pg 132 [.pointer p34, .bool false] [] w31 fun (r35 : Unit) w36 =>
 cl Pg 133 [pV k, .int .i64 v] [] w36 fun (r37 : Unit) w38 =>
 cl Pg 77 [.int .i64 0, .slice none 0 0] [.a [(.i .i64), (.i .i64)]] w38 fun (r39 : (Int × Int × Unit) × Unit) w40 =>
 st1 w40 b3 0 (.int .i64 r39.1.1) fun w41 =>
 st1 w41 b3 (0 + 1) (.int .i64 r39.1.2.1) fun w42 =>
 ldI w42 .i64 b3 0 fun n43 =>
 ldI w42 .i64 b3 (0 + 1) fun n44 =>
 R [.agg #[.int .i64 n43, .int .i64 n44]] w42) (
 jn [kB] w18 (fun (t46 : Bool × Unit) w47 =>
 cs t46.1 (
 ldI w47 .i64 b1 0 fun n49 =>
 ldI w47 .i64 b1 (0 + 1) fun n50 =>
 ldI w47 .i64 b1 (0 + 2) fun n51 =>
 ldI w47 .i64 b1 (0 + 3) fun n52 =>
 ldI w47 .i64 b1 (0 + 4) fun n53 =>
 cl Pg 134 [pV k, .agg #[.int .i64 n49, .int .i64 n50, .int .i64 n51, .int .i64 n52, .int .i64 n53]] [.a [(.i .i64), (.i .i64)]] w47 fun (r54 : (Int × Int × Unit) × Unit) w55 =>
 st1 w55 b3 0 (.int .i64 r54.1.1) fun w56 =>
 st1 w56 b3 (0 + 1) (.int .i64 r54.1.2.1) fun w57 =>
 ldI w57 .i64 b3 0 fun n58 =>
 ldI w57 .i64 b3 (0 + 1) fun n59 =>
 R [.agg #[.int .i64 n58, .int .i64 n59]] w57) (
 jn [kB] w47 (fun (t61 : Bool × Unit) w62 =>
 cs t61.1 (
 nn (some ⟨k, 0, none⟩) fun b64 o65 =>
 ldI w62 .i64 b64 (o65 + 12) fun n66 =>
 al w62 2 [.int .i64 n66] fun b67 w68 =>
 cl Pg 77 [.int .i64 0, vS ⟨some ⟨b67, 0, none⟩, 1, 1⟩] [.a [(.i .i64), (.i .i64)]] w68 fun (r69 : (Int × Int × Unit) × Unit) w70 =>
 st1 w70 b3 0 (.int .i64 r69.1.1) fun w71 =>
 st1 w71 b3 (0 + 1) (.int .i64 r69.1.2.1) fun w72 =>
 ldI w72 .i64 b3 0 fun n73 =>
 ldI w72 .i64 b3 (0 + 1) fun n74 =>
 R [.agg #[.int .i64 n73, .int .i64 n74]] w72) (
 cs ((n26 : Int) == (12 : Int)) (
 cl Pg 135 [pV k, .int .i64 (-1)] [.a [(.i .i64), (.i .i64)]] w62 fun (r75 : (Int × Int × Unit) × Unit) w76 =>
 st1 w76 b3 0 (.int .i64 r75.1.1) fun w77 =>
 st1 w77 b3 (0 + 1) (.int .i64 r75.1.2.1) fun w78 =>
 ldI w78 .i64 b3 0 fun n79 =>
 ldI w78 .i64 b3 (0 + 1) fun n80 =>
 R [.agg #[.int .i64 n79, .int .i64 n80]] w78) (
 cs ((n26 : Int) == (13 : Int)) (
 ixA b1 (0 + 1) 4 0 1 fun b81 o82 =>
 ldI w62 .i64 b81 o82 fun n83 =>
 cl Pg 136 [.int .i64 n83] [kB] w62 fun (r84 : Bool × Unit) w85 =>
 cs (!r84.1) (
 cl Pg 77 [.int .i64 (-17), .slice none 0 0] [.a [(.i .i64), (.i .i64)]] w85 fun (r86 : (Int × Int × Unit) × Unit) w87 =>
 st1 w87 b3 0 (.int .i64 r86.1.1) fun w88 =>
 st1 w88 b3 (0 + 1) (.int .i64 r86.1.2.1) fun w89 =>
 ldI w89 .i64 b3 0 fun n90 =>
 ldI w89 .i64 b3 (0 + 1) fun n91 =>
 R [.agg #[.int .i64 n90, .int .i64 n91]] w89) (
 ixA b1 (0 + 1) 4 0 1 fun b92 o93 =>
 ldI w85 .i64 b92 o93 fun n94 =>
 cl Pg 135 [pV k, .int .i64 n94] [.a [(.i .i64), (.i .i64)]] w85 fun (r95 : (Int × Int × Unit) × Unit) w96 =>
 st1 w96 b3 0 (.int .i64 r95.1.1) fun w97 =>
 st1 w97 b3 (0 + 1) (.int .i64 r95.1.2.1) fun w98 =>
 ldI w98 .i64 b3 0 fun n99 =>
 ldI w98 .i64 b3 (0 + 1) fun n100 =>
 R [.agg #[.int .i64 n99, .int .i64 n100]] w98)) (
 cs ((n26 : Int) == (22 : Int)) (
 ixA b1 (0 + 1) 4 0 1 fun b101 o102 =>
 ldI w62 .i64 b101 o102 fun n103 =>
 cl Pg 137 [.int .i64 n103] [.l (.i .u64), kI] w62 fun (r104 : Int × Int × Unit) w105 =>
 cs ((r104.2.1 : Int) != (0 : Int)) (
 cl Pg 77 [.int .i64 r104.2.1, .slice none 0 0] [.a [(.i .i64), (.i .i64)]] w105 fun (r106 : (Int × Int × Unit) × Unit) w107 =>
 st1 w107 b3 0 (.int .i64 r106.1.1) fun w108 =>
 st1 w108 b3 (0 + 1) (.int .i64 r106.1.2.1) fun w109 =>
 ldI w109 .i64 b3 0 fun n110 =>
 ldI w109 .i64 b3 (0 + 1) fun n111 =>
 R [.agg #[.int .i64 n110, .int .i64 n111]] w109) (
 ixA b1 (0 + 1) 4 0 1 fun b112 o113 =>
 ldI w105 .i64 b112 o113 fun n114 =>
 cl Pg 138 [pV k, .int .i64 2, .int .i64 0, .int .i64 n114] [.a [(.i .i64), (.i .i64)]] w105 fun (r115 : (Int × Int × Unit) × Unit) w116 =>
 st1 w116 b3 0 (.int .i64 r115.1.1) fun w117 =>
 st1 w117 b3 (0 + 1) (.int .i64 r115.1.2.1) fun w118 =>
 ldI w118 .i64 b3 0 fun n119 =>
 ldI w118 .i64 b3 (0 + 1) fun n120 =>
 R [.agg #[.int .i64 n119, .int .i64 n120]] w118)) (
 cs ((n26 : Int) == (6 : Int)) (
 ixA b1 (0 + 1) 4 1 1 fun b121 o122 =>
 ldI w62 .i64 b121 o122 fun n123 =>
 cl Pg 139 [pV k, .int .i64 v, .int .i64 n123] [kI] w62 fun (r124 : Int × Unit) w125 =>
 cl Pg 77 [.int .i64 r124.1, .slice none 0 0] [.a [(.i .i64), (.i .i64)]] w125 fun (r126 : (Int × Int × Unit) × Unit) w127 =>
 st1 w127 b3 0 (.int .i64 r126.1.1) fun w128 =>
 st1 w128 b3 (0 + 1) (.int .i64 r126.1.2.1) fun w129 =>
 ldI w129 .i64 b3 0 fun n130 =>
 ldI w129 .i64 b3 (0 + 1) fun n131 =>
 R [.agg #[.int .i64 n130, .int .i64 n131]] w129) (
 dr w62 fun w132 =>
 ldI w132 .i64 b1 0 fun n133 =>
 ldI w132 .i64 b1 (0 + 1) fun n134 =>
 ldI w132 .i64 b1 (0 + 2) fun n135 =>
 ldI w132 .i64 b1 (0 + 3) fun n136 =>
 ldI w132 .i64 b1 (0 + 4) fun n137 =>
 nn (some ⟨k, 0, none⟩) fun b138 o139 =>
 ldS w132 b138 (o139 + 9) fun s140 =>
 ix s140 v 1 fun b141 o142 =>
 ldP w132 b141 o142 fun p143 =>
 nn p143 fun b144 o145 =>
 ldP w132 b144 o145 fun p146 =>
 cl Pg 140 [pV k, .agg #[.int .i64 n133, .int .i64 n134, .int .i64 n135, .int .i64 n136, .int .i64 n137], .int .i64 v, .pointer p146] [.a [(.i .i64), (.i .i64)]] w132 fun (r147 : (Int × Int × Unit) × Unit) w148 =>
 st1 w148 b3 0 (.int .i64 r147.1.1) fun w149 =>
 st1 w149 b3 (0 + 1) (.int .i64 r147.1.2.1) fun w150 =>
 ldI w150 .i64 b3 0 fun n151 =>
 ldI w150 .i64 b3 (0 + 1) fun n152 =>
 R [.agg #[.int .i64 n151, .int .i64 n152]] w150)))))) fun J60 w63 =>
 cs ((n26 : Int) == (10 : Int)) (
 J60 (true, ()) w63) (
 J60 ((n26 : Int) == (11 : Int), ()) w63))) fun J45 w48 =>
 cs ((n26 : Int) == (8 : Int)) (
 J45 (true, ()) w48) (
 J45 ((n26 : Int) == (9 : Int), ()) w48))

/-- one of the calls of one task -/
def oneR (k b1 b3 : Nat) (v : Int) (R : List Value → World → Prop) (w62 : World) : Prop :=
 dr w62 fun w132 =>
 ldI w132 .i64 b1 0 fun n133 =>
 ldI w132 .i64 b1 (0 + 1) fun n134 =>
 ldI w132 .i64 b1 (0 + 2) fun n135 =>
 ldI w132 .i64 b1 (0 + 3) fun n136 =>
 ldI w132 .i64 b1 (0 + 4) fun n137 =>
 nn (some ⟨k, 0, none⟩) fun b138 o139 =>
 ldS w132 b138 (o139 + 9) fun s140 =>
 ix s140 v 1 fun b141 o142 =>
 ldP w132 b141 o142 fun p143 =>
 nn p143 fun b144 o145 =>
 ldP w132 b144 o145 fun p146 =>
 cl Pg 140 [pV k, .agg #[.int .i64 n133, .int .i64 n134, .int .i64 n135, .int .i64 n136, .int .i64 n137], .int .i64 v, .pointer p146] [.a [(.i .i64), (.i .i64)]] w132 fun (r147 : (Int × Int × Unit) × Unit) w148 =>
 st1 w148 b3 0 (.int .i64 r147.1.1) fun w149 =>
 st1 w149 b3 (0 + 1) (.int .i64 r147.1.2.1) fun w150 =>
 ldI w150 .i64 b3 0 fun n151 =>
 ldI w150 .i64 b3 (0 + 1) fun n152 =>
 R [.agg #[.int .i64 n151, .int .i64 n152]] w150

theorem tasks_pre {e k A K L w x0 x1 x2 x3 R} {n : Nat} {a kd : Int} (h : Ok e (kerP k A K :: old e :: L) w) (hn : akL[n]? = some (a, kd)) (h0 : 0 < n) (h22 : n ≤ 22) (h9 : n ≠ 9) (h11 : n ≠ 11)
    (kz : nmd K n kd x0 = 0 → ∀ w', Ok e (kerP k A K :: old e :: L) w' → R [.agg #[.int .i64 (-18), .int .i64 0]] w')
    (kn : nmd K n kd x0 ≠ 0 → ∀ b d w', Ok e (pts d [.int .i64 0, .int .i64 0] :: pts b [.int .i64 (n : Int), .int .i64 x0, .int .i64 x1, .int .i64 x2, .int .i64 x3] :: kerP k A K :: old e :: L) w' → tasksR k b d (nmd K n kd x0) R w') :
    sh79 (some ⟨k, 0, none⟩) ((n : Int), x0, x1, x2, x3, ()) R w := by
  unfold sh79
  refine al.mk h fun b w1 h => al.mk h fun d w2 h => ldI.mk (h.p1.cell rfl) (ldI.mk (h.p1.cell rfl) (ldI.mk (h.p1.cell rfl) (ldI.mk (h.p1.cell rfl) (ldI.mk (h.p1.cell rfl) ?_))))
  refine call130 (a1 := ((n : Int), x0, x1, x2, x3, ())) (named_kern h.p2 hn h0 h22 fun w3 h => ⟨(nmd K n kd x0, ()), rfl, ?_⟩)
  have h : Ok e (pts d [.int .i64 0, .int .i64 0] :: pts b [.int .i64 (n : Int), .int .i64 x0, .int .i64 x1, .int .i64 x2, .int .i64 x3] :: kerP k A K :: old e :: L) w3 := (h.emb (by repeat' (first | with_reducible exact Emb.same _ | exact Emb.nil _ | refine Emb.cons (by with_reducible first | exact sl0 | exact .there sl0 | exact .there sl1 | exact .there sl2 | exact .there sl3 | exact .there sl4 | exact .there sl5 | exact .there sl6 | exact .there sl7 | exact .there sl8 | exact .there sl9 | exact .there sl10 | exact .there sl11 | exact .there sl12) ?_ | refine Emb.skip ?_)))
  dsimp only
  generalize nmd K n kd x0 = v at kz kn ⊢
  refine jn.bool (decide (v = 0)) (fun J hJ => ?_) (jn.bool (decide (v = 0)) (fun J hJ => ?_) (cs.mk (fun hw => ?_) (fun hw => kn (of_decide_eq_false hw) b d w3 h)))
  · refine cs.mk (fun hc => ldI.mk (h.p1.cell rfl) ?_) (fun hc => ?_)
    · rw [decide_eq_true (by simpa using hc)] at hJ
      rw [show ((n : Int) != (9 : Int)) = true by simp; omega]; exact hJ
    · rw [decide_eq_false (by simpa using hc)] at hJ; exact hJ
  · refine cs.mk (fun hc => ldI.mk (h.p1.cell rfl) ?_) (fun hc => ?_)
    · have hc : decide (v = 0) = true := hc
      rw [hc] at hJ
      rw [show ((n : Int) != (11 : Int)) = true by simp; omega]; exact hJ
    · have hc : decide (v = 0) = false := hc
      rw [hc] at hJ; exact hJ
  · exact fin_code h fun w4 h => kz (of_decide_eq_true hw) w4 h.drop

/-- what a call of one task answers -/
def OneC (e : World) (k : Nat) (A : KA) (K : KM) (v : Int) (r : (Int × Int) × KM) (f : Option Addr → (List Value → World → Prop) → World → Prop) : Prop :=
  ∀ L w (R : List Value → World → Prop) t, Ok e (kerP k A K :: old e :: L) w → w.cell? ⟨A.ub (v - 1).toNat, 0, none⟩ = some (pV t) → (∀ w', Ok e (kerP k A r.2 :: old e :: L) w' → R [.agg #[.int .i64 r.1.1, .int .i64 r.1.2]] w') → f (some ⟨t, 0, none⟩) R w

end Go.Proofs.YtenonfkfoedfmaaGreatDoor.B


/- Calls of tasks: one by one. -/
namespace Go.Proofs.YtenonfkfoedfmaaGreatDoor.B
open Go
set_option linter.unusedVariables false

end Go.Proofs.YtenonfkfoedfmaaGreatDoor.B


/- Calls of mutexes, of the state. -/
namespace Go.Proofs.YtenonfkfoedfmaaGreatDoor.B
open Go
set_option linter.unusedVariables false

/-- an object's number as the calls take it -/
abbrev clO (x : Int) : Int := if 0 > (if 9 < x then 9 else x) then 0 else (if 9 < x then 9 else x)

theorem clO_in {x n : Int} (hn : n ≤ 8) : (1 ≤ clO x ∧ clO x ≤ n) ↔ (1 ≤ x ∧ x ≤ n) := by
  unfold clO
  split <;> split at * <;> omega

def cIn (K : KM) : Option ((Int × Int) × KM) := some ((0, if K.pl.inn = true then 1 else 0), K)

end Go.Proofs.YtenonfkfoedfmaaGreatDoor.B


/- More calls; the calls by their numbers. -/
namespace Go.Proofs.YtenonfkfoedfmaaGreatDoor.B
open Go
set_option linter.unusedVariables false

end Go.Proofs.YtenonfkfoedfmaaGreatDoor.B


/- Sleeps and wakeups. -/
namespace Go.Proofs.YtenonfkfoedfmaaGreatDoor.B
open Go
set_option linter.unusedVariables false

end Go.Proofs.YtenonfkfoedfmaaGreatDoor.B


/- Calls 5 and 19: a task is ended by another one, is suspended. -/
namespace Go.Proofs.YtenonfkfoedfmaaGreatDoor.B
open Go
set_option linter.unusedVariables false

end Go.Proofs.YtenonfkfoedfmaaGreatDoor.B


/- Waits for semaphores. -/
namespace Go.Proofs.YtenonfkfoedfmaaGreatDoor.B
open Go
set_option linter.unusedVariables false

end Go.Proofs.YtenonfkfoedfmaaGreatDoor.B


/- What is told of a semaphore. -/
namespace Go.Proofs.YtenonfkfoedfmaaGreatDoor.B
open Go
set_option linter.unusedVariables false

end Go.Proofs.YtenonfkfoedfmaaGreatDoor.B


/- Calls of pools. -/
namespace Go.Proofs.YtenonfkfoedfmaaGreatDoor.B
open Go
set_option linter.unusedVariables false

/-- a block is taken, if there is one -/
def cPol (o : Int) (K : KM) : Option ((Int × Int) × KM) :=
  if ¬ (1 ≤ o ∧ o ≤ K.pools.length) then some ((-18, 0), K)
  else (getO K.pools (o - 1)).bind fun p => some (if (p.q.poll p.a p.n p.z).1.2 = true then (0, (p.q.poll p.a p.n p.z).1.1) else (-50, 0), { K with pools := K.pools.set (o - 1).toNat { p with q := (p.q.poll p.a p.n p.z).2 } })

/-- a block is given back -/
def cPut (o x : Int) (K : KM) : Option ((Int × Int) × KM) :=
  if ¬ (1 ≤ o ∧ o ≤ K.pools.length) then some ((-18, 0), K)
  else (getO K.pools (o - 1)).bind fun p => (KM.woken x [(p.q.put x).1.1] { K with pools := K.pools.set (o - 1).toNat { p with q := (p.q.put x).2 } }).map fun K => (((p.q.put x).1.2, 0), K)

end Go.Proofs.YtenonfkfoedfmaaGreatDoor.B


/- What is told of a pool. -/
namespace Go.Proofs.YtenonfkfoedfmaaGreatDoor.B
open Go
set_option linter.unusedVariables false

end Go.Proofs.YtenonfkfoedfmaaGreatDoor.B


/- Calls of data queues. -/
namespace Go.Proofs.YtenonfkfoedfmaaGreatDoor.B
open Go
set_option linter.unusedVariables false

def cTsd (o x : Int) (K : KM) : Option ((Int × Int) × KM) :=
  if ¬ (1 ≤ o ∧ o ≤ K.datas.length) then some ((-18, 0), K)
  else (getO K.datas (o - 1)).bind fun p => (KM.woken x [(p.q.trySend p.room x).1.2] { K with datas := K.datas.set (o - 1).toNat { p with q := (p.q.trySend p.room x).2 } }).map fun K => (if (p.q.trySend p.room x).1.1 = true then (0, 0) else (-50, 0), K)

def cTrc (o : Int) (K : KM) : Option ((Int × Int) × KM) :=
  if ¬ (1 ≤ o ∧ o ≤ K.datas.length) then some ((-18, 0), K)
  else (getO K.datas (o - 1)).bind fun p => (KM.woken 0 [p.q.tryRecv.1.2.2] { K with datas := K.datas.set (o - 1).toNat { p with q := p.q.tryRecv.2 } }).map fun K => (if p.q.tryRecv.1.2.1 = true then (0, p.q.tryRecv.1.1) else (-50, 0), K)

end Go.Proofs.YtenonfkfoedfmaaGreatDoor.B


/- Calls of data queues: a datum is received. -/
namespace Go.Proofs.YtenonfkfoedfmaaGreatDoor.B
open Go
set_option linter.unusedVariables false

end Go.Proofs.YtenonfkfoedfmaaGreatDoor.B


/- Calls that name what is not there. -/
namespace Go.Proofs.YtenonfkfoedfmaaGreatDoor.B
open Go
set_option linter.unusedVariables false

theorem timeout_any {e w L R} {n : Nat} {a kd p q x0 x1 x2 x3 : Int} (h : Ok e L w) (hn : akL[n]? = some (a, kd)) (h0 : 0 < n) (ha : 1 ≤ a ∧ a ≤ 4) (k : ∀ z w', Ok e L w' → R [.int .i64 z] w') : sh141 ((n : Int), x0, x1, x2, x3, ()) p q R w := by
  unfold sh141
  refine al.mk h fun b w1 h => ldI.mk (h.cell rfl) (cs.mk (fun _ => k _ w1 h.drop) (fun _ => cs.mk (fun _ => ldI.mk (h.cell rfl) ?_) (fun _ => k _ w1 h.drop)))
  refine call213 (Arity_calls h hn h0 fun w2 h => ⟨(a, ()), rfl, ?_⟩)
  have hc : a = 1 ∨ a = 2 ∨ a = 3 ∨ a = 4 := by omega
  rcases hc with rfl | rfl | rfl | rfl
  · exact ⟨by decide, by decide, ldI.mk (h.cell rfl) (k _ w2 h.drop)⟩
  · exact ⟨by decide, by decide, ldI.mk (h.cell rfl) (k _ w2 h.drop)⟩
  · exact ⟨by decide, by decide, ldI.mk (h.cell rfl) (k _ w2 h.drop)⟩
  · exact ⟨by decide, by decide, ldI.mk (h.cell rfl) (k _ w2 h.drop)⟩

theorem tasks_bad {e k A K a kd x0 x1 x2 x3} {n : Nat} (hn : akL[n]? = some (a, kd)) (h0 : 0 < n) (h22 : n ≤ 22) (h9 : n ≠ 9) (h11 : n ≠ 11) (hz : nmd K n kd x0 = 0) : GrpC e k A K ((-18, 0), K) (sh79 (some ⟨k, 0, none⟩) ((n : Int), x0, x1, x2, x3, ())) := by
  intro L w R h kk
  exact tasks_pre h hn h0 h22 h9 h11 (fun _ w' h => kk w' h) (fun hc => absurd hz hc)

theorem sem_bad {e k A K a kd x0 x1 x2 x3} {n : Nat} (hn : akL[n]? = some (a, kd)) (h0 : 0 < n) (ha : 1 ≤ a ∧ a ≤ 4) (hb : ¬ (1 ≤ x0 ∧ x0 ≤ (K.sems.length : Int))) : GrpC e k A K ((-18, 0), K) (sh80 (some ⟨k, 0, none⟩) ((n : Int), x0, x1, x2, x3, ())) := by
  intro L w R h kk
  unfold sh80
  refine al.mk h fun b w1 h => al.mk h fun d w2 h => ⟨by decide, by decide, ldI.mk (h.p1.cell rfl) ?_⟩
  obtain ⟨ho, h2⟩ := kerE h.p2
  have hsl := ptrs_len ((Ok.emb (h2) (.cons (A := semsP A.ss K.sems) (by with_reducible first | exact sl0 | exact .there sl0 | exact .there sl1 | exact .there sl2 | exact .there sl3 | exact .there sl4 | exact .there sl5 | exact .there sl6 | exact .there sl7 | exact .there sl8 | exact .there sl9 | exact .there sl10 | exact .there sl11 | exact .there sl12) (.same _))))
  simp at hsl
  have hs8 := ho.sems
  refine nn.mk (ldS.mk (h2.cell rfl) ?_)
  have hin := clO_in (x := x0) (n := (K.sems.length : Int)) (by omega)
  refine call59 (a1 := clO x0) ?_
  unfold sh59
  refine jn.bool true (fun J hJ => cs.mk (fun _ => hJ) (fun hc => ?_)) (cs.yes rfl ⟨(none, false, ()), rfl, ?_⟩)
  · have hc : ¬ clO x0 < 1 := of_decide_eq_false hc
    rw [show decide ((clO x0 : Int) > ((A.ss.len : Int) : Int)) = true from decide_eq_true (by omega)]
    exact hJ
  refine ldI.mk (h.p1.cell rfl) (ldI.mk (h.p1.cell rfl) (ldI.mk (h.p1.cell rfl) (ldI.mk (h.p1.cell rfl) (ldI.mk (h.p1.cell rfl) ?_))))
  refine call141 (a0 := ((n : Int), x0, x1, x2, x3, ())) (timeout_any h hn h0 ha fun z w3 h => ⟨(z, ()), rfl, cs.yes rfl ?_⟩)
  exact fin_code h fun w4 h => kk w4 h.drop

theorem flag_bad {e k A K a kd x0 x1 x2 x3} {n : Nat} (hn : akL[n]? = some (a, kd)) (h0 : 0 < n) (ha : 1 ≤ a ∧ a ≤ 4) (hb : ¬ (1 ≤ x0 ∧ x0 ≤ ((0 : Nat) : Int))) : GrpC e k A K ((-18, 0), K) (sh81 (some ⟨k, 0, none⟩) ((n : Int), x0, x1, x2, x3, ())) := by
  intro L w R h kk
  unfold sh81
  refine al.mk h fun b w1 h => al.mk h fun d w2 h => ⟨by decide, by decide, ldI.mk (h.p1.cell rfl) ?_⟩
  obtain ⟨ho, h2⟩ := kerE h.p2
  have hf : Ok e (slc 1 A.fs [] :: _) _ := (Ok.emb (h2) (.cons (A := flgP A.fs) (by with_reducible first | exact sl0 | exact .there sl0 | exact .there sl1 | exact .there sl2 | exact .there sl3 | exact .there sl4 | exact .there sl5 | exact .there sl6 | exact .there sl7 | exact .there sl8 | exact .there sl9 | exact .there sl10 | exact .there sl11 | exact .there sl12) (.same _)))
  have hsl := hf.slc_len
  simp at hsl
  refine nn.mk (ldS.mk (h2.cell rfl) ?_)
  have hin := clO_in (x := x0) (n := ((0 : Nat) : Int)) (by omega)
  refine call144 (a1 := clO x0) ?_
  unfold sh144
  refine jn.bool true (fun J hJ => cs.mk (fun _ => hJ) (fun hc => ?_)) (cs.yes rfl ⟨(none, false, ()), rfl, ?_⟩)
  · have hc : ¬ clO x0 < 1 := of_decide_eq_false hc
    rw [show decide ((clO x0 : Int) > ((A.fs.len : Int) : Int)) = true from decide_eq_true (by omega)]
    exact hJ
  refine ldI.mk (h.p1.cell rfl) (ldI.mk (h.p1.cell rfl) (ldI.mk (h.p1.cell rfl) (ldI.mk (h.p1.cell rfl) (ldI.mk (h.p1.cell rfl) ?_))))
  refine call141 (a0 := ((n : Int), x0, x1, x2, x3, ())) (timeout_any h hn h0 ha fun z w3 h => ⟨(z, ()), rfl, cs.yes rfl ?_⟩)
  exact fin_code h fun w4 h => kk w4 h.drop

theorem data_bad {e k A K a kd x0 x1 x2 x3} {n : Nat} (hn : akL[n]? = some (a, kd)) (h0 : 0 < n) (ha : 1 ≤ a ∧ a ≤ 4) (hb : ¬ (1 ≤ x0 ∧ x0 ≤ (K.datas.length : Int))) : GrpC e k A K ((-18, 0), K) (sh82 (some ⟨k, 0, none⟩) ((n : Int), x0, x1, x2, x3, ())) := by
  intro L w R h kk
  unfold sh82
  refine al.mk h fun b w1 h => al.mk h fun d w2 h => ⟨by decide, by decide, ldI.mk (h.p1.cell rfl) ?_⟩
  obtain ⟨ho, h2⟩ := kerE h.p2
  have hsl := ptrs_len ((Ok.emb (h2) (.cons (A := datasP A.ds K.datas) (by with_reducible first | exact sl0 | exact .there sl0 | exact .there sl1 | exact .there sl2 | exact .there sl3 | exact .there sl4 | exact .there sl5 | exact .there sl6 | exact .there sl7 | exact .there sl8 | exact .there sl9 | exact .there sl10 | exact .there sl11 | exact .there sl12) (.same _))))
  simp at hsl
  have hs8 := ho.datas
  refine nn.mk (ldS.mk (h2.cell rfl) ?_)
  have hin := clO_in (x := x0) (n := (K.datas.length : Int)) (by omega)
  refine call149 (a1 := clO x0) ?_
  unfold sh149
  refine jn.bool true (fun J hJ => cs.mk (fun _ => hJ) (fun hc => ?_)) (cs.yes rfl ⟨(none, false, ()), rfl, ?_⟩)
  · have hc : ¬ clO x0 < 1 := of_decide_eq_false hc
    rw [show decide ((clO x0 : Int) > ((A.ds.len : Int) : Int)) = true from decide_eq_true (by omega)]
    exact hJ
  refine ldI.mk (h.p1.cell rfl) (ldI.mk (h.p1.cell rfl) (ldI.mk (h.p1.cell rfl) (ldI.mk (h.p1.cell rfl) (ldI.mk (h.p1.cell rfl) ?_))))
  refine call141 (a0 := ((n : Int), x0, x1, x2, x3, ())) (timeout_any h hn h0 ha fun z w3 h => ⟨(z, ()), rfl, ldI.mk (h.p1.cell rfl) ?_⟩)
  refine jn.all (fun _ w' => Ok e (pts d [.int .i64 0, .int .i64 0] :: pts b [.int .i64 (n : Int), .int .i64 x0, .int .i64 x1, .int .i64 x2, .int .i64 x3] :: kerP k A K :: old e :: L) w') (fun J hJ => cs.mk (fun _ => hJ _ _ h) (fun _ => hJ _ _ h)) (fun t w' h => ldI.mk (h.p1.cell rfl) ?_)
  refine jn.all (fun _ w' => Ok e (pts d [.int .i64 0, .int .i64 0] :: pts b [.int .i64 (n : Int), .int .i64 x0, .int .i64 x1, .int .i64 x2, .int .i64 x3] :: kerP k A K :: old e :: L) w') (fun J hJ => cs.mk (fun _ => ldI.mk (h.p1.cell rfl) (ldI.mk (h.p1.cell rfl) (ldI.mk (h.p1.cell rfl) (ldI.mk (h.p1.cell rfl) (ldI.mk (h.p1.cell rfl) ?_))))) (fun _ => hJ _ _ h)) (fun t w' h => cs.yes rfl ?_)
  · exact call141 (a0 := ((n : Int), x0, x1, x2, x3, ())) (timeout_any h hn h0 ha fun z w3 h => ⟨(z, ()), rfl, hJ _ _ h⟩)
  · exact fin_code h fun w4 h => kk w4 h.drop

theorem block_bad {e k A K a kd x0 x1 x2 x3} {n : Nat} (hn : akL[n]? = some (a, kd)) (h0 : 0 < n) (ha : 1 ≤ a ∧ a ≤ 4) (hb : ¬ (1 ≤ x0 ∧ x0 ≤ (K.pools.length : Int))) : GrpC e k A K ((-18, 0), K) (sh84 (some ⟨k, 0, none⟩) ((n : Int), x0, x1, x2, x3, ())) := by
  intro L w R h kk
  unfold sh84
  refine al.mk h fun b w1 h => al.mk h fun d w2 h => ⟨by decide, by decide, ldI.mk (h.p1.cell rfl) ?_⟩
  obtain ⟨ho, h2⟩ := kerE h.p2
  have hsl := ptrs_len ((Ok.emb (h2) (.cons (A := poolsP A.ps K.pools) (by with_reducible first | exact sl0 | exact .there sl0 | exact .there sl1 | exact .there sl2 | exact .there sl3 | exact .there sl4 | exact .there sl5 | exact .there sl6 | exact .there sl7 | exact .there sl8 | exact .there sl9 | exact .there sl10 | exact .there sl11 | exact .there sl12) (.same _))))
  simp at hsl
  have hs8 := ho.pools
  refine nn.mk (ldS.mk (h2.cell rfl) ?_)
  have hin := clO_in (x := x0) (n := (K.pools.length : Int)) (by omega)
  refine call72 (a1 := clO x0) ?_
  unfold sh72
  refine jn.bool true (fun J hJ => cs.mk (fun _ => hJ) (fun hc => ?_)) (cs.yes rfl ⟨(none, false, ()), rfl, ?_⟩)
  · have hc : ¬ clO x0 < 1 := of_decide_eq_false hc
    rw [show decide ((clO x0 : Int) > ((A.ps.len : Int) : Int)) = true from decide_eq_true (by omega)]
    exact hJ
  refine ldI.mk (h.p1.cell rfl) (ldI.mk (h.p1.cell rfl) (ldI.mk (h.p1.cell rfl) (ldI.mk (h.p1.cell rfl) (ldI.mk (h.p1.cell rfl) ?_))))
  refine call141 (a0 := ((n : Int), x0, x1, x2, x3, ())) (timeout_any h hn h0 ha fun z w3 h => ⟨(z, ()), rfl, cs.yes rfl ?_⟩)
  exact fin_code h fun w4 h => kk w4 h.drop

theorem mutex_bad {e k A K a kd} {x0 x1 x2 x3 : Int} {n : Nat} (hn : akL[n]? = some (a, kd)) (h0 : 0 < n) (ha : 1 ≤ a ∧ a ≤ 4) (hb : ¬ (1 ≤ x0 ∧ x0 < (K.mm.m.length : Int))) : GrpC e k A K ((-18, 0), K) (sh83 (some ⟨k, 0, none⟩) ((n : Int), x0, x1, x2, x3, ())) := by
  intro L w R h kk
  unfold sh83
  refine al.mk h fun b w1 h => al.mk h fun d w2 h => ⟨by decide, by decide, ldI.mk (h.p1.cell rfl) (ldI.mk (h.p1.cell rfl) (ldI.mk (h.p1.cell rfl) (ldI.mk (h.p1.cell rfl) (ldI.mk (h.p1.cell rfl) (ldI.mk (h.p1.cell rfl) ?_)))))⟩
  refine call141 (a0 := ((n : Int), x0, x1, x2, x3, ())) (timeout_any h hn h0 ha fun z w3 h => ⟨(z, ()), rfl, ?_⟩)
  obtain ⟨ho, h2⟩ := kerE h.p2
  obtain ⟨_, _, ⟨-, -, h8⟩, -, -⟩ := mmE ((Ok.emb (h2) (.cons (A := mmP A.lk K.mm) (by with_reducible first | exact sl0 | exact .there sl0 | exact .there sl1 | exact .there sl2 | exact .there sl3 | exact .there sl4 | exact .there sl5 | exact .there sl6 | exact .there sl7 | exact .there sl8 | exact .there sl9 | exact .there sl10 | exact .there sl11 | exact .there sl12) (.same _))))
  have hin := clO_in (x := x0) (n := (K.mm.m.length : Int) - 1) (by omega)
  refine jn.bool true (fun J hJ => cs.mk (fun _ => hJ) (fun hc => ?_)) (cs.yes rfl (fin_code h fun w4 h => kk w4 h.drop))
  have hc : ¬ clO x0 < 1 := of_decide_eq_false hc
  refine nn.mk (ldI.mk (h2.cell rfl) ?_)
  rw [show decide ((clO x0 : Int) > (K.mm.m.length : Int) - 1) = true from decide_eq_true (by omega)]
  exact hJ

theorem time_bad {e k A K x0 x1 x2 x3} {n : Nat} (hn : n = 53 ∨ n = 54 ∨ n = 55 ∨ n = 56) : GrpC e k A K ((-18, 0), K) (sh85 (some ⟨k, 0, none⟩) ((n : Int), x0, x1, x2, x3, ())) := by
  intro L w R h kk
  unfold sh85
  refine al.mk h fun b w1 h => al.mk h fun d w2 h => ⟨by decide, by decide, ldI.mk (h.p1.cell rfl) (ldI.mk (h.p1.cell rfl) ?_)⟩
  obtain ⟨ho, h2⟩ := kerE h.p2
  have h3 := (Ok.emb (h2) (.cons (A := hnP A.hn K.tic K.up K.tb K.last K.ents) (by with_reducible first | exact sl0 | exact .there sl0 | exact .there sl1 | exact .there sl2 | exact .there sl3 | exact .there sl4 | exact .there sl5 | exact .there sl6 | exact .there sl7 | exact .there sl8 | exact .there sl9 | exact .there sl10 | exact .there sl11 | exact .there sl12) (.same _)))
  have fin : ∀ (f : World → Prop), (∀ w', Ok e (kerP k A K :: old e :: L) w' → f w') → Ok e (kerP k A K :: old e :: L) w2 → f w2 := fun f hf h => hf w2 h
  rcases hn with rfl | rfl | rfl | rfl
  · refine cs.no rfl (cs.no rfl (cs.yes rfl (nn.mk (ldP.mk (h2.cell rfl) ?_))))
    exact call160 (Start_none h3 ⟨((-18 : Int), ()), rfl, fin_code h fun w4 h => kk w4 h.drop⟩)
  · refine cs.no rfl (cs.no rfl (cs.no rfl (cs.yes rfl (nn.mk (ldP.mk (h2.cell rfl) ?_)))))
    exact call161 (Stop_none h3 ⟨((-18 : Int), ()), rfl, fin_code h fun w4 h => kk w4 h.drop⟩)
  · refine cs.no rfl (cs.no rfl (cs.no rfl (cs.no rfl (cs.yes rfl (dr.mk h fun w4 h => ?_)))))
    obtain ⟨ho, h2⟩ := kerE h.p2
    have h3 := (Ok.emb (h2) (.cons (A := hnP A.hn K.tic K.up K.tb K.last K.ents) (by with_reducible first | exact sl0 | exact .there sl0 | exact .there sl1 | exact .there sl2 | exact .there sl3 | exact .there sl4 | exact .there sl5 | exact .there sl6 | exact .there sl7 | exact .there sl8 | exact .there sl9 | exact .there sl10 | exact .there sl11 | exact .there sl12) (.same _)))
    refine nn.mk (ldP.mk (h2.cell rfl) ⟨by decide, by decide, ldI.mk (h.p1.cell rfl) ?_⟩)
    exact call162 (Set_none h3 ⟨((-18 : Int), ()), rfl, fin_code h fun w4 h => kk w4 h.drop⟩)
  · refine cs.no rfl (cs.no rfl (cs.no rfl (cs.no rfl (cs.no rfl (cs.yes rfl (nn.mk (ldP.mk (h2.cell rfl) ?_)))))))
    exact call163 (Clear_none h3 ⟨((-18 : Int), ()), rfl, fin_code h fun w4 h => kk w4 h.drop⟩)

/-- calls that the law leaves out -/
def spN (n : Nat) : Bool := [4, 8, 9, 10, 11, 12, 13, 22, 51, 52].contains n

def akOk (n : Nat) : Bool := spN n || match akL[n]? with
  | some p => decide (1 ≤ p.1 ∧ p.1 ≤ 4 ∧ 1 ≤ p.2 ∧ p.2 ≤ 3)
  | none => false

theorem akOk_all : ∀ n, n ≤ 56 → 1 ≤ n → akOk n = true := by decide

theorem ak_get {n : Nat} (h1 : 1 ≤ n) (h2 : n ≤ 56) (hs : spN n = false) : ∃ a kd, akL[n]? = some (a, kd) ∧ (1 ≤ a ∧ a ≤ 4) ∧ (1 ≤ kd ∧ kd ≤ 3) := by
  have h := akOk_all n h2 h1
  unfold akOk at h
  rw [hs, Bool.false_or] at h
  split at h
  · next p hp =>
    have h := of_decide_eq_true h
    exact ⟨p.1, p.2, hp, ⟨h.1, h.2.1⟩, h.2.2⟩
  · cases h

theorem spN_of {n : Nat} (hs : spN n = false) : noName n = false ∧ n ≠ 9 ∧ n ≠ 11 ∧ n ≠ 51 ∧ n ≠ 52 := by
  refine ⟨?_, ?_, ?_, ?_, ?_⟩
  · unfold spN at hs
    unfold noName
    simp at hs ⊢
    omega
  all_goals
    intro hc
    subst hc
    revert hs
    decide

/-- a call that names nothing -/
theorem Do_bad {e L w k A K R} {n : Nat} {a kd x0 x1 x2 x3 : Int} {r : (Int × Int) × KM} (tb : TabE e) (h : Ok e (kerP k A K :: old e :: L) w) (hn : akL[n]? = some (a, kd)) (ha : 1 ≤ a ∧ a ≤ 4) (h1 : 1 ≤ n) (h2 : n ≤ 56) (hs : spN n = false)
    (hx : ¬ (1 ≤ x0 ∧ x0 ≤ 8)) (hx0 : x0 = 0 → 23 ≤ n) (hu : K.us.length ≤ 8) (he : K.sems.length ≤ 8 ∧ K.datas.length ≤ 8 ∧ K.pools.length ≤ 8 ∧ K.mm.m.length ≤ 9)
    (hm : K.call kd (fun K => some ((-18, 0), K)) = some r) (kk : ∀ w', Ok e (kerP k A r.2 :: old e :: L) w' → R [.agg #[.int .i64 r.1.1, .int .i64 r.1.2]] w') : sh41 (some ⟨k, 0, none⟩) ((n : Int), x0, x1, x2, x3, ()) R w := by
  obtain ⟨s1, s2, s3, s4, s5⟩ := spN_of hs
  refine Do_kern (g := fun K => some ((-18, 0), K)) tb hn h1 h hm (fun r hr => ?_) kk
  have hr : (((-18 : Int), (0 : Int)), K) = r := Option.some.inj hr
  subst hr
  clear kk hm h
  have hb1 : ¬ (1 ≤ x0 ∧ x0 ≤ (K.sems.length : Int)) := by omega
  have hb2 : ¬ (1 ≤ x0 ∧ x0 ≤ ((0 : Nat) : Int)) := by omega
  have hb3 : ¬ (1 ≤ x0 ∧ x0 ≤ (K.datas.length : Int)) := by omega
  have hb4 : ¬ (1 ≤ x0 ∧ x0 < (K.mm.m.length : Int)) := by omega
  have hb5 : ¬ (1 ≤ x0 ∧ x0 ≤ (K.pools.length : Int)) := by omega
  by_cases c1 : n ≤ 22
  · refine .inl ⟨c1, tasks_bad hn h1 c1 s2 s3 ?_⟩
    unfold nmd
    rw [s1, if_neg (by decide)]
    unfold KM.named
    rw [if_neg (by omega), if_neg (fun hc => by have := hx0 hc.1; omega)]
  by_cases c2 : n ≤ 27
  · exact .inr (.inl ⟨by omega, c2, sem_bad hn h1 ha hb1⟩)
  by_cases c3 : n ≤ 33
  · exact .inr (.inr (.inl ⟨by omega, c3, flag_bad hn h1 ha hb2⟩))
  by_cases c4 : n ≤ 42
  · exact .inr (.inr (.inr (.inl ⟨by omega, c4, data_bad (e := e) (k := k) (A := A) (K := K) (a := a) (kd := kd) (x0 := x0) (x1 := x1) (x2 := x2) (x3 := x3) (n := n) hn h1 ha hb3⟩)))
  by_cases c5 : n ≤ 46
  · exact .inr (.inr (.inr (.inr (.inl ⟨by omega, c5, mutex_bad hn h1 ha hb4⟩))))
  by_cases c6 : n ≤ 50
  · exact .inr (.inr (.inr (.inr (.inr (.inl ⟨by omega, c6, block_bad hn h1 ha hb5⟩)))))
  exact .inr (.inr (.inr (.inr (.inr (.inr (.inl ⟨by omega, h2, time_bad (by omega)⟩))))))

namespace Nob

def cf : ConfM := ⟨1, [(3, true)], [], [], [], []⟩

def mm : MM := ⟨[⟨0, 0, 0, []⟩], [MM.mt0, ⟨3, 3, 0⟩] ++ List.replicate 15 MM.mt0⟩

def KN (lv : List Int) : KM := ⟨⟨lv, false, false⟩, 1, 0, 0, 0, [], [(1, 3)], mm, [⟨0, 0, 0, 2, false, 3, 3, 0, 0, 0, 0, 0⟩], [], [], [], 1⟩

theorem start : KM.new cf = some (KN []) := by kernel_rfl

theorem call12 {kd : Int} (h : kd = 1 ∨ kd = 2) : (KN []).call kd (fun K => some ((-18, 0), K)) = some ((-18, 0), KN []) := by
  rcases h with rfl | rfl <;> rfl

theorem call3 : (KN []).call 3 (fun K => some ((-18, 0), K)) = some ((-25, 0), KN []) := rfl

theorem call3i : (KN [1]).call 3 (fun K => some ((-18, 0), K)) = some ((-18, 0), KN [1]) := rfl

theorem intr : (KN []).intr 1 = (0, KN [1]) := rfl

theorem retn : (KN [1]).retn = (0, KN []) := rfl

end Nob

end Go.Proofs.YtenonfkfoedfmaaGreatDoor.B


/- TopDelays, as plain Lean. -/
namespace Go.Proofs.YtenonfkfoedfmaaGreatDoor.B
open Go
set_option linter.unusedVariables false

namespace Del

def M1 : MM := (((MM.new []).setBase 1 1).getD (0, MM.new [])).2

def pl0 : PlaceM := ⟨[], false, false⟩

def u1 : Un := ⟨0, 0, 0, 2, false, 1, 1, 0, 0, 0, 0, 0⟩

def cf (t : Int) : ConfM := ⟨t, [(1, true)], [], [], [], []⟩

def K0 (t : Int) : KM := ⟨pl0, t, 0, 0, 0, [], [(1, 1)], M1, [u1], [], [], [], 1⟩

def KW (t d up : Int) : KM := ⟨pl0, t, up, 0, 1, [⟨d + t, 1, 1⟩], [], M1, [{ u1 with state := 4, kind := 2, handle := 1 }], [], [], [], 0⟩

def KR (t up : Int) : KM := ⟨pl0, t, up, 0, 1, [], [(1, 1)], M1, [u1], [], [], [], 1⟩

end Del

end Go.Proofs.YtenonfkfoedfmaaGreatDoor.B


/- What every law's proof wants: arguments that came in, and the step from a shallow program to the call. -/
namespace Go.Proofs.YtenonfkfoedfmaaGreatDoor.B
open Go
theorem enc_i {a b : Int} (h : a = b) : encK [kI] (a, ()) = [.int .i64 b] := by rw [h]; rfl
theorem enc_b {a b : Bool} (h : a = b) : encK [kB] (a, ()) = [.bool b] := by rw [h]; rfl
/-- a slice of whole numbers that came in -/
structure ArgI (k : IntKind) (e : World) (s : Sl) (xs : List Int) : Prop where
  len : xs.length = s.len
  cell : ∀ i x, xs[i]? = some x → ∃ b o, s.a = some ⟨b, o, none⟩ ∧ b < e.heap.size ∧ e.cell? ⟨b, o + i, none⟩ = some (.int k x)
  wf : ∀ x ∈ xs, (Lit.int k x).wf = true
  cap : s.len ≤ s.cap
/-- a slice of elements of 'sz' cells that came in -/
structure ArgS (sz : Nat) (e : World) (s : Sl) (vs : List Value) : Prop where
  len : vs.length = s.len * sz
  cell : ∀ i x, vs[i]? = some x → ∃ b o, s.a = some ⟨b, o, none⟩ ∧ b < e.heap.size ∧ e.cell? ⟨b, o + i, none⟩ = some x
  cap : s.len ≤ s.cap
/-- a slice of whole numbers that may be read as long as a part of the memory stays -/
def Rd (e : World) (A : SP) (k : IntKind) (s : Sl) (xs : List Int) : Prop :=
  xs.length = s.len ∧ ∀ (i : Nat) (x : Int), xs[i]? = some x → ∃ b o, s.a = some ⟨b, o, none⟩ ∧ ∀ L w, Ok e (A :: L) w → w.cell? ⟨b, o + i, none⟩ = some (.int k x)
theorem rd_arg {k : IntKind} {e : World} {s : Sl} {xs : List Int} (h : ArgI k e s xs) : Rd e (old e) k s xs := by
  refine ⟨h.len, fun i x hx => ?_⟩
  obtain ⟨b, o, ha, hb, hc⟩ := h.cell i x hx
  exact ⟨b, o, ha, fun L w hw => by rw [hw.old_cell (a := ⟨b, o + i, none⟩) hb]; exact hc⟩
theorem rd_slc {k : IntKind} {e : World} {L : List SP} {w : World} {s : Sl} {xs : List Int} (h : Ok e (slc 1 s (xs.map (Value.int k)) :: L) w) : Rd e (slc 1 s (xs.map (Value.int k))) k s xs := by
  obtain ⟨hl, hv, hc, hcase⟩ := h.slcE
  rw [List.length_map, Nat.mul_one] at hl
  refine ⟨hl, fun i x hx => ?_⟩
  have hlt := (List.getElem?_eq_some_iff.1 hx).1
  rcases hcase with ⟨ha, hcap, _⟩ | ⟨b, post, ha, _, _⟩
  · omega
  · refine ⟨b, 0, ha, fun L w hw => ?_⟩
    have := hw.slc_cells ha i (.int k x) (by rw [List.getElem?_map, hx]; rfl)
    rw [Addr.add_lit] at this
    exact this
theorem ix_rd {e : World} {A : SP} {k : IntKind} {s : Sl} {xs : List Int} {i : Int} {f : Nat → Nat → Prop} (h : Rd e A k s xs) (h0 : 0 ≤ i) (h1 : i < s.len)
    (kk : ∀ b o x, xs[i.toNat]? = some x → (∀ L w, Ok e (A :: L) w → w.cell? ⟨b, o, none⟩ = some (.int k x)) → f b o) : ix s i 1 f := by
  have hlt : i.toNat < xs.length := by rw [h.1]; omega
  obtain ⟨b, o, ha, hc⟩ := h.2 i.toNat _ (List.getElem?_eq_getElem hlt)
  refine ⟨b, o, ha, h0, h1, ?_⟩
  rw [Nat.mul_one]
  exact kk b _ _ (List.getElem?_eq_getElem hlt) hc
/-- a part of such a slice -/
theorem sb_rd {e : World} {A : SP} {k : IntKind} {s : Sl} {xs : List Int} {lo hi mx : Int} {f : Sl → Prop} (h : Rd e A k s xs) (h0 : 0 ≤ lo) (h1 : lo ≤ hi) (h2 : hi ≤ s.len) (h3 : hi ≤ mx) (h4 : mx ≤ s.cap)
    (kk : ∀ x : Sl, x.len = hi.toNat - lo.toNat → x.len ≤ x.cap → Rd e A k x ((xs.take hi.toNat).drop lo.toNat) → f x) : sb s lo hi mx 1 f := by
  refine ⟨h0, h1, h3, h4, kk _ (by simp [Sl.sub]) (by simp [Sl.sub]; omega) ⟨by rw [List.length_drop, List.length_take, h.1]; simp [Sl.sub]; omega, fun i x hx => ?_⟩⟩
  rw [List.getElem?_drop] at hx
  have hlt := (List.getElem?_eq_some_iff.1 hx).1
  rw [List.length_take] at hlt
  rw [List.getElem?_take_of_lt (by omega)] at hx
  obtain ⟨b, o, ha, hc⟩ := h.2 _ x hx
  refine ⟨b, o + lo.toNat, ?_, fun L w hw => by rw [Nat.add_assoc]; exact hc L w hw⟩
  simp only [Sl.sub, ha, Option.map_some, Nat.mul_one]
  rw [if_neg (by omega), Addr.add_lit]
theorem wf_u8 {x : Int} (h : (Lit.int .u8 x).wf = true) : 0 ≤ x ∧ x ≤ 255 := by simpa [Lit.wf, IntKind.min, IntKind.max, IntKind.signed, IntKind.bits] using h
theorem wf_i64 {x : Int} (h : (Lit.int .i64 x).wf = true) : -9223372036854775808 ≤ x ∧ x ≤ 9223372036854775807 := by simpa [Lit.wf, IntKind.min, IntKind.max, IntKind.signed, IntKind.bits] using h
theorem wf_u32 {x : Int} (h : (Lit.int .u32 x).wf = true) : 0 ≤ x ∧ x ≤ 4294967295 := by simpa [Lit.wf, IntKind.min, IntKind.max, IntKind.signed, IntKind.bits] using h
theorem ArgI.u8 {e s xs} (h : ArgI .u8 e s xs) {x : Int} (hx : x ∈ xs) : 0 ≤ x ∧ x ≤ 255 := by
  have := h.wf x hx
  simpa [Lit.wf, IntKind.min, IntKind.max, IntKind.signed, IntKind.bits] using this
theorem ArgI.i64 {e s xs} (h : ArgI .i64 e s xs) {x : Int} (hx : x ∈ xs) : -9223372036854775808 ≤ x ∧ x ≤ 9223372036854775807 := by
  have := h.wf x hx
  simpa [Lit.wf, IntKind.min, IntKind.max, IntKind.signed, IntKind.bits] using this
section
variable {e : World} {L : List SP} {w : World} {s : Sl}
theorem ix_arg {k : IntKind} {xs : List Int} {i : Int} {f : Nat → Nat → Prop} (h : ArgI k e s xs) (h0 : 0 ≤ i) (h1 : i < s.len)
    (kk : ∀ b o x, xs[i.toNat]? = some x → (∀ w', (∃ L', Ok e (old e :: L') w') → w'.cell? ⟨b, o, none⟩ = some (.int k x)) → f b o) : ix s i 1 f := by
  have hlt : i.toNat < xs.length := by rw [h.len]; omega
  obtain ⟨b, o, ha, hb, hc⟩ := h.cell i.toNat _ (List.getElem?_eq_getElem hlt)
  refine ⟨b, o, ha, h0, h1, kk b _ _ (List.getElem?_eq_getElem hlt) ?_⟩
  rintro w' ⟨L', h'⟩
  rw [h'.old_cell (a := ⟨b, o + i.toNat * 1, none⟩) hb, Nat.mul_one]; exact hc
theorem ix_args {sz : Nat} {vs : List Value} {i : Int} {f : Nat → Nat → Prop} (h : ArgS sz e s vs) (hsz : 0 < sz) (h0 : 0 ≤ i) (h1 : i < s.len)
    (kk : ∀ b o, (∀ j v, j < sz → vs[i.toNat * sz + j]? = some v → ∀ w', (∃ L', Ok e (old e :: L') w') → w'.cell? ⟨b, o + j, none⟩ = some v) → f b o) : ix s i sz f := by
  have hlt : i.toNat * sz < vs.length := by
    rw [h.len]
    exact Nat.mul_lt_mul_of_pos_right (by omega) hsz
  obtain ⟨b, o, ha, hb, hc⟩ := h.cell (i.toNat * sz) _ (List.getElem?_eq_getElem hlt)
  refine ⟨b, o, ha, h0, h1, kk b _ fun j v hj hv w' ⟨L', h'⟩ => ?_⟩
  obtain ⟨b', o', ha', hb', hc'⟩ := h.cell _ _ hv
  rw [ha] at ha'; cases ha'
  rw [h'.old_cell (a := ⟨b, o + i.toNat * sz + j, none⟩) hb, Nat.add_assoc]; exact hc'
theorem law_calls {P : Program} {f : FuncId} {fn : Func} {pl : Plan} {args : List Value} {w : World} {S : Prop} (hf : P.funcs[f]? = some fn)
    (tie : compF P fn pl args (fun vs w' => vs = [.bool true] ∧ Ok w [old w] w') w = S) (h : S) :
    Calls P f args.toArray w fun e w' => e = .returned (.bool true) ∧ Go.RowKit.Below w.heap.size w w' := by
  rw [← tie] at h
  refine Calls.mono (calls_of hf h) ?_
  rintro e w' ⟨vs, rfl, rfl, hok⟩
  exact ⟨rfl, hok.below⟩
end
end Go.Proofs.YtenonfkfoedfmaaGreatDoor.B


/- TopDelays: the walk. -/
namespace Go.Proofs.YtenonfkfoedfmaaGreatDoor.B
open Go
set_option linter.unusedVariables false

end Go.Proofs.YtenonfkfoedfmaaGreatDoor.B


/- TopNobody. -/
namespace Go.Proofs.YtenonfkfoedfmaaGreatDoor.B
open Go
set_option linter.unusedVariables false

def spI (x : Int) : Bool := decide (x = 4 ∨ x = 8 ∨ x = 9 ∨ x = 10 ∨ x = 11 ∨ x = 12 ∨ x = 13 ∨ x = 22 ∨ x = 51 ∨ x = 52)

theorem spN_I {n : Nat} (h : spI (n : Int) = false) : spN n = false := by
  have h := of_decide_eq_false h
  unfold spN
  simp
  omega

theorem sp_in {a0 c : Int} {J : TK [kB] → World → Prop} {w : World} (hJ : J (spI a0, ()) w) (h : (a0 == c) = true) (hc : spI c = true) : J (true, ()) w := by
  have : a0 = c := by simpa using h
  rw [this, hc] at hJ
  exact hJ

set_option maxHeartbeats 1000000 in
theorem nobody_walk {e L w a0 x0 x1 x2 x3 R} (tb : TabE e) (h : Ok e (old e :: L) w) (kk : ∀ w', Ok e (old e :: L) w' → R [.bool true] w') : sh15 a0 (x0, x1, x2, x3, ()) R w := by
  unfold sh15
  refine al.mk h fun b1 w2 h => ?_
  have h := h.p1
  refine call17 (known_top tb h fun w1 h => ⟨(true, ()), rfl, cs.no rfl ?_⟩)
  have kk : ∀ w', Ok e (old e :: pts b1 [.int .i64 x0, .int .i64 x1, .int .i64 x2, .int .i64 x3] :: L) w' → R [.bool true] w' := fun w' h => kk w' h.p1.drop
  have h : Ok e (old e :: pts b1 [.int .i64 x0, .int .i64 x1, .int .i64 x2, .int .i64 x3] :: L) w1 := h
  refine jn.bool (decide (a0 < 1 ∨ a0 > 56)) (fun J hJ => cs.mk (fun hc => ?_) (fun hc => ?_)) (cs.mk (fun hc => kk _ h) (fun hr => ?_))
  · have hc : a0 < 1 := of_decide_eq_true hc
    rw [decide_eq_true (.inl hc)] at hJ
    exact hJ
  · have hc : ¬ a0 < 1 := of_decide_eq_false hc
    rw [show decide (a0 < 1 ∨ a0 > 56) = decide (a0 > 56) from decide_eq_decide.2 (by omega)] at hJ
    exact hJ
  have hr : ¬ (a0 < 1 ∨ a0 > 56) := of_decide_eq_false hr
  refine jn.bool (spI a0) (fun J hJ => ?_) (cs.mk (fun hc => kk _ h) (fun hs => ?_))
  · refine cs.mk (fun c => sp_in hJ c rfl) (fun c1 => jn.bool (spI a0) (fun J1 hJ1 => ?_) hJ)
    refine cs.mk (fun c => sp_in hJ1 c rfl) (fun c2 => jn.bool (spI a0) (fun J2 hJ2 => ?_) hJ1)
    refine cs.mk (fun c => sp_in hJ2 c rfl) (fun c3 => jn.bool (spI a0) (fun J3 hJ3 => ?_) hJ2)
    refine cs.mk (fun c => sp_in hJ3 c rfl) (fun c4 => jn.bool (spI a0) (fun J4 hJ4 => ?_) hJ3)
    refine cs.mk (fun c => sp_in hJ4 c rfl) (fun c5 => jn.bool (spI a0) (fun J5 hJ5 => ?_) hJ4)
    refine cs.mk (fun c => sp_in hJ5 c rfl) (fun c6 => jn.bool (spI a0) (fun J6 hJ6 => ?_) hJ5)
    refine cs.mk (fun c => sp_in hJ6 c rfl) (fun c7 => jn.bool (spI a0) (fun J7 hJ7 => ?_) hJ6)
    refine cs.mk (fun c => sp_in hJ7 c rfl) (fun c8 => jn.bool (spI a0) (fun J8 hJ8 => ?_) hJ7)
    refine cs.mk (fun c => sp_in hJ8 c rfl) (fun c9 => ?_)
    have e1 : ¬ a0 = 4 := by simpa using c1
    have e2 : ¬ a0 = 8 := by simpa using c2
    have e3 : ¬ a0 = 9 := by simpa using c3
    have e4 : ¬ a0 = 10 := by simpa using c4
    have e5 : ¬ a0 = 11 := by simpa using c5
    have e6 : ¬ a0 = 12 := by simpa using c6
    have e7 : ¬ a0 = 13 := by simpa using c7
    have e8 : ¬ a0 = 22 := by simpa using c8
    have e9 : ¬ a0 = 51 := by simpa using c9
    rw [show spI a0 = (a0 == 52) by
      unfold spI
      rw [show (a0 == 52) = decide (a0 = 52) from rfl]
      exact decide_eq_decide.2 (by omega)] at hJ8
    exact hJ8
  obtain ⟨n, rfl⟩ : ∃ n : Nat, a0 = (n : Int) := ⟨a0.toNat, by omega⟩
  have hs : spN n = false := spN_I hs
  have hn : 1 ≤ n ∧ n ≤ 56 := by omega
  obtain ⟨a, kd, hak, ha, hkd⟩ := ak_get hn.1 hn.2 hs
  refine ⟨by decide, by decide, ldI.mk (h.p1.cell rfl) ?_⟩
  refine jn.bool (decide (1 ≤ x0 ∧ x0 ≤ 8)) (fun J hJ => cs.mk (fun hc => ?_) (fun hc => ?_)) (jn.bool (decide ((1 ≤ x0 ∧ x0 ≤ 8) ∨ (x0 = 0 ∧ n < 23))) (fun J hJ => cs.mk (fun hc => ?_) (fun hc => ⟨by decide, by decide, ldI.mk (h.p1.cell rfl) (jn.bool (decide ((1 ≤ x0 ∧ x0 ≤ 8) ∨ (x0 = 0 ∧ n < 23))) (fun J2 hJ2 => cs.mk (fun hc2 => ?_) (fun hc2 => ?_)) hJ)⟩)) (cs.mk (fun hc => kk _ h) (fun hx => ?_)))
  · have hc : x0 ≥ 1 := of_decide_eq_true hc
    refine ⟨by decide, by decide, ldI.mk (h.p1.cell rfl) ?_⟩
    rw [show decide (1 ≤ x0 ∧ x0 ≤ 8) = decide (x0 ≤ 8) from decide_eq_decide.2 (by omega)] at hJ
    exact hJ
  · have hc : ¬ x0 ≥ 1 := of_decide_eq_false hc
    rw [decide_eq_false (by omega)] at hJ
    exact hJ
  · have hc := of_decide_eq_true hc
    rw [decide_eq_true (.inl hc)] at hJ
    exact hJ
  · have hc := of_decide_eq_false hc
    have hc2 : x0 = 0 := by simpa using hc2
    rw [show decide ((1 ≤ x0 ∧ x0 ≤ 8) ∨ (x0 = 0 ∧ n < 23)) = decide ((n : Int) < 23) from decide_eq_decide.2 (by omega)] at hJ2
    exact hJ2
  · have hc := of_decide_eq_false hc
    have hc2 : ¬ x0 = 0 := by simpa using hc2
    rw [decide_eq_false (by omega)] at hJ2
    exact hJ2
  have hx : ¬ ((1 ≤ x0 ∧ x0 ≤ 8) ∨ (x0 = 0 ∧ n < 23)) := of_decide_eq_false hx
  refine al.mk h fun b24 w3 h => ?_
  refine call18 (a0 := ⟨some ⟨b24, 0, none⟩, 1, 1⟩) (tasks_top (l := [3]) (slcOf (l := [3]) h) (by simp) fun x w2 h => ⟨(((1 : Int), x, nilS, nilS, nilS, nilS, nilS, nilS, (0 : Int), ()), ()), rfl, ?_⟩)
  refine call19 (a0 := cfV Nob.cf ⟨x, nilS, nilS, nilS, nilS⟩) (open_top tb (conf_tasks 1 h) (by decide) Nob.start fun k A w3 h => ⟨(some ⟨k, 0, none⟩, ()), rfl, cs.no rfl ?_⟩)
  have h : Ok e (kerP k A (Nob.KN []) :: old e :: pts b1 [.int .i64 x0, .int .i64 x1, .int .i64 x2, .int .i64 x3] :: L) w3 := (h.emb (by repeat' (first | with_reducible exact Emb.same _ | exact Emb.nil _ | refine Emb.cons (by with_reducible first | exact sl0 | exact .there sl0 | exact .there sl1 | exact .there sl2 | exact .there sl3 | exact .there sl4 | exact .there sl5 | exact .there sl6 | exact .there sl7 | exact .there sl8 | exact .there sl9 | exact .there sl10 | exact .there sl11 | exact .there sl12) ?_ | refine Emb.skip ?_)))
  refine ldI.mk (h.p2.cell rfl) (ldI.mk (h.p2.cell rfl) (ldI.mk (h.p2.cell rfl) (ldI.mk (h.p2.cell rfl) ?_)))
  have fin : ∀ w', (∃ b36, Ok e (pts b36 [.int .i64 (-18), .int .i64 0] :: kerP k A (Nob.KN []) :: old e :: pts b1 [.int .i64 x0, .int .i64 x1, .int .i64 x2, .int .i64 x3] :: L) w') → True := fun _ _ => trivial
  have bd : ∀ (lv : List Int), (Nob.KN lv).us.length ≤ 8 ∧ (Nob.KN lv).sems.length ≤ 8 ∧ (Nob.KN lv).datas.length ≤ 8 ∧ (Nob.KN lv).pools.length ≤ 8 ∧ (Nob.KN lv).mm.m.length ≤ 9 := fun lv => by
    show (1 : Nat) ≤ 8 ∧ (0 : Nat) ≤ 8 ∧ (0 : Nat) ≤ 8 ∧ (0 : Nat) ≤ 8 ∧ (1 : Nat) ≤ 9
    omega
  by_cases h3 : kd = 3
  · subst h3
    refine call41 (a1 := ((n : Int), x0, x1, x2, x3, ())) (Do_bad tb h hak ha hn.1 hn.2 hs (by omega) (by omega) (bd []).1 (bd []).2 Nob.call3 fun w4 h => ⟨(((-25 : Int), (0 : Int), ()), ()), rfl, ?_⟩)
    refine al.mk h fun b36 w5 h => st1.mk h (by simp) fun w5 h => st1.mk h (by simp) fun w5 h => ?_
    refine call42 (a0 := ((n : Int), (0 : Int), (0 : Int), (0 : Int), (0 : Int), ())) (Kind_calls h hak hn.1 fun w6 h => ⟨((3 : Int), ()), rfl, ?_⟩)
    refine jn.at (t := ()) (fun w' => Ok e (pts b36 [.int .i64 (-18), .int .i64 0] :: kerP k A (Nob.KN []) :: old e :: pts b1 [.int .i64 x0, .int .i64 x1, .int .i64 x2, .int .i64 x3] :: L) w') (fun J hJ => cs.yes rfl (ldI.mk (h.cell rfl) (cs.no rfl ?_))) (fun w7 h => ?_)
    · have h : Ok e (pts b36 [.int .i64 (-25), .int .i64 0] :: kerP k A (Nob.KN []) :: old e :: pts b1 [.int .i64 x0, .int .i64 x1, .int .i64 x2, .int .i64 x3] :: L) w6 := h
      have h : Ok e (kerP k A (Nob.KN []) :: old e :: pts b36 [.int .i64 (-25), .int .i64 0] :: pts b1 [.int .i64 x0, .int .i64 x1, .int .i64 x2, .int .i64 x3] :: L) w6 := (h.emb (by repeat' (first | with_reducible exact Emb.same _ | exact Emb.nil _ | refine Emb.cons (by with_reducible first | exact sl0 | exact .there sl0 | exact .there sl1 | exact .there sl2 | exact .there sl3 | exact .there sl4 | exact .there sl5 | exact .there sl6 | exact .there sl7 | exact .there sl8 | exact .there sl9 | exact .there sl10 | exact .there sl11 | exact .there sl12) ?_ | refine Emb.skip ?_)))
      refine call39 (Int_kern (lev := 1) tb h (by decide) fun w7 h => ⟨((0 : Int), ()), rfl, ?_⟩)
      rw [Nob.intr] at h
      refine ldI.mk (h.p3.cell rfl) (ldI.mk (h.p3.cell rfl) (ldI.mk (h.p3.cell rfl) (ldI.mk (h.p3.cell rfl) ?_)))
      refine call41 (a1 := ((n : Int), x0, x1, x2, x3, ())) (Do_bad tb h hak ha hn.1 hn.2 hs (by omega) (by omega) (bd [1]).1 (bd [1]).2 Nob.call3i fun w4 h => ⟨(((-18 : Int), (0 : Int), ()), ()), rfl, ?_⟩)
      refine st1.mk h.p2 (by simp) fun w5 h => st1.mk h (by simp) fun w5 h => ?_
      have h : Ok e (pts b36 [.int .i64 (-18), .int .i64 0] :: kerP k A (Nob.KN [1]) :: old e :: pts b1 [.int .i64 x0, .int .i64 x1, .int .i64 x2, .int .i64 x3] :: L) w5 := h
      have h : Ok e (kerP k A (Nob.KN [1]) :: old e :: pts b36 [.int .i64 (-18), .int .i64 0] :: pts b1 [.int .i64 x0, .int .i64 x1, .int .i64 x2, .int .i64 x3] :: L) w5 := (h.emb (by repeat' (first | with_reducible exact Emb.same _ | exact Emb.nil _ | refine Emb.cons (by with_reducible first | exact sl0 | exact .there sl0 | exact .there sl1 | exact .there sl2 | exact .there sl3 | exact .there sl4 | exact .there sl5 | exact .there sl6 | exact .there sl7 | exact .there sl8 | exact .there sl9 | exact .there sl10 | exact .there sl11 | exact .there sl12) ?_ | refine Emb.skip ?_)))
      refine call40 (Ret_kern tb h (by decide) fun w7 h => ⟨((0 : Int), ()), rfl, hJ w7 ?_⟩)
      rw [Nob.retn] at h
      exact (h.emb (by repeat' (first | with_reducible exact Emb.same _ | exact Emb.nil _ | refine Emb.cons (by with_reducible first | exact sl0 | exact .there sl0 | exact .there sl1 | exact .there sl2 | exact .there sl3 | exact .there sl4 | exact .there sl5 | exact .there sl6 | exact .there sl7 | exact .there sl8 | exact .there sl9 | exact .there sl10 | exact .there sl11 | exact .there sl12) ?_ | refine Emb.skip ?_)))
    · refine ldI.mk (h.cell rfl) (jn.mk fun J1 hJ1 => cs.yes rfl (ldI.mk (h.cell rfl) (hJ1 _ _ ?_)))
      refine jn.mk fun J2 hJ2 => cs.yes rfl (call21 (Running_kern h.p1 ⟨((1 : Int), ()), rfl, hJ2 _ _ ?_⟩))
      exact kk w7 h.drop.drop
  · refine call41 (a1 := ((n : Int), x0, x1, x2, x3, ())) (Do_bad tb h hak ha hn.1 hn.2 hs (by omega) (by omega) (bd []).1 (bd []).2 (Nob.call12 (by omega)) fun w4 h => ⟨(((-18 : Int), (0 : Int), ()), ()), rfl, ?_⟩)
    refine al.mk h fun b36 w5 h => st1.mk h (by simp) fun w5 h => st1.mk h (by simp) fun w5 h => ?_
    refine call42 (a0 := ((n : Int), (0 : Int), (0 : Int), (0 : Int), (0 : Int), ())) (Kind_calls h hak hn.1 fun w6 h => ⟨(kd, ()), rfl, ?_⟩)
    refine jn.mk fun J hJ => cs.no (by simpa using h3) (hJ _ _ (ldI.mk (h.cell rfl) (jn.mk fun J1 hJ1 => cs.yes rfl (ldI.mk (h.cell rfl) (hJ1 _ _ ?_)))))
    refine jn.mk fun J2 hJ2 => cs.yes rfl (call21 (Running_kern h.p1 ⟨((1 : Int), ()), rfl, hJ2 _ _ ?_⟩))
    exact kk w6 h.drop.drop

theorem TopNobody_walk {W a0 x0 x1 x2 x3} (tb : TabE W) (_ : (Lit.int .i64 a0).wf = true) (_ : (Lit.int .i64 x0).wf = true) (_ : (Lit.int .i64 x1).wf = true) (_ : (Lit.int .i64 x2).wf = true) (_ : (Lit.int .i64 x3).wf = true) :
    sh15 a0 (x0, x1, x2, x3, ()) (fun vs w' => vs = [.bool true] ∧ Ok W [old W] w') W :=
  nobody_walk tb (Ok.start W) fun w' h => ⟨rfl, h⟩

end Go.Proofs.YtenonfkfoedfmaaGreatDoor.B


/- What the rows of the whole lay: the library's table. -/
namespace Go.Proofs.YtenonfkfoedfmaaGreatDoor.B
open Go
open Go.ChangeShapes Go.WideShapes Go.ChangeAt Go.RowKit
set_option linter.unusedVariables false

abbrev laidL : List (String × DataW Unit) := [("math/bits.deBruijn64tab", Rows.laid_math_bits_deBruijn64tab)]

theorem gTab : Tryz.prog.globalNamed "math/bits.deBruijn64tab" = some 0 := by kernel_rfl

theorem tTab : (Tryz.prog.globals[0]?).map (·.type) = some 339 := by kernel_rfl

theorem uTab : Tryz.prog.underlying 339 = some (.array 64 5) := by kernel_rfl

theorem uU8 : Tryz.prog.underlying 5 = some (.int .u8) := by kernel_rfl

theorem door_met (os : Os) (args : Array Value) : laidMetH Tryz.prog laidL ((World.doorLaid Tryz.prog 400 os).forCall (fun _ _ => 0) ⟨#[], args, []⟩).memory :=
  laidMetH_of_parts3 (fuel := 8) (laidMet_of_run' 8 (by kernel_rfl) (by kernel_rfl)) (by kernel_rfl) (by kernel_rfl)

theorem of_laid {W : World} (h : laidMetH Tryz.prog laidL W) : TabE W := by
  rw [MakeChecks.laidMetH_plain _ _ _ (by kernel_rfl)] at h
  obtain ⟨ps, ⟨g0, t0, cs0, f0, p0, q0, hg0, ht0, hv0, hd0, _⟩, _, _⟩ := h
  obtain rfl := Option.some.inj (gTab.symm.trans hg0)
  obtain rfl := Option.some.inj (tTab.symm.trans ht0)
  obtain ⟨xs, m1, rfl, hx1, hlen, hn3, hel⟩ := DataW.trod_array uTab hd0
  have c1 : Tryz.prog.cellsOf 5 = 1 := by kernel_rfl
  rw [c1] at hel
  have hx2 : (tzTab.map fun v => (DataW.lit (.int .u8 v) : DataW Unit)) = xs.map (·.1) := by
    have := congrArg Prod.fst hx1
    exact (DataW.agg.injEq _ _).mp this
  refine ⟨fun j v hv => ?_, ?_⟩
  · have hj : j < 64 := (List.getElem?_eq_some_iff.1 hv).1
    have h1 : (xs.map (·.1))[j]? = some (DataW.lit (.int .u8 v)) := by rw [← hx2, List.getElem?_map, hv]; rfl
    rw [List.getElem?_map] at h1
    obtain ⟨x, hx, hxe⟩ := Option.map_eq_some_iff.1 h1
    have h2 := hel j hj
    rw [hx] at h2
    obtain ⟨n, e1, e2, _⟩ := DataW.trod_int uU8 h2
    have hnv : n = v := by
      rw [e2] at hxe
      simpa using hxe
    subst hnv
    rw [World.var?_cell hg0 hv0 j]
    have h3 : (cs0.toList.drop j)[0]? = some (.int .u8 n) := by
      rw [Nat.mul_one] at e1
      have : ((cs0.toList.drop j).take 1)[0]? = some (.int .u8 n) := by rw [e1]; rfl
      simpa using this
    rw [List.getElem?_drop] at h3
    simpa using h3
  · have := World.var?_cell hg0 hv0 0
    unfold World.var? at hv0
    rw [hg0, Option.bind_some] at hv0
    apply Nat.lt_of_not_le
    intro hc
    rw [Array.getElem?_eq_none hc] at hv0
    cases hv0

/-! ### what a row asks of the program -/
theorem and_i {a b : Bool} (h1 : a = true) (h2 : b = true) : (a && b) = true := by rw [h1, h2]; rfl

theorem pf1 : (laidOutB Tryz.prog) = true := by kernel_rfl

theorem pf2 : (mapsRowed Tryz.prog) = true := by kernel_rfl

theorem pf5 : ((Rows.topDelaysRow.stops == [])) = true := by kernel_rfl

theorem pf6 : ((Tryz.prog.stops == [])) = true := by kernel_rfl

theorem pf7 : ((Rows.topDelaysRow.knobs == [])) = true := by kernel_rfl

theorem pf8 : ((Tryz.prog.stopKnobs == [])) = true := by kernel_rfl

theorem pf22 : ((Rows.topDelaysRow.plainKeys == Tryz.prog.plainKeys)) = true := by kernel_rfl

theorem pf23 : (Rows.topDelaysRow.shortTexts.isNone) = true := by kernel_rfl

theorem pf24 : (Tryz.prog.stopsHeard) = true := by kernel_rfl

theorem pf25 : (Tryz.prog.mayEnter) = true := by kernel_rfl

theorem pf26 : ((Rows.topDelaysRow.lifted == Tryz.prog.liftsFinal)) = true := by kernel_rfl

theorem pf27 : ((Tryz.prog.make == some Rows.topDelaysRow.make)) = true := by kernel_rfl

end Go.Proofs.YtenonfkfoedfmaaGreatDoor.B

