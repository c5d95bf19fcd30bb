/- Laws of layer 19: what is known; the first gap is taken. -/
import Derived.Test.YtnghegppcogdbaaMpl5
import Derived.Test.YtnghegppcogdbaaRow
namespace Go.Proofs.Ytnghegppcogdbaa.B
open Go
set_option linter.unusedVariables false

/-- what a law ends with -/
abbrev LawEnd (e : World) : List Value → World → Prop := fun vs w' => vs = [.bool true] ∧ Ok e [old e] w'

theorem ix_wok {e w L s o} {i : Nat} {p : Int × Int} {f : Nat → Nat → Prop} (h : Ok e (slc 2 s (prs o) :: L) w) (hp : o[i]? = some p)
    (k : ∀ c d, (∀ w', (∃ L', Ok e (slc 2 s (prs o) :: L') w') → w'.cell? ⟨c, d, none⟩ = some (.int .i64 p.1)) → (∀ w', (∃ L', Ok e (slc 2 s (prs o) :: L') w') → w'.cell? ⟨c, d + 1, none⟩ = some (.int .i64 p.2)) → f c d) : ix s i 2 f := by
  have hlt := (List.getElem?_eq_some_iff.1 hp).1
  refine ix_pr h (Int.natCast_nonneg _) (by omega) fun c d y hy _ _ c1 c2 => ?_
  rw [Int.toNat_natCast, hp] at hy
  cases hy
  exact k c d c1 c2

set_option maxHeartbeats 2000000 in
theorem known_19 {e w L R} (h : Ok e L w) (k : ∀ w', Ok e L w' → R [.bool true] w') : sh7 R w := by
  unfold sh7
  refine call8 (New_mpl h (fun h0 => absurd (by decide) h0) fun hg b w1 h => ⟨(some ⟨b, 0, none⟩, (0 : Int), ()), rfl, ?_⟩)
  have o0 := lp0_ok hg
  obtain ⟨g0, hg0⟩ : ∃ g0 : Int → Int, g0 = fun _ => 0 := ⟨_, rfl⟩
  obtain ⟨g1, hg1⟩ : ∃ g1 : Int → Int, g1 = fun i => if i = 3 then 20 else g0 i := ⟨_, rfl⟩
  have hg3 : g1 3 = 20 := by rw [hg1]; rfl
  rw [← hg0] at h o0
  have e1 : LP.get 0 48 false ⟨[], [], g0⟩ 1 5 10 = ((8, true, 0), ⟨[], [(0, 10)], g0⟩) := by rfl
  have e2 : LP.get 0 48 false ⟨[], [(0, 10)], g0⟩ 2 5 8 = ((32, true, 0), ⟨[], [(0, 10), (24, 8)], g0⟩) := by rfl
  have e3 : LP.get 0 48 false ⟨[], [(0, 10), (24, 8)], g0⟩ 3 5 20 = ((0, false, 0), ⟨[(3, 5)], [(0, 10), (24, 8)], g1⟩) := by rw [hg1]; rfl
  have e4 : LP.put 0 48 ⟨[(3, 5)], [(0, 10), (24, 8)], g1⟩ 8 = (([], 0), ⟨[(3, 5)], [(24, 8)], g1⟩) := by rw [hg1]; rfl
  have e5 : LP.put 0 48 ⟨[(3, 5)], [(24, 8)], g1⟩ 32 = (([(3, 8)], 0), ⟨[], [(0, 20)], g1⟩) := by rw [hg1]; rfl
  clear hg0 hg1 hg3
  refine jn.bool false (fun J hJ => cs.no rfl hJ) ?_
  refine jn.at (false, ()) (fun w' => Ok e (mplP b false 0 48 ⟨[], [], g0⟩ :: L) w') (fun J hJ => cs.no rfl ?_) (fun w2 h => ?_)
  · have h0 := h
    obtain ⟨p, s, m, f, hf, hs, h⟩ := mplE h
    refine nn.mk (ldP.mk (by refine Ok.cellS h (by with_reducible first | exact sl0 | exact .there sl0 | exact .there sl1 | exact .there sl2 | exact .there sl3 | exact .there sl4 | exact .there sl5 | exact .there sl6 | exact .there sl7 | exact .there sl8 | exact .there sl9 | exact .there sl10 | exact .there sl11 | exact .there sl12) ?_; rfl) ?_)
    exact hJ _ h0
  refine cs.no rfl ?_
  refine call13 (Get_mpl h o0 fun w3 h => ⟨((8 : Int), true, (0 : Int), ()), by rw [e1]; rfl, ?_⟩)
  have o1 := lget_ok (byPri := false) (task := 1) (pri := 5) (n := 10) o0
  rw [e1] at h o1
  refine call13 (Get_mpl h o1 fun w3 h => ⟨((32 : Int), true, (0 : Int), ()), by dsimp only; rw [e2]; rfl, ?_⟩)
  have o2 := lget_ok (byPri := false) (task := 2) (pri := 5) (n := 8) o1
  dsimp only at h o2
  rw [e2] at h o2
  refine call13 (Get_mpl h o2 fun w3 h => ⟨((0 : Int), false, (0 : Int), ()), by dsimp only; rw [e3]; rfl, ?_⟩)
  have o3 := lget_ok (byPri := false) (task := 3) (pri := 5) (n := 20) o2
  dsimp only at h o3
  rw [e3] at h o3
  refine call10 (Free_mpl h o3 fun w4 h => ⟨((8 : Int), (0 : Int), ()), rfl, ?_⟩)
  refine call11 (Put_mpl h o3 fun r1 w5 hr1 h => ⟨(r1, (0 : Int), ()), by dsimp only; rw [e4]; rfl, ?_⟩)
  have o4 := lput_ok (x := 8) o3
  dsimp only at h o4 hr1
  rw [e4] at h o4 hr1
  refine call11 (Put_mpl h.p1 o4 fun r2 w6 hr2 h => ⟨(r2, (0 : Int), ()), by dsimp only; rw [e5]; rfl, ?_⟩)
  have o5 := lput_ok (x := 32) o4
  dsimp only at h o5 hr2
  rw [e5] at h o5 hr2
  dsimp only at h o5 hr1 hr2 ⊢
  have hr1 : r1.len = 0 := hr1
  have hr2 : r2.len = 1 := hr2
  rw [hr1, hr2]
  refine jn.bool true (fun J hJ => cs.yes (by first | rfl | simp) (by (repeat (first | with_reducible refine dr.mk h fun _ h => ?_ | with_reducible refine nn.mk ?_ | ((first | with_reducible apply ldI.mk | with_reducible apply ldB.mk | with_reducible apply ldP.mk | with_reducible apply ldS.mk | with_reducible apply ldM.mk | with_reducible apply ldF.mk | with_reducible apply ldG.mk); (· exact (by refine Ok.cellS h (by with_reducible first | exact sl0 | exact .there sl0 | exact .there sl1 | exact .there sl2 | exact .there sl3 | exact .there sl4 | exact .there sl5 | exact .there sl6 | exact .there sl7 | exact .there sl8 | exact .there sl9 | exact .there sl10 | exact .there sl11 | exact .there sl12) ?_; rfl))) | (refine st1.mk (Ok.bring h (by with_reducible first | exact sl0 | exact .there sl0 | exact .there sl1 | exact .there sl2 | exact .there sl3 | exact .there sl4 | exact .there sl5 | exact .there sl6 | exact .there sl7 | exact .there sl8 | exact .there sl9 | exact .there sl10 | exact .there sl11 | exact .there sl12)) (by simp) fun _ h => ?_; dsimp only [List.set] at h))); exact hJ)) ?_
  refine jn.bool true (fun J hJ => cs.yes (by first | rfl | simp) (by (repeat (first | with_reducible refine dr.mk h fun _ h => ?_ | with_reducible refine nn.mk ?_ | ((first | with_reducible apply ldI.mk | with_reducible apply ldB.mk | with_reducible apply ldP.mk | with_reducible apply ldS.mk | with_reducible apply ldM.mk | with_reducible apply ldF.mk | with_reducible apply ldG.mk); (· exact (by refine Ok.cellS h (by with_reducible first | exact sl0 | exact .there sl0 | exact .there sl1 | exact .there sl2 | exact .there sl3 | exact .there sl4 | exact .there sl5 | exact .there sl6 | exact .there sl7 | exact .there sl8 | exact .there sl9 | exact .there sl10 | exact .there sl11 | exact .there sl12) ?_; rfl))) | (refine st1.mk (Ok.bring h (by with_reducible first | exact sl0 | exact .there sl0 | exact .there sl1 | exact .there sl2 | exact .there sl3 | exact .there sl4 | exact .there sl5 | exact .there sl6 | exact .there sl7 | exact .there sl8 | exact .there sl9 | exact .there sl10 | exact .there sl11 | exact .there sl12)) (by simp) fun _ h => ?_; dsimp only [List.set] at h))); exact hJ)) ?_
  refine jn.bool true (fun J hJ => cs.yes (by first | rfl | simp) (by (repeat (first | with_reducible refine dr.mk h fun _ h => ?_ | with_reducible refine nn.mk ?_ | ((first | with_reducible apply ldI.mk | with_reducible apply ldB.mk | with_reducible apply ldP.mk | with_reducible apply ldS.mk | with_reducible apply ldM.mk | with_reducible apply ldF.mk | with_reducible apply ldG.mk); (· exact (by refine Ok.cellS h (by with_reducible first | exact sl0 | exact .there sl0 | exact .there sl1 | exact .there sl2 | exact .there sl3 | exact .there sl4 | exact .there sl5 | exact .there sl6 | exact .there sl7 | exact .there sl8 | exact .there sl9 | exact .there sl10 | exact .there sl11 | exact .there sl12) ?_; rfl))) | (refine st1.mk (Ok.bring h (by with_reducible first | exact sl0 | exact .there sl0 | exact .there sl1 | exact .there sl2 | exact .there sl3 | exact .there sl4 | exact .there sl5 | exact .there sl6 | exact .there sl7 | exact .there sl8 | exact .there sl9 | exact .there sl10 | exact .there sl11 | exact .there sl12)) (by simp) fun _ h => ?_; dsimp only [List.set] at h))); exact hJ)) ?_
  refine jn.bool true (fun J hJ => cs.yes (by first | rfl | simp) (by (repeat (first | with_reducible refine dr.mk h fun _ h => ?_ | with_reducible refine nn.mk ?_ | ((first | with_reducible apply ldI.mk | with_reducible apply ldB.mk | with_reducible apply ldP.mk | with_reducible apply ldS.mk | with_reducible apply ldM.mk | with_reducible apply ldF.mk | with_reducible apply ldG.mk); (· exact (by refine Ok.cellS h (by with_reducible first | exact sl0 | exact .there sl0 | exact .there sl1 | exact .there sl2 | exact .there sl3 | exact .there sl4 | exact .there sl5 | exact .there sl6 | exact .there sl7 | exact .there sl8 | exact .there sl9 | exact .there sl10 | exact .there sl11 | exact .there sl12) ?_; rfl))) | (refine st1.mk (Ok.bring h (by with_reducible first | exact sl0 | exact .there sl0 | exact .there sl1 | exact .there sl2 | exact .there sl3 | exact .there sl4 | exact .there sl5 | exact .there sl6 | exact .there sl7 | exact .there sl8 | exact .there sl9 | exact .there sl10 | exact .there sl11 | exact .there sl12)) (by simp) fun _ h => ?_; dsimp only [List.set] at h))); exact hJ)) ?_
  refine jn.bool true (fun J hJ => cs.yes (by first | rfl | simp) (by (repeat (first | with_reducible refine dr.mk h fun _ h => ?_ | with_reducible refine nn.mk ?_ | ((first | with_reducible apply ldI.mk | with_reducible apply ldB.mk | with_reducible apply ldP.mk | with_reducible apply ldS.mk | with_reducible apply ldM.mk | with_reducible apply ldF.mk | with_reducible apply ldG.mk); (· exact (by refine Ok.cellS h (by with_reducible first | exact sl0 | exact .there sl0 | exact .there sl1 | exact .there sl2 | exact .there sl3 | exact .there sl4 | exact .there sl5 | exact .there sl6 | exact .there sl7 | exact .there sl8 | exact .there sl9 | exact .there sl10 | exact .there sl11 | exact .there sl12) ?_; rfl))) | (refine st1.mk (Ok.bring h (by with_reducible first | exact sl0 | exact .there sl0 | exact .there sl1 | exact .there sl2 | exact .there sl3 | exact .there sl4 | exact .there sl5 | exact .there sl6 | exact .there sl7 | exact .there sl8 | exact .there sl9 | exact .there sl10 | exact .there sl11 | exact .there sl12)) (by simp) fun _ h => ?_; dsimp only [List.set] at h))); exact hJ)) ?_
  refine jn.bool true (fun J hJ => cs.yes (by first | rfl | simp) (by (repeat (first | with_reducible refine dr.mk h fun _ h => ?_ | with_reducible refine nn.mk ?_ | ((first | with_reducible apply ldI.mk | with_reducible apply ldB.mk | with_reducible apply ldP.mk | with_reducible apply ldS.mk | with_reducible apply ldM.mk | with_reducible apply ldF.mk | with_reducible apply ldG.mk); (· exact (by refine Ok.cellS h (by with_reducible first | exact sl0 | exact .there sl0 | exact .there sl1 | exact .there sl2 | exact .there sl3 | exact .there sl4 | exact .there sl5 | exact .there sl6 | exact .there sl7 | exact .there sl8 | exact .there sl9 | exact .there sl10 | exact .there sl11 | exact .there sl12) ?_; rfl))) | (refine st1.mk (Ok.bring h (by with_reducible first | exact sl0 | exact .there sl0 | exact .there sl1 | exact .there sl2 | exact .there sl3 | exact .there sl4 | exact .there sl5 | exact .there sl6 | exact .there sl7 | exact .there sl8 | exact .there sl9 | exact .there sl10 | exact .there sl11 | exact .there sl12)) (by simp) fun _ h => ?_; dsimp only [List.set] at h))); exact hJ)) ?_
  refine jn.bool true (fun J hJ => cs.yes (by first | rfl | simp) (by (repeat (first | with_reducible refine dr.mk h fun _ h => ?_ | with_reducible refine nn.mk ?_ | ((first | with_reducible apply ldI.mk | with_reducible apply ldB.mk | with_reducible apply ldP.mk | with_reducible apply ldS.mk | with_reducible apply ldM.mk | with_reducible apply ldF.mk | with_reducible apply ldG.mk); (· exact (by refine Ok.cellS h (by with_reducible first | exact sl0 | exact .there sl0 | exact .there sl1 | exact .there sl2 | exact .there sl3 | exact .there sl4 | exact .there sl5 | exact .there sl6 | exact .there sl7 | exact .there sl8 | exact .there sl9 | exact .there sl10 | exact .there sl11 | exact .there sl12) ?_; rfl))) | (refine st1.mk (Ok.bring h (by with_reducible first | exact sl0 | exact .there sl0 | exact .there sl1 | exact .there sl2 | exact .there sl3 | exact .there sl4 | exact .there sl5 | exact .there sl6 | exact .there sl7 | exact .there sl8 | exact .there sl9 | exact .there sl10 | exact .there sl11 | exact .there sl12)) (by simp) fun _ h => ?_; dsimp only [List.set] at h))); exact hJ)) ?_
  refine jn.bool true (fun J hJ => cs.yes (by first | rfl | simp) (by (repeat (first | with_reducible refine dr.mk h fun _ h => ?_ | with_reducible refine nn.mk ?_ | ((first | with_reducible apply ldI.mk | with_reducible apply ldB.mk | with_reducible apply ldP.mk | with_reducible apply ldS.mk | with_reducible apply ldM.mk | with_reducible apply ldF.mk | with_reducible apply ldG.mk); (· exact (by refine Ok.cellS h (by with_reducible first | exact sl0 | exact .there sl0 | exact .there sl1 | exact .there sl2 | exact .there sl3 | exact .there sl4 | exact .there sl5 | exact .there sl6 | exact .there sl7 | exact .there sl8 | exact .there sl9 | exact .there sl10 | exact .there sl11 | exact .there sl12) ?_; rfl))) | (refine st1.mk (Ok.bring h (by with_reducible first | exact sl0 | exact .there sl0 | exact .there sl1 | exact .there sl2 | exact .there sl3 | exact .there sl4 | exact .there sl5 | exact .there sl6 | exact .there sl7 | exact .there sl8 | exact .there sl9 | exact .there sl10 | exact .there sl11 | exact .there sl12)) (by simp) fun _ h => ?_; dsimp only [List.set] at h))); exact hJ)) ?_
  refine jn.bool true (fun J hJ => cs.yes rfl ?_) ?_
  · exact ix_wok (i := 0) (p := (3, 8)) h rfl fun c d c1 c2 => ldI.mk (c1 _ ⟨_, h⟩) hJ
  refine jn.bool true (fun J hJ => cs.yes rfl ?_) ?_
  · exact ix_wok (i := 0) (p := (3, 8)) h rfl fun c d c1 c2 => ldI.mk (c2 _ ⟨_, h⟩) hJ
  refine jn.at (true, ()) (fun w' => Ok e (mplP b false 0 48 ⟨[], [(0, 20)], g1⟩ :: L) w') (fun J hJ => cs.yes rfl ?_) (fun w7 h => ?_)
  · exact call29 (Holds_mpl (Ok.emb (h) (.cons (A := mplP b _ _ _ _) (by with_reducible first | exact sl0 | exact .there sl0 | exact .there sl1 | exact .there sl2 | exact .there sl3 | exact .there sl4 | exact .there sl5 | exact .there sl6 | exact .there sl7 | exact .there sl8 | exact .there sl9 | exact .there sl10 | exact .there sl11 | exact .there sl12) (.same _))) o5 fun w7 h => ⟨(true, ()), rfl, hJ _ (h.emb (by repeat' (first | with_reducible exact Emb.same _ | exact Emb.nil _ | refine Emb.cons (by with_reducible first | exact sl0 | exact .there sl0 | exact .there sl1 | exact .there sl2 | exact .there sl3 | exact .there sl4 | exact .there sl5 | exact .there sl6 | exact .there sl7 | exact .there sl8 | exact .there sl9 | exact .there sl10 | exact .there sl11 | exact .there sl12) ?_ | refine Emb.skip ?_)))⟩)
  refine jn.at (true, ()) (fun w' => Ok e (mplP b false 0 48 ⟨[], [(0, 20)], g1⟩ :: L) w') (fun J hJ => cs.yes rfl ?_) (fun w8 h => ?_)
  · exact call29 (Holds_mpl h o5 fun w7 h => ⟨(false, ()), rfl, hJ _ h⟩)
  refine jn.at (true, ()) (fun w' => Ok e L w') (fun J hJ => cs.yes rfl ?_) (fun w9 h => k _ h)
  refine call12 (Held_mpl h o5 fun s w9 hl h => ⟨(s, ()), rfl, ?_⟩)
  have hl : s.len = 1 := hl
  dsimp only
  rw [hl]
  exact hJ _ h.drop.drop

theorem fitF_cons {a hi n : Int} {b : Int × Int} {l : List (Int × Int)} : ∀ {f i : Nat}, fitF a hi (b :: l) n f (i + 1) = (fitF (b.1 + tk b.2) hi l n f i).map (· + 1)
  | 0, _ => rfl
  | f + 1, i => by
    rw [fitF, fitF]
    show (if tk n ≤ toL hi l i - frL (b.1 + tk b.2) l i then _ else _) = _
    split
    · rfl
    · exact fitF_cons

theorem findL_nil {a hi n : Int} (h : tk n ≤ hi - a) : findL a hi [] n = ((a + 8, true), [(a, n)]) := by
  have : fitL a hi [] n = some 0 := by
    unfold fitL
    rw [fitF, if_pos (by rw [frL_zero]; exact h)]
  unfold findL
  rw [this]
  rfl

theorem findL_nil_no {a hi n : Int} (h : ¬ tk n ≤ hi - a) : findL a hi [] n = ((0, false), []) := by
  have : fitL a hi [] n = none := by
    unfold fitL
    rw [fitF, if_neg (by rw [frL_zero]; exact h)]
    rfl
  unfold findL
  rw [this]

theorem findL_yes {a hi n : Int} {b : Int × Int} {l : List (Int × Int)} (h : tk n ≤ b.1 - a) : findL a hi (b :: l) n = ((a + 8, true), (a, n) :: b :: l) := by
  have : fitL a hi (b :: l) n = some 0 := by
    unfold fitL
    rw [fitF, if_pos (by rw [frL_zero]; exact h)]
  unfold findL
  rw [this]
  rfl

theorem findL_no' {a hi n : Int} {b : Int × Int} {l : List (Int × Int)} (h : ¬ tk n ≤ b.1 - a) : findL a hi (b :: l) n = ((findL (b.1 + tk b.2) hi l n).1, b :: (findL (b.1 + tk b.2) hi l n).2) := by
  have h1 : fitL a hi (b :: l) n = (fitL (b.1 + tk b.2) hi l n).map (· + 1) := by
    unfold fitL
    rw [List.length_cons, fitF, if_neg (by rw [frL_zero]; exact h)]
    exact fitF_cons
  unfold findL
  rw [h1]
  cases fitL (b.1 + tk b.2) hi l n with
  | none => rfl
  | some i => rfl

theorem poll_find {a z n : Int} {S L g r} (hn : 1 ≤ n ∧ n ≤ z - 8) (h : findL a (a + z) L n = r) : LP.poll a z ⟨S, L, g⟩ n = ((r.1.1, r.1.2, 0), ⟨S, r.2, g⟩) := by
  subst h
  unfold LP.poll
  rw [if_pos hn]
  rfl

theorem put_at {a z x : Int} {S L g} {i : Nat} (h : atI L (x - 8) = i) : LP.put a z ⟨S, L, g⟩ x = (((LP.fill a z ⟨S, L.take i ++ L.drop (i + 1), g⟩).1, 0), (LP.fill a z ⟨S, L.take i ++ L.drop (i + 1), g⟩).2) := by
  unfold LP.put
  dsimp only
  rw [h, if_pos (Int.natCast_nonneg _)]
  rfl

set_option maxHeartbeats 2000000 in
theorem HeapFirst_walk {e : World} {a0 a1 a2 : Int} (w0 : (Lit.int .u8 a0).wf = true) (w1 : (Lit.int .u8 a1).wf = true) (w2 : (Lit.int .u8 a2).wf = true) : sh4 a0 a1 a2 (LawEnd e) e := by
  unfold sh4
  have hv : ∀ a : Int, (Lit.int .u8 a).wf = true → ∃ X : Int, w64 (1 + (w64 (Int.tmod a 64))) = X ∧ 1 ≤ X ∧ X ≤ 64 ∧ w64 (Int.tdiv (w64 (X + 7)) 8) = (X + 7) / 8 ∧ w64 ((X + 7) / 8 * 8) = (X + 7) / 8 * 8 ∧ tk X = 8 + (X + 7) / 8 * 8 := by
    intro a ha
    have h8 := wf_u8 ha
    refine ⟨1 + a % 64, ?_, by omega, by omega, ?_, ?_, rfl⟩
    · rw [Int.tmod_eq_emod_of_nonneg h8.1, w64_in (x := a % 64) (by omega) (by omega), w64_in (by omega) (by omega)]
    · rw [w64_in (x := 1 + a % 64 + 7) (by omega) (by omega), Int.tdiv_eq_ediv_of_nonneg (by omega), w64_in (by omega) (by omega)]
    · rw [w64_in (by omega) (by omega)]
  obtain ⟨x, hx, hx1, hx2, hx3, hx4, hx5⟩ := hv a0 w0
  obtain ⟨y, hy, hy1, hy2, hy3, hy4, hy5⟩ := hv a1 w1
  obtain ⟨z, hz, hz1, hz2, hz3, hz4, hz5⟩ := hv a2 w2
  rw [hx, hy, hz, hx3, hy3, hz3, hx4, hy4, hz4]
  clear hv hx hy hz hx3 hy3 hz3 hx4 hy4 hz4
  have hg : 0 ≤ (0 : Int) ∧ (0 : Int) ≤ 65536 ∧ (0 : Int) % 8 = 0 ∧ 8 ≤ (1024 : Int) ∧ (1024 : Int) ≤ 65536 - 0 ∧ (1024 : Int) % 8 = 0 := by decide
  refine call7 (known_19 (Ok.start e) fun w1 h => ⟨(true, ()), enc_b rfl, ?_⟩)
  refine cs.no rfl ?_
  refine call8 (New_mpl h (fun h0 => absurd hg h0) fun _ b w2 h => ⟨(some ⟨b, 0, none⟩, (0 : Int), ()), rfl, ?_⟩)
  have o0 := lp0_ok hg
  obtain ⟨g, hg0⟩ : ∃ g : Int → Int, g = fun _ => 0 := ⟨_, rfl⟩
  rw [← hg0] at h o0
  clear hg0
  have e1 : LP.poll 0 1024 ⟨[], [], g⟩ x = ((8, true, 0), ⟨[], [(0, x)], g⟩) := poll_find (by omega) (findL_nil (by omega))
  have e2 : LP.poll 0 1024 ⟨[], [(0, x)], g⟩ y = ((tk x + 8, true, 0), ⟨[], [(0, x), (tk x, y)], g⟩) := by
    refine poll_find (r := ((tk x + 8, true), [(0, x), (tk x, y)])) (by omega) ?_
    rw [findL_no' (by dsimp only; omega), findL_nil (by dsimp only; omega)]
    simp
  have e3 : LP.poll 0 1024 ⟨[], [(0, x), (tk x, y)], g⟩ z = ((tk x + tk y + 8, true, 0), ⟨[], [(0, x), (tk x, y), (tk x + tk y, z)], g⟩) := by
    refine poll_find (r := ((tk x + tk y + 8, true), [(0, x), (tk x, y), (tk x + tk y, z)])) (by omega) ?_
    rw [findL_no' (by dsimp only; omega), findL_no' (by dsimp only; omega), findL_nil (by dsimp only; omega)]
  have e4 : LP.put 0 1024 ⟨[], [(0, x), (tk x, y), (tk x + tk y, z)], g⟩ 8 = (([], 0), ⟨[], [(tk x, y), (tk x + tk y, z)], g⟩) := put_at (i := 0) (by rfl)
  have e5 : LP.poll 0 1024 ⟨[], [(tk x, y), (tk x + tk y, z)], g⟩ z = ((if tk z ≤ tk x then 8 else tk x + tk y + tk z + 8, true, 0), ⟨[], if tk z ≤ tk x then [(0, z), (tk x, y), (tk x + tk y, z)] else [(tk x, y), (tk x + tk y, z), (tk x + tk y + tk z, z)], g⟩) := by
    by_cases hle : tk z ≤ tk x
    · rw [if_pos hle, if_pos hle]
      exact poll_find (by omega) (findL_yes (by dsimp only; omega))
    · rw [if_neg hle, if_neg hle]
      refine poll_find (r := ((tk x + tk y + tk z + 8, true), [(tk x, y), (tk x + tk y, z), (tk x + tk y + tk z, z)])) (by omega) ?_
      rw [findL_no' (by dsimp only; omega), findL_no' (by dsimp only; omega), findL_nil (by dsimp only; omega)]
  refine call9 (Poll_mpl h o0 fun w3 h => ⟨((8 : Int), true, (0 : Int), ()), by rw [e1]; rfl, ?_⟩)
  have o1 := lpoll_ok (n := x) o0
  rw [e1] at h o1
  refine call9 (Poll_mpl h o1 fun w3 h => ⟨((tk x + 8 : Int), true, (0 : Int), ()), by dsimp only; rw [e2]; rfl, ?_⟩)
  have o2 := lpoll_ok (n := y) o1
  dsimp only at h o2
  rw [e2] at h o2
  refine call9 (Poll_mpl h o2 fun w3 h => ⟨((tk x + tk y + 8 : Int), true, (0 : Int), ()), by dsimp only; rw [e3]; rfl, ?_⟩)
  have o3 := lpoll_ok (n := z) o2
  dsimp only at h o3
  rw [e3] at h o3
  refine call11 (Put_mpl h o3 fun r1 w5 hr1 h => ⟨(r1, (0 : Int), ()), by dsimp only; rw [e4]; rfl, ?_⟩)
  have o4 := lput_ok (x := 8) o3
  dsimp only at h o4
  rw [e4] at h o4
  refine call9 (Poll_mpl h.p1 o4 fun w3 h => ⟨((if tk z ≤ tk x then 8 else tk x + tk y + tk z + 8 : Int), true, (0 : Int), ()), by dsimp only; rw [e5]; rfl, ?_⟩)
  dsimp only
  refine jn.bool false (fun J hJ => cs.no rfl hJ) ?_
  refine jn.bool false (fun J hJ => cs.no rfl hJ) ?_
  refine jn.bool false (fun J hJ => cs.no rfl ?_) ?_
  · rw [w64_in (x := 8 + (x + 7) / 8 * 8) (by omega) (by omega), w64_in (x := 8 + (x + 7) / 8 * 8 + 8) (by omega) (by omega), show (tk x + 8 != 8 + (x + 7) / 8 * 8 + 8) = false by rw [bne_eq_false_iff_eq]; omega]
    exact hJ
  refine jn.bool false (fun J hJ => cs.no rfl ?_) ?_
  · rw [w64_in (x := tk x + 8 + (y + 7) / 8 * 8) (by omega) (by omega), w64_in (x := tk x + 8 + (y + 7) / 8 * 8 + 8) (by omega) (by omega), show (tk x + tk y + 8 != tk x + 8 + (y + 7) / 8 * 8 + 8) = false by rw [bne_eq_false_iff_eq]; omega]
    exact hJ
  refine cs.no rfl ?_
  have hend : Ok e [old e] _ := h.drop.drop
  refine cs.mk (fun h1 => ?_) (fun h1 => ?_)
  · have h1 := of_decide_eq_true h1
    rw [if_pos (by omega)]
    exact ⟨rfl, hend⟩
  · have h1 := of_decide_eq_false h1
    rw [if_neg (by omega), w64_in (x := tk x + tk y + 8 + (z + 7) / 8 * 8) (by omega) (by omega), w64_in (x := tk x + tk y + 8 + (z + 7) / 8 * 8 + 8) (by omega) (by omega), show (tk x + tk y + tk z + 8 == tk x + tk y + 8 + (z + 7) / 8 * 8 + 8) = true by rw [beq_iff_eq]; omega]
    exact ⟨rfl, hend⟩

end Go.Proofs.Ytnghegppcogdbaa.B
