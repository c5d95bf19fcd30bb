/- A law of layer 19: who waits for much is not passed by. -/
import Derived.Test.YtnghegppcogdbaaLaws19
namespace Go.Proofs.Ytnghegppcogdbaa.B
open Go
set_option linter.unusedVariables false

theorem fill_stop {a z : Int} {x : Int × Int} {r L : List (Int × Int)} {g : Int → Int} (h : (findL a (a + z) L (g x.1)).1.2 = false) : LP.fill a z ⟨x :: r, L, g⟩ = ([], ⟨x :: r, L, g⟩) := by
  unfold LP.fill
  dsimp only
  rw [fillL, if_neg (by rw [h]; simp)]

theorem fill_go {a z : Int} {x : Int × Int} {r L : List (Int × Int)} {g : Int → Int} {y : Int} {L3 : List (Int × Int)} (h : findL a (a + z) L (g x.1) = ((y, true), L3)) : LP.fill a z ⟨x :: r, L, g⟩ = ((x.1, y) :: (LP.fill a z ⟨r, L3, g⟩).1, (LP.fill a z ⟨r, L3, g⟩).2) := by
  unfold LP.fill
  dsimp only
  rw [fillL, h, if_pos rfl]

theorem get_waits {a z n task pri : Int} {S L S2 g} (hn : 1 ≤ n ∧ n ≤ z - 8) (h : ¬ (S = [] ∧ (LP.find a z ⟨S, L, g⟩ n).1.2 = true)) (ha : addL false S task pri = (0, S2)) : LP.get a z false ⟨S, L, g⟩ task pri n = ((0, false, 0), ⟨S2, L, fun i => if i = task then n else g i⟩) := by
  unfold LP.get
  rw [if_pos hn, if_neg h]
  dsimp only
  rw [ha, if_pos rfl]

set_option maxHeartbeats 4000000 in
theorem HeapWaits_walk {e : World} {a0 a1 : Int} (w0 : (Lit.int .u8 a0).wf = true) (w1 : (Lit.int .u8 a1).wf = true) : sh5 a0 a1 (LawEnd e) e := by
  unfold sh5
  have h8 := wf_u8 w0
  have h9 := wf_u8 w1
  obtain ⟨m, hm, hm1, hm2⟩ : ∃ X : Int, w64 (49 + (w64 (Int.tmod a0 8))) = X ∧ 49 ≤ X ∧ X ≤ 56 := by
    refine ⟨49 + a0 % 8, ?_, by omega, by omega⟩
    rw [Int.tmod_eq_emod_of_nonneg h8.1, w64_in (x := a0 % 8) (by omega) (by omega), w64_in (by omega) (by omega)]
  obtain ⟨n, hn, hn1, hn2⟩ : ∃ X : Int, w64 (1 + (w64 (Int.tmod a1 8))) = X ∧ 1 ≤ X ∧ X ≤ 8 := by
    refine ⟨1 + a1 % 8, ?_, by omega, by omega⟩
    rw [Int.tmod_eq_emod_of_nonneg h9.1, w64_in (x := a1 % 8) (by omega) (by omega), w64_in (by omega) (by omega)]
  rw [hm, hn]
  clear hm hn
  have tm : tk m = 64 := by unfold tk; omega
  have tn : tk n = 16 := by unfold tk; omega
  have t8 : tk 8 = 16 := by rfl
  have hg : 0 ≤ (0 : Int) ∧ (0 : Int) ≤ 65536 ∧ (0 : Int) % 8 = 0 ∧ 8 ≤ (64 : Int) ∧ (64 : Int) ≤ 65536 - 0 ∧ (64 : Int) % 8 = 0 := by decide
  refine call7 (known_19 (Ok.start e) fun w1 h => ⟨(true, ()), enc_b rfl, ?_⟩)
  refine cs.no rfl ?_
  refine call8 (New_mpl h (fun h0 => absurd hg h0) fun _ b w2 h => ⟨(some ⟨b, 0, none⟩, (0 : Int), ()), rfl, ?_⟩)
  have o0 := lp0_ok hg
  obtain ⟨g, hg0⟩ : ∃ g : Int → Int, g = fun _ => 0 := ⟨_, rfl⟩
  rw [← hg0] at h o0
  clear hg0
  obtain ⟨g1, hg1⟩ : ∃ g1 : Int → Int, g1 = fun i => if i = 1 then m else g i := ⟨_, rfl⟩
  obtain ⟨g2, hg2⟩ : ∃ g2 : Int → Int, g2 = fun i => if i = 2 then n else g1 i := ⟨_, rfl⟩
  have g21 : g2 1 = m := by rw [hg2, hg1]; rfl
  have g22 : g2 2 = n := by rw [hg2]; rfl
  have f8 : findL 0 64 [] 8 = ((8, true), [(0, 8)]) := findL_nil (by rw [t8]; decide)
  have fm8 : (findL 0 64 [(0, 8)] m).1.2 = false := by rw [findL_no' (by dsimp only; omega), findL_nil_no (by dsimp only; omega)]
  have fn8 : findL 0 64 [(0, 8)] n = ((24, true), [(0, 8), (16, n)]) := by rw [findL_no' (by dsimp only; omega), findL_nil (by dsimp only; omega), t8]; rfl
  have fm : findL 0 64 [] m = ((8, true), [(0, m)]) := findL_nil (by omega)
  have fnm : (findL 0 64 [(0, m)] n).1.2 = false := by rw [findL_no' (by dsimp only; omega), findL_nil_no (by dsimp only; omega)]
  have fn : findL 0 64 [] n = ((8, true), [(0, n)]) := findL_nil (by omega)
  have e1 : LP.poll 0 64 ⟨[], [], g⟩ 8 = ((8, true, 0), ⟨[], [(0, 8)], g⟩) := poll_find (n := 8) (z := 64) (r := ((8, true), [(0, 8)])) (by decide) f8
  have e2 : LP.get 0 64 false ⟨[], [(0, 8)], g⟩ 1 1 m = ((0, false, 0), ⟨[(1, 1)], [(0, 8)], g1⟩) := by
    rw [hg1]
    exact get_waits (by omega) (fun h => by have h2 : (findL 0 64 [(0, 8)] m).1.2 = true := h.2; rw [fm8] at h2; cases h2) (by rfl)
  have e3 : LP.get 0 64 false ⟨[(1, 1)], [(0, 8)], g1⟩ 2 1 n = ((0, false, 0), ⟨[(1, 1), (2, 1)], [(0, 8)], g2⟩) := by
    rw [hg2]
    exact get_waits (by omega) (fun h => by cases h.1) (by rfl)
  have e4 : LP.poll 0 64 ⟨[(1, 1), (2, 1)], [(0, 8)], g2⟩ n = ((24, true, 0), ⟨[(1, 1), (2, 1)], [(0, 8), (16, n)], g2⟩) := poll_find (r := ((24, true), [(0, 8), (16, n)])) (by omega) fn8
  have l1 : LP.fill 0 64 ⟨[(1, 1), (2, 1)], [(0, 8)], g2⟩ = ([], ⟨[(1, 1), (2, 1)], [(0, 8)], g2⟩) := fill_stop (by show (findL 0 64 [(0, 8)] (g2 1)).1.2 = false; rw [g21]; exact fm8)
  have e5 : LP.put 0 64 ⟨[(1, 1), (2, 1)], [(0, 8), (16, n)], g2⟩ 24 = (([], 0), ⟨[(1, 1), (2, 1)], [(0, 8)], g2⟩) := by
    rw [put_at (i := 1) (by rfl)]
    show (((LP.fill 0 64 ⟨[(1, 1), (2, 1)], [(0, 8)], g2⟩).1, 0), (LP.fill 0 64 ⟨[(1, 1), (2, 1)], [(0, 8)], g2⟩).2) = _
    rw [l1]
  have l3 : LP.fill 0 64 ⟨[(2, 1)], [(0, m)], g2⟩ = ([], ⟨[(2, 1)], [(0, m)], g2⟩) := fill_stop (by show (findL 0 64 [(0, m)] (g2 2)).1.2 = false; rw [g22]; exact fnm)
  have l2 : LP.fill 0 64 ⟨[(1, 1), (2, 1)], [], g2⟩ = ([(1, 8)], ⟨[(2, 1)], [(0, m)], g2⟩) := by
    rw [fill_go (y := 8) (L3 := [(0, m)]) (by show findL 0 64 [] (g2 1) = _; rw [g21]; exact fm), l3]
  have e6 : LP.put 0 64 ⟨[(1, 1), (2, 1)], [(0, 8)], g2⟩ 8 = (([(1, 8)], 0), ⟨[(2, 1)], [(0, m)], g2⟩) := by
    rw [put_at (i := 0) (by rfl)]
    show (((LP.fill 0 64 ⟨[(1, 1), (2, 1)], [], g2⟩).1, 0), (LP.fill 0 64 ⟨[(1, 1), (2, 1)], [], g2⟩).2) = _
    rw [l2]
  have l4 : LP.fill 0 64 ⟨[(2, 1)], [], g2⟩ = ([(2, 8)], ⟨[], [(0, n)], g2⟩) := by
    rw [fill_go (y := 8) (L3 := [(0, n)]) (by show findL 0 64 [] (g2 2) = _; rw [g22]; exact fn)]
    rfl
  have e7 : LP.put 0 64 ⟨[(2, 1)], [(0, m)], g2⟩ 8 = (([(2, 8)], 0), ⟨[], [(0, n)], g2⟩) := by
    rw [put_at (i := 0) (by rfl)]
    show (((LP.fill 0 64 ⟨[(2, 1)], [], g2⟩).1, 0), (LP.fill 0 64 ⟨[(2, 1)], [], g2⟩).2) = _
    rw [l4]
  clear hg1 hg2 g21 g22 f8 fm8 fn8 fm fnm fn l1 l2 l3 l4
  refine call9 (Poll_mpl h o0 fun w3 h => ⟨((8 : Int), true, (0 : Int), ()), by rw [e1]; rfl, ?_⟩)
  have o1 := lpoll_ok (n := 8) o0
  rw [e1] at h o1
  refine call13 (Get_mpl h o1 fun w3 h => ⟨((0 : Int), false, (0 : Int), ()), by dsimp only; rw [e2]; rfl, ?_⟩)
  have o2 := lget_ok (byPri := false) (task := 1) (pri := 1) (n := m) o1
  dsimp only at h o2
  rw [e2] at h o2
  refine call13 (Get_mpl h o2 fun w3 h => ⟨((0 : Int), false, (0 : Int), ()), by dsimp only; rw [e3]; rfl, ?_⟩)
  have o3 := lget_ok (byPri := false) (task := 2) (pri := 1) (n := n) o2
  dsimp only at h o3
  rw [e3] at h o3
  dsimp only at h o3 ⊢
  refine jn.bool false (fun J hJ => cs.no rfl hJ) ?_
  refine jn.bool false (fun J hJ => cs.no rfl hJ) ?_
  refine jn.bool false (fun J hJ => cs.no rfl hJ) ?_
  refine jn.at (false, ()) (fun w' => Ok e [mplP b false 0 64 ⟨[(1, 1), (2, 1)], [(0, 8)], g2⟩, old e] w') (fun J hJ => cs.no rfl ?_) (fun w4 h => ?_)
  · obtain ⟨p, s, q, f, hf, hs, h⟩ := mplE h
    refine nn.mk (ldP.mk (by refine Ok.cellS h (by with_reducible first | exact sl0 | exact .there sl0 | exact .there sl1 | exact .there sl2 | exact .there sl3 | exact .there sl4 | exact .there sl5 | exact .there sl6 | exact .there sl7 | exact .there sl8 | exact .there sl9 | exact .there sl10 | exact .there sl11 | exact .there sl12) ?_; rfl) (nn.mk ?_))
    refine call14 (Len_order (Ok.emb (h) (.cons (A := lineP p _ _) (by with_reducible first | exact sl0 | exact .there sl0 | exact .there sl1 | exact .there sl2 | exact .there sl3 | exact .there sl4 | exact .there sl5 | exact .there sl6 | exact .there sl7 | exact .there sl8 | exact .there sl9 | exact .there sl10 | exact .there sl11 | exact .there sl12) (.same _))) ⟨((2 : Int), ()), rfl, ?_⟩)
    exact hJ _ (mplI (q := ⟨[(1, 1), (2, 1)], [(0, 8)], g2⟩) (p := p) (s := s) (m := q) hf h)
  refine cs.no rfl ?_
  refine call9 (Poll_mpl h o3 fun w3 h => ⟨((24 : Int), true, (0 : Int), ()), by rw [e4]; rfl, ?_⟩)
  have o4 := lpoll_ok (n := n) o3
  rw [e4] at h o4
  dsimp only at h o4 ⊢
  refine jn.bool false (fun J hJ => cs.no rfl hJ) ?_
  refine cs.no rfl ?_
  refine call11 (Put_mpl h o4 fun r1 w5 hr1 h => ⟨(r1, (0 : Int), ()), by rw [e5]; rfl, ?_⟩)
  have o5 := lput_ok (x := 24) o4
  rw [e5] at h o5 hr1
  have hr1 : r1.len = 0 := hr1
  dsimp only at h o5 ⊢
  rw [hr1]
  refine jn.bool false (fun J hJ => cs.no rfl hJ) ?_
  refine cs.no rfl ?_
  refine call11 (Put_mpl h.p1 o5 fun r2 w6 hr2 h => ⟨(r2, (0 : Int), ()), by rw [e6]; rfl, ?_⟩)
  have o6 := lput_ok (x := 8) o5
  rw [e6] at h o6 hr2
  have hr2 : r2.len = 1 := hr2
  dsimp only at h o6 ⊢
  rw [hr2]
  refine jn.bool false (fun J hJ => cs.no rfl hJ) ?_
  refine jn.bool false (fun J hJ => cs.no rfl ?_) ?_
  · exact ix_wok (i := 0) (p := (1, 8)) h rfl fun c d c1 c2 => ldI.mk (c1 _ ⟨_, h⟩) hJ
  refine jn.bool false (fun J hJ => cs.no rfl ?_) ?_
  · exact ix_wok (i := 0) (p := (1, 8)) h rfl fun c d c1 c2 => ldI.mk (c2 _ ⟨_, h⟩) hJ
  refine cs.no rfl ?_
  refine call11 (Put_mpl h.p1 o6 fun r3 w7 hr3 h => ⟨(r3, (0 : Int), ()), by rw [e7]; rfl, ?_⟩)
  rw [e7] at h hr3
  have hr3 : r3.len = 1 := hr3
  dsimp only at h ⊢
  rw [hr3]
  refine jn.at (true, ()) (fun w' => w7 = w') (fun J hJ => cs.yes rfl ?_) (fun w8 hw8 => ?_)
  · refine jn.bool false (fun J1 hJ1 => cs.no rfl hJ1) ?_
    refine jn.bool true (fun J1 hJ1 => cs.no rfl ?_) (hJ _ rfl)
    refine jn.bool true (fun J2 hJ2 => cs.yes rfl hJ2) ?_
    refine jn.bool true (fun J2 hJ2 => cs.yes rfl ?_) hJ1
    exact ix_wok (i := 0) (p := (2, 8)) h rfl fun c d c1 c2 => ldI.mk (c1 _ ⟨_, h⟩) hJ2
  subst hw8
  exact ⟨rfl, (h.emb (by repeat' (first | with_reducible exact Emb.same _ | exact Emb.nil _ | refine Emb.cons (by with_reducible first | exact sl0 | exact .there sl0 | exact .there sl1 | exact .there sl2 | exact .there sl3 | exact .there sl4 | exact .there sl5 | exact .there sl6 | exact .there sl7 | exact .there sl8 | exact .there sl9 | exact .there sl10 | exact .there sl11 | exact .there sl12) ?_ | refine Emb.skip ?_)))⟩

end Go.Proofs.Ytnghegppcogdbaa.B
