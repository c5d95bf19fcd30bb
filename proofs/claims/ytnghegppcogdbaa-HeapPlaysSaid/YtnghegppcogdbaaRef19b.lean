/- Contracts of the laws' own pool of any sizes: gap, find, Poll. -/
import Derived.Test.YtnghegppcogdbaaRef19
namespace Go.Proofs.Ytnghegppcogdbaa.B
open Go
set_option linter.unusedVariables false

set_option maxHeartbeats 1000000 in
theorem gap_ref19 {e w L b byPri a z q R} {i : Nat} (h : Ok e (rplP b byPri a z q :: L) w) (ho : LPo a z q) (hi : i ≤ q.L.length)
    (k : ∀ w', Ok e (rplP b byPri a z q :: L) w' → R [.int .i64 (frL a q.L i), .int .i64 (toL (a + z) q.L i - frL a q.L i)] w') : sh55 (some ⟨b, 0, none⟩) i R w := by
  unfold sh55
  have hc := ho.c
  have hlen := ho.len
  have hg := chL_gap ho.ch hi
  obtain ⟨p, s, W, hf, hs, h⟩ := rplE h
  have hW := hf.1
  refine nn.mk (ldI.mk (Ok.cellS h (by with_reducible first | exact sl0 | exact .there sl0 | exact .there sl1 | exact .there sl2 | exact .there sl3 | exact .there sl4 | exact .there sl5 | exact .there sl6 | exact .there sl7 | exact .there sl8 | exact .there sl9 | exact .there sl10 | exact .there sl11 | exact .there sl12) (rlC_a hW)) ?_)
  refine jn.at (frL a q.L i, ()) (fun w' => Ok e (pts b (rlC p W a z s) :: refP p byPri q.S :: slc 2 s (prs q.L) :: L) w') (fun J hJ => ?_) (fun w1 h => ?_)
  · cases i with
    | zero =>
      rw [frL_zero] at hJ
      exact cs.no rfl (hJ _ h)
    | succ i =>
      refine cs.yes (decide_eq_true (by omega)) (dr.mk h fun w2 h => ?_)
      rw [w64_in (x := ((i + 1 : Nat) : Int) - 1) (by omega) (by omega), show ((i + 1 : Nat) : Int) - 1 = (i : Int) by omega]
      refine nn.mk (ldS.mk (Ok.cellS h (by with_reducible first | exact sl0 | exact .there sl0 | exact .there sl1 | exact .there sl2 | exact .there sl3 | exact .there sl4 | exact .there sl5 | exact .there sl6 | exact .there sl7 | exact .there sl8 | exact .there sl9 | exact .there sl10 | exact .there sl11 | exact .there sl12) (rlC_s hW)) ?_)
      refine ix_pr (Ok.emb (h) (.cons (A := slc 2 s (prs q.L)) (by with_reducible first | exact sl0 | exact .there sl0 | exact .there sl1 | exact .there sl2 | exact .there sl3 | exact .there sl4 | exact .there sl5 | exact .there sl6 | exact .there sl7 | exact .there sl8 | exact .there sl9 | exact .there sl10 | exact .there sl11 | exact .there sl12) (.same _))) (Int.natCast_nonneg _) (by omega) fun c o y hy ha1 ho1 c1 c2 => ?_
      rw [Int.toNat_natCast] at hy
      refine ldI.mk (c1 _ ⟨_, (Ok.emb (h) (.cons (A := slc 2 s (prs q.L)) (by with_reducible first | exact sl0 | exact .there sl0 | exact .there sl1 | exact .there sl2 | exact .there sl3 | exact .there sl4 | exact .there sl5 | exact .there sl6 | exact .there sl7 | exact .there sl8 | exact .there sl9 | exact .there sl10 | exact .there sl11 | exact .there sl12) (.same _)))⟩) (nn.mk (ldS.mk (Ok.cellS h (by with_reducible first | exact sl0 | exact .there sl0 | exact .there sl1 | exact .there sl2 | exact .there sl3 | exact .there sl4 | exact .there sl5 | exact .there sl6 | exact .there sl7 | exact .there sl8 | exact .there sl9 | exact .there sl10 | exact .there sl11 | exact .there sl12) (rlC_s hW)) ?_))
      refine ix_pr (Ok.emb (h) (.cons (A := slc 2 s (prs q.L)) (by with_reducible first | exact sl0 | exact .there sl0 | exact .there sl1 | exact .there sl2 | exact .there sl3 | exact .there sl4 | exact .there sl5 | exact .there sl6 | exact .there sl7 | exact .there sl8 | exact .there sl9 | exact .there sl10 | exact .there sl11 | exact .there sl12) (.same _))) (Int.natCast_nonneg _) (by omega) fun c' o' y' hy' ha2 ho2 c3 c4 => ?_
      rw [Int.toNat_natCast, hy] at hy'
      cases hy'
      refine ldI.mk (c4 _ ⟨_, (Ok.emb (h) (.cons (A := slc 2 s (prs q.L)) (by with_reducible first | exact sl0 | exact .there sl0 | exact .there sl1 | exact .there sl2 | exact .there sl3 | exact .there sl4 | exact .there sl5 | exact .there sl6 | exact .there sl7 | exact .there sl8 | exact .there sl9 | exact .there sl10 | exact .there sl11 | exact .there sl12) (.same _)))⟩) ?_
      have hm := chL_mem ho.ch (List.mem_of_getElem? hy)
      have ht := tk_ge (n := y.2) (by omega)
      refine call66 (takes_ref19 h (by omega) fun w3 h => ⟨(tk y.2, ()), rfl, c1 _ ⟨_, (Ok.emb (h) (.cons (A := slc 2 s (prs q.L)) (by with_reducible first | exact sl0 | exact .there sl0 | exact .there sl1 | exact .there sl2 | exact .there sl3 | exact .there sl4 | exact .there sl5 | exact .there sl6 | exact .there sl7 | exact .there sl8 | exact .there sl9 | exact .there sl10 | exact .there sl11 | exact .there sl12) (.same _)))⟩, Ok.cellS h (by with_reducible first | exact sl0 | exact .there sl0 | exact .there sl1 | exact .there sl2 | exact .there sl3 | exact .there sl4 | exact .there sl5 | exact .there sl6 | exact .there sl7 | exact .there sl8 | exact .there sl9 | exact .there sl10 | exact .there sl11 | exact .there sl12) (rlC_s hW), ?_⟩)
      clear c1 c2 c3 c4
      dsimp only
      rw [w64_in (x := y.1 + tk y.2) (by omega) (by omega)]
      rw [frL_at hy] at hJ
      exact hJ _ h
  refine dr.mk h fun w1 h => ?_
  refine nn.mk (ldI.mk (Ok.cellS h (by with_reducible first | exact sl0 | exact .there sl0 | exact .there sl1 | exact .there sl2 | exact .there sl3 | exact .there sl4 | exact .there sl5 | exact .there sl6 | exact .there sl7 | exact .there sl8 | exact .there sl9 | exact .there sl10 | exact .there sl11 | exact .there sl12) (rlC_a hW)) (nn.mk (ldI.mk (Ok.cellS h (by with_reducible first | exact sl0 | exact .there sl0 | exact .there sl1 | exact .there sl2 | exact .there sl3 | exact .there sl4 | exact .there sl5 | exact .there sl6 | exact .there sl7 | exact .there sl8 | exact .there sl9 | exact .there sl10 | exact .there sl11 | exact .there sl12) (rlC_z hW)) (nn.mk (ldS.mk (Ok.cellS h (by with_reducible first | exact sl0 | exact .there sl0 | exact .there sl1 | exact .there sl2 | exact .there sl3 | exact .there sl4 | exact .there sl5 | exact .there sl6 | exact .there sl7 | exact .there sl8 | exact .there sl9 | exact .there sl10 | exact .there sl11 | exact .there sl12) (rlC_s hW)) ?_)))))
  refine jn.at (toL (a + z) q.L i, ()) (fun w' => w1 = w') (fun J hJ => cs.mk (fun h1 => ?_) (fun h1 => ?_)) (fun w2 hw2 => ?_)
  · have h1 : i < q.L.length := by have := of_decide_eq_true h1; omega
    refine nn.mk (ldS.mk (Ok.cellS h (by with_reducible first | exact sl0 | exact .there sl0 | exact .there sl1 | exact .there sl2 | exact .there sl3 | exact .there sl4 | exact .there sl5 | exact .there sl6 | exact .there sl7 | exact .there sl8 | exact .there sl9 | exact .there sl10 | exact .there sl11 | exact .there sl12) (rlC_s hW)) ?_)
    refine ix_pr (Ok.emb (h) (.cons (A := slc 2 s (prs q.L)) (by with_reducible first | exact sl0 | exact .there sl0 | exact .there sl1 | exact .there sl2 | exact .there sl3 | exact .there sl4 | exact .there sl5 | exact .there sl6 | exact .there sl7 | exact .there sl8 | exact .there sl9 | exact .there sl10 | exact .there sl11 | exact .there sl12) (.same _))) (Int.natCast_nonneg _) (by omega) fun c o y hy ha1 ho1 c1 c2 => ldI.mk (c1 _ ⟨_, (Ok.emb (h) (.cons (A := slc 2 s (prs q.L)) (by with_reducible first | exact sl0 | exact .there sl0 | exact .there sl1 | exact .there sl2 | exact .there sl3 | exact .there sl4 | exact .there sl5 | exact .there sl6 | exact .there sl7 | exact .there sl8 | exact .there sl9 | exact .there sl10 | exact .there sl11 | exact .there sl12) (.same _)))⟩) ?_
    rw [Int.toNat_natCast] at hy
    rw [toL_at hy] at hJ
    exact hJ _ rfl
  · have h1 : q.L.length ≤ i := by have := of_decide_eq_false h1; omega
    rw [w64_in (by omega) (by omega)]
    rw [toL_end h1] at hJ
    exact hJ _ rfl
  subst hw2
  dsimp only
  rw [w64_in (by omega) (by omega)]
  exact k w1 (rplI (p := p) (s := s) (W := W) hf h)

theorem slT_block19 : SlT Pg 65 2 := .of (by kernel_rfl)

set_option maxHeartbeats 1000000 in
theorem find_ref19 {e w L b byPri a z q n R} (h : Ok e (rplP b byPri a z q :: L) w) (ho : LPo a z q) (hn : 1 ≤ n ∧ n ≤ z - 8)
    (k : ∀ w', Ok e (rplP b byPri a z (q.find a z n).2 :: L) w' → R [.int .i64 (q.find a z n).1.1, .bool (q.find a z n).1.2] w') : sh42 (some ⟨b, 0, none⟩) n R w := by
  unfold sh42
  have hc := ho.c
  have hlen := ho.len
  refine lp.mk (fun t w' => ∃ i : Nat, t.1 = (i : Int) ∧ i ≤ q.L.length + 1 ∧ fitL a (a + z) q.L n = fitF a (a + z) q.L n (q.L.length + 1 - i) i ∧ Ok e (rplP b byPri a z q :: L) w') (fun t _ => q.L.length + 1 - t.1.toNat) ⟨0, rfl, Nat.zero_le _, rfl, h⟩ ?_
  clear h
  rintro ⟨i', _⟩ w1 ⟨i, hi, hi1, hfit, h⟩
  dsimp only at hi
  subst hi
  obtain ⟨p, s, W, hf, hs, h⟩ := rplE h
  refine nn.mk (ldS.mk (Ok.cellS h (by with_reducible first | exact sl0 | exact .there sl0 | exact .there sl1 | exact .there sl2 | exact .there sl3 | exact .there sl4 | exact .there sl5 | exact .there sl6 | exact .there sl7 | exact .there sl8 | exact .there sl9 | exact .there sl10 | exact .there sl11 | exact .there sl12) (rlC_s hf.1)) ?_)
  have h := rplI (q := q) (p := p) (s := s) (W := W) hf h
  refine cs.mk (fun hlt => ?_) (fun hge => ?_)
  · have hlt : i ≤ q.L.length := by have := of_decide_eq_true hlt; dsimp only at this; omega
    have hw : w64 ((i : Int) + 1) = ((i + 1 : Nat) : Int) := by rw [w64_in (by omega) (by omega)]; rfl
    have hg := chL_gap ho.ch hlt
    refine call55 (gap_ref19 h ho hlt fun w2 h => ⟨(frL a q.L i, toL (a + z) q.L i - frL a q.L i, ()), rfl, ?_⟩)
    refine call66 (takes_ref19 h (by omega) fun w3 h => ⟨(tk n, ()), rfl, ?_⟩)
    dsimp only
    rw [hw]
    rw [show q.L.length + 1 - i = (q.L.length - i) + 1 by omega, fitF] at hfit
    refine cs.mk (fun h1 => ?_) (fun h1 => ?_)
    · have h1 : ¬ tk n ≤ toL (a + z) q.L i - frL a q.L i := by have := of_decide_eq_true h1; omega
      rw [if_neg h1] at hfit
      refine ⟨⟨i + 1, rfl, by omega, by rw [hfit]; congr 1; omega, h⟩, ?_⟩
      show q.L.length + 1 - Int.toNat ((i + 1 : Nat) : Int) < q.L.length + 1 - Int.toNat (i : Int)
      omega
    · have h1 : tk n ≤ toL (a + z) q.L i - frL a q.L i := by have := of_decide_eq_false h1; omega
      rw [if_pos h1] at hfit
      unfold LP.find findL at k
      rw [hfit] at k
      dsimp only at k
      obtain ⟨p, s, W, hf, hs, h⟩ := rplE h
      have hW := hf.1
      refine al.mk h fun c1 w4 h => ?_
      refine nn.mk (ldS.mk (Ok.cellS h (by with_reducible first | exact sl0 | exact .there sl0 | exact .there sl1 | exact .there sl2 | exact .there sl3 | exact .there sl4 | exact .there sl5 | exact .there sl6 | exact .there sl7 | exact .there sl8 | exact .there sl9 | exact .there sl10 | exact .there sl11 | exact .there sl12) (rlC_s hW)) ?_)
      refine sb_sub (Ok.emb (h) (.cons (A := slc 2 s _) (by with_reducible first | exact sl0 | exact .there sl0 | exact .there sl1 | exact .there sl2 | exact .there sl3 | exact .there sl4 | exact .there sl5 | exact .there sl6 | exact .there sl7 | exact .there sl8 | exact .there sl9 | exact .there sl10 | exact .there sl11 | exact .there sl12) (.same _))) (Int.le_refl _) (Int.natCast_nonneg _) (by omega) fun x1 hx1 => ?_
      have h := h.slcNew (n := 0) (sz := 2) rfl (by simp)
      refine ef.appendSub slT_block19 (by decide) (Ok.emb (h) (.cons (A := slc 2 ⟨some ⟨c1, 0, none⟩, 0, 0⟩ _) (by with_reducible first | exact sl0 | exact .there sl0 | exact .there sl1 | exact .there sl2 | exact .there sl3 | exact .there sl4 | exact .there sl5 | exact .there sl6 | exact .there sl7 | exact .there sl8 | exact .there sl9 | exact .there sl10 | exact .there sl11 | exact .there sl12) (.cons (A := slc 2 s _) (by with_reducible first | exact sl0 | exact .there sl0 | exact .there sl1 | exact .there sl2 | exact .there sl3 | exact .there sl4 | exact .there sl5 | exact .there sl6 | exact .there sl7 | exact .there sl8 | exact .there sl9 | exact .there sl10 | exact .there sl11 | exact .there sl12) (.same _)))) hx1 (by omega) (by simp only; omega) fun s1 w5 hl1 h => ?_
      refine al.mk h fun c2 w6 h => ?_
      refine ef.append1 (n := 1) slT_block19 (by decide) (Ok.emb (h) (.cons (A := pts c2 _) (by with_reducible first | exact sl0 | exact .there sl0 | exact .there sl1 | exact .there sl2 | exact .there sl3 | exact .there sl4 | exact .there sl5 | exact .there sl6 | exact .there sl7 | exact .there sl8 | exact .there sl9 | exact .there sl10 | exact .there sl11 | exact .there sl12) (.cons (A := slc 2 s1 _) (by with_reducible first | exact sl0 | exact .there sl0 | exact .there sl1 | exact .there sl2 | exact .there sl3 | exact .there sl4 | exact .there sl5 | exact .there sl6 | exact .there sl7 | exact .there sl8 | exact .there sl9 | exact .there sl10 | exact .there sl11 | exact .there sl12) (.same _)))) rfl (by intro v hv; simp at hv; rcases hv with rfl | rfl <;> rfl) (by dsimp only at hl1 ⊢; omega) fun s2 w7 hl2 h => ?_
      refine nn.mk (ldS.mk (Ok.cellS h (by with_reducible first | exact sl0 | exact .there sl0 | exact .there sl1 | exact .there sl2 | exact .there sl3 | exact .there sl4 | exact .there sl5 | exact .there sl6 | exact .there sl7 | exact .there sl8 | exact .there sl9 | exact .there sl10 | exact .there sl11 | exact .there sl12) (rlC_s hW)) ?_)
      refine sb_sub (Ok.emb (h) (.cons (A := slc 2 s _) (by with_reducible first | exact sl0 | exact .there sl0 | exact .there sl1 | exact .there sl2 | exact .there sl3 | exact .there sl4 | exact .there sl5 | exact .there sl6 | exact .there sl7 | exact .there sl8 | exact .there sl9 | exact .there sl10 | exact .there sl11 | exact .there sl12) (.same _))) (Int.natCast_nonneg _) (by omega) (Int.le_refl _) fun x2 hx2 => ?_
      refine ef.appendSub slT_block19 (by decide) (Ok.emb (h) (.cons (A := slc 2 s2 _) (by with_reducible first | exact sl0 | exact .there sl0 | exact .there sl1 | exact .there sl2 | exact .there sl3 | exact .there sl4 | exact .there sl5 | exact .there sl6 | exact .there sl7 | exact .there sl8 | exact .there sl9 | exact .there sl10 | exact .there sl11 | exact .there sl12) (.cons (A := slc 2 s _) (by with_reducible first | exact sl0 | exact .there sl0 | exact .there sl1 | exact .there sl2 | exact .there sl3 | exact .there sl4 | exact .there sl5 | exact .there sl6 | exact .there sl7 | exact .there sl8 | exact .there sl9 | exact .there sl10 | exact .there sl11 | exact .there sl12) (.same _)))) hx2 (by omega) (by dsimp only at hl1 hl2 ⊢; omega) fun s3 w8 hl3 h => ?_
      refine nn.mk (st1.mk (Ok.emb (h) (.cons (A := pts b _) (by with_reducible first | exact sl0 | exact .there sl0 | exact .there sl1 | exact .there sl2 | exact .there sl3 | exact .there sl4 | exact .there sl5 | exact .there sl6 | exact .there sl7 | exact .there sl8 | exact .there sl9 | exact .there sl10 | exact .there sl11 | exact .there sl12) (.same _))) (by rw [rlC_len hW]; omega) fun w9 h => ?_)
      rw [rlC_setS hW] at h
      rw [w64_in (by omega) (by omega)]
      refine k w9 (rplI (q := ⟨q.S, q.L.take i ++ [(frL a q.L i, n)] ++ q.L.drop i, q.g⟩) (p := p) (s := s3) (W := W) hf ?_)
      have e1 : List.drop (Int.toNat 0 * 2) (List.take (Int.toNat (i : Int) * 2) (prs q.L)) = prs (q.L.take i) := by rw [Int.toNat_natCast, prs_take]; rfl
      have e2 : List.drop (Int.toNat (i : Int) * 2) (List.take (Int.toNat (s.len : Int) * 2) (prs q.L)) = prs (q.L.drop i) := by
        rw [Int.toNat_natCast, Int.toNat_natCast, List.take_of_length_le (by rw [prs_len]; omega), prs_drop]
      rw [e1, e2, List.nil_append, prs_snoc, ← prs_append] at h
      dsimp only
      exact (h.emb (by repeat' (first | with_reducible exact Emb.same _ | exact Emb.nil _ | refine Emb.cons (by with_reducible first | exact sl0 | exact .there sl0 | exact .there sl1 | exact .there sl2 | exact .there sl3 | exact .there sl4 | exact .there sl5 | exact .there sl6 | exact .there sl7 | exact .there sl8 | exact .there sl9 | exact .there sl10 | exact .there sl11 | exact .there sl12) ?_ | refine Emb.skip ?_)))
  · have hge : q.L.length + 1 ≤ i := by have := of_decide_eq_false hge; dsimp only at this; omega
    rw [show q.L.length + 1 - i = 0 by omega, fitF] at hfit
    unfold LP.find findL at k
    rw [hfit] at k
    exact k w1 h

theorem Poll_ref19 {e w L b byPri a z q n R} (h : Ok e (rplP b byPri a z q :: L) w) (ho : LPo a z q)
    (k : ∀ w', Ok e (rplP b byPri a z (q.poll a z n).2 :: L) w' → R [.int .i64 (q.poll a z n).1.1, .bool (q.poll a z n).1.2.1, .int .i64 (q.poll a z n).1.2.2] w') : sh17 (some ⟨b, 0, none⟩) n R w := by
  unfold sh17
  unfold LP.poll at k
  refine call41 (may_ref19 h ho ⟨(decide (1 ≤ n ∧ n ≤ z - 8), ()), rfl, ?_⟩)
  dsimp only
  refine cs.mk (fun h1 => ?_) (fun h1 => ?_)
  · have h1 : ¬ (1 ≤ n ∧ n ≤ z - 8) := by rw [Bool.not_eq_true'] at h1; exact of_decide_eq_false h1
    rw [if_neg h1] at k
    exact k w h
  · have h1 : 1 ≤ n ∧ n ≤ z - 8 := by rw [Bool.not_eq_false'] at h1; exact of_decide_eq_true h1
    rw [if_pos h1] at k
    exact call42 (find_ref19 h ho h1 fun w2 h => ⟨((q.find a z n).1.1, (q.find a z n).1.2, ()), rfl, k w2 h⟩)

end Go.Proofs.Ytnghegppcogdbaa.B
