/- Contracts of the laws' own pool of any sizes: Put. -/
import Derived.Test.YtnghegppcogdbaaRef19e
namespace Go.Proofs.Ytnghegppcogdbaa.B
open Go
set_option linter.unusedVariables false

set_option maxHeartbeats 1000000 in
theorem Put_ref19 {e w L b byPri a z q x R} (h : Ok e (rplP b byPri a z q :: L) w) (ho : LPo a z q)
    (k : ∀ r w', r.len = (q.put a z x).1.1.length → Ok e (slc 2 r (prs (q.put a z x).1.1) :: rplP b byPri a z (q.put a z x).2 :: L) w' → R [vS r, .int .i64 (q.put a z x).1.2] w') : sh18 (some ⟨b, 0, none⟩) x R w := by
  unfold sh18
  unfold LP.put at k
  have hc := ho.c
  have hlen := ho.len
  refine lp.mk (fun t w' => ∃ i : Nat, t.1 = (i : Int) ∧ i ≤ q.L.length ∧ (∀ m, m < i → ∀ p, q.L[m]? = some p → p.1 ≠ x - 8) ∧ Ok e (rplP b byPri a z q :: L) w') (fun t _ => q.L.length - t.1.toNat) ⟨0, rfl, Nat.zero_le _, fun m hm => absurd hm (Nat.not_lt_zero _), h⟩ ?_
  clear h
  rintro ⟨i', _⟩ w1 ⟨i, hi, hi1, hno, h⟩
  dsimp only at hi
  subst hi
  obtain ⟨p, s, W, hf, hs, h⟩ := rplE h
  have hW := hf.1
  refine nn.mk (ldS.mk (Ok.cellS h (by with_reducible first | exact sl0 | exact .there sl0 | exact .there sl1 | exact .there sl2 | exact .there sl3 | exact .there sl4 | exact .there sl5 | exact .there sl6 | exact .there sl7 | exact .there sl8 | exact .there sl9 | exact .there sl10 | exact .there sl11 | exact .there sl12) (rlC_s hW)) ?_)
  refine cs.mk (fun hlt => ?_) (fun hge => ?_)
  · have hlt : i < q.L.length := by have := of_decide_eq_true hlt; dsimp only at this; omega
    have hw : w64 ((i : Int) + 1) = ((i + 1 : Nat) : Int) := by rw [w64_in (by omega) (by omega)]; rfl
    refine nn.mk (ldS.mk (Ok.cellS h (by with_reducible first | exact sl0 | exact .there sl0 | exact .there sl1 | exact .there sl2 | exact .there sl3 | exact .there sl4 | exact .there sl5 | exact .there sl6 | exact .there sl7 | exact .there sl8 | exact .there sl9 | exact .there sl10 | exact .there sl11 | exact .there sl12) (rlC_s hW)) ?_)
    dsimp only
    refine ix_pr (Ok.emb (h) (.cons (A := slc 2 s (prs q.L)) (by with_reducible first | exact sl0 | exact .there sl0 | exact .there sl1 | exact .there sl2 | exact .there sl3 | exact .there sl4 | exact .there sl5 | exact .there sl6 | exact .there sl7 | exact .there sl8 | exact .there sl9 | exact .there sl10 | exact .there sl11 | exact .there sl12) (.same _))) (Int.natCast_nonneg _) (by omega) fun c o y hy ha1 ho1 c1 c2 => ldI.mk (c1 _ ⟨_, (Ok.emb (h) (.cons (A := slc 2 s (prs q.L)) (by with_reducible first | exact sl0 | exact .there sl0 | exact .there sl1 | exact .there sl2 | exact .there sl3 | exact .there sl4 | exact .there sl5 | exact .there sl6 | exact .there sl7 | exact .there sl8 | exact .there sl9 | exact .there sl10 | exact .there sl11 | exact .there sl12) (.same _)))⟩) ?_
    rw [Int.toNat_natCast] at hy
    clear c1 c2
    have hm := chL_mem ho.ch (List.mem_of_getElem? hy)
    have ht := tk_ge (n := y.2) (by omega)
    rw [w64_in (x := y.1 + 8) (by omega) (by omega), hw]
    refine cs.mk (fun h1 => ?_) (fun h1 => ?_)
    · have h1 : y.1 ≠ x - 8 := by have := bne_iff_ne.1 h1; omega
      refine ⟨⟨i + 1, rfl, hlt, fun m hm2 p hp => ?_, rplI (q := q) (p := p) (s := s) (W := W) hf h⟩, ?_⟩
      · rcases Nat.lt_or_ge m i with h5 | h5
        · exact hno m h5 p hp
        · obtain rfl : m = i := by omega
          rw [hy] at hp
          cases hp
          exact h1
      · show q.L.length - Int.toNat ((i + 1 : Nat) : Int) < q.L.length - Int.toNat (i : Int)
        omega
    · have h1 : y.1 = x - 8 := by have := bne_eq_false_iff_eq.1 h1; omega
      have hat := atI_some hy h1 hno
      rw [hat, if_pos (Int.natCast_nonneg _)] at k
      dsimp only at k
      rw [Int.toNat_natCast] at k
      refine al.mk h fun c1 w4 h => ?_
      refine nn.mk (ldS.mk (Ok.cellS h (by with_reducible first | exact sl0 | exact .there sl0 | exact .there sl1 | exact .there sl2 | exact .there sl3 | exact .there sl4 | exact .there sl5 | exact .there sl6 | exact .there sl7 | exact .there sl8 | exact .there sl9 | exact .there sl10 | exact .there sl11 | exact .there sl12) (rlC_s hW)) ?_)
      refine sb_sub (Ok.emb (h) (.cons (A := slc 2 s _) (by with_reducible first | exact sl0 | exact .there sl0 | exact .there sl1 | exact .there sl2 | exact .there sl3 | exact .there sl4 | exact .there sl5 | exact .there sl6 | exact .there sl7 | exact .there sl8 | exact .there sl9 | exact .there sl10 | exact .there sl11 | exact .there sl12) (.same _))) (Int.le_refl _) (Int.natCast_nonneg _) (by omega) fun x1 hx1 => ?_
      have h := h.slcNew (n := 0) (sz := 2) rfl (by simp)
      refine ef.appendSub slT_block19 (by decide) (Ok.emb (h) (.cons (A := slc 2 ⟨some ⟨c1, 0, none⟩, 0, 0⟩ _) (by with_reducible first | exact sl0 | exact .there sl0 | exact .there sl1 | exact .there sl2 | exact .there sl3 | exact .there sl4 | exact .there sl5 | exact .there sl6 | exact .there sl7 | exact .there sl8 | exact .there sl9 | exact .there sl10 | exact .there sl11 | exact .there sl12) (.cons (A := slc 2 s _) (by with_reducible first | exact sl0 | exact .there sl0 | exact .there sl1 | exact .there sl2 | exact .there sl3 | exact .there sl4 | exact .there sl5 | exact .there sl6 | exact .there sl7 | exact .there sl8 | exact .there sl9 | exact .there sl10 | exact .there sl11 | exact .there sl12) (.same _)))) hx1 (by omega) (by simp only; omega) fun s1 w5 hl1 h => ?_
      refine nn.mk (ldS.mk (Ok.cellS h (by with_reducible first | exact sl0 | exact .there sl0 | exact .there sl1 | exact .there sl2 | exact .there sl3 | exact .there sl4 | exact .there sl5 | exact .there sl6 | exact .there sl7 | exact .there sl8 | exact .there sl9 | exact .there sl10 | exact .there sl11 | exact .there sl12) (rlC_s hW)) ?_)
      refine sb_sub (Ok.emb (h) (.cons (A := slc 2 s _) (by with_reducible first | exact sl0 | exact .there sl0 | exact .there sl1 | exact .there sl2 | exact .there sl3 | exact .there sl4 | exact .there sl5 | exact .there sl6 | exact .there sl7 | exact .there sl8 | exact .there sl9 | exact .there sl10 | exact .there sl11 | exact .there sl12) (.same _))) (Int.natCast_nonneg _) (by omega) (Int.le_refl _) fun x2 hx2 => ?_
      refine ef.appendSub slT_block19 (by decide) (Ok.emb (h) (.cons (A := slc 2 s1 _) (by with_reducible first | exact sl0 | exact .there sl0 | exact .there sl1 | exact .there sl2 | exact .there sl3 | exact .there sl4 | exact .there sl5 | exact .there sl6 | exact .there sl7 | exact .there sl8 | exact .there sl9 | exact .there sl10 | exact .there sl11 | exact .there sl12) (.cons (A := slc 2 s _) (by with_reducible first | exact sl0 | exact .there sl0 | exact .there sl1 | exact .there sl2 | exact .there sl3 | exact .there sl4 | exact .there sl5 | exact .there sl6 | exact .there sl7 | exact .there sl8 | exact .there sl9 | exact .there sl10 | exact .there sl11 | exact .there sl12) (.same _)))) hx2 (by omega) (by dsimp only at hl1 ⊢; omega) fun s3 w8 hl3 h => ?_
      refine nn.mk (st1.mk (Ok.emb (h) (.cons (A := pts b _) (by with_reducible first | exact sl0 | exact .there sl0 | exact .there sl1 | exact .there sl2 | exact .there sl3 | exact .there sl4 | exact .there sl5 | exact .there sl6 | exact .there sl7 | exact .there sl8 | exact .there sl9 | exact .there sl10 | exact .there sl11 | exact .there sl12) (.same _))) (by rw [rlC_len hW]; omega) fun w9 h => ?_)
      rw [rlC_setS hW] at h
      have e1 : List.drop (Int.toNat 0 * 2) (List.take (Int.toNat (i : Int) * 2) (prs q.L)) = prs (q.L.take i) := by rw [Int.toNat_natCast, prs_take]; rfl
      have e2 : List.drop (Int.toNat ((i + 1 : Nat) : Int) * 2) (List.take (Int.toNat (s.len : Int) * 2) (prs q.L)) = prs (q.L.drop (i + 1)) := by
        rw [Int.toNat_natCast, Int.toNat_natCast, List.take_of_length_le (by rw [prs_len]; omega), prs_drop]
      rw [e1, e2, List.nil_append, ← prs_append] at h
      have h := (Ok.emb (h) (.cons (A := pts b _) (by with_reducible first | exact sl0 | exact .there sl0 | exact .there sl1 | exact .there sl2 | exact .there sl3 | exact .there sl4 | exact .there sl5 | exact .there sl6 | exact .there sl7 | exact .there sl8 | exact .there sl9 | exact .there sl10 | exact .there sl11 | exact .there sl12) (.cons (A := refP p _ _) (by with_reducible first | exact sl0 | exact .there sl0 | exact .there sl1 | exact .there sl2 | exact .there sl3 | exact .there sl4 | exact .there sl5 | exact .there sl6 | exact .there sl7 | exact .there sl8 | exact .there sl9 | exact .there sl10 | exact .there sl11 | exact .there sl12) (.cons (A := slc 2 s3 _) (by with_reducible first | exact sl0 | exact .there sl0 | exact .there sl1 | exact .there sl2 | exact .there sl3 | exact .there sl4 | exact .there sl5 | exact .there sl6 | exact .there sl7 | exact .there sl8 | exact .there sl9 | exact .there sl10 | exact .there sl11 | exact .there sl12) (.same _)))))
      have h := rplI (q := q.cut i) (p := p) (s := s3) (W := W) hf h
      refine call44 (fill_ref19 h (cut_ok ho hlt) fun r w5 hr h => ⟨(r, ()), rfl, ?_⟩)
      exact k r w5 hr (h.emb (by repeat' (first | with_reducible exact Emb.same _ | exact Emb.nil _ | refine Emb.cons (by with_reducible first | exact sl0 | exact .there sl0 | exact .there sl1 | exact .there sl2 | exact .there sl3 | exact .there sl4 | exact .there sl5 | exact .there sl6 | exact .there sl7 | exact .there sl8 | exact .there sl9 | exact .there sl10 | exact .there sl11 | exact .there sl12) ?_ | refine Emb.skip ?_)))
  · have hge : q.L.length ≤ i := by have := of_decide_eq_false hge; dsimp only at this; omega
    have hat : atI q.L (x - 8) = -1 := atI_none fun p hp => by
      obtain ⟨m, hm, rfl⟩ := List.getElem_of_mem hp
      exact hno m (by omega) _ (List.getElem?_eq_getElem hm)
    rw [hat, if_neg (by decide)] at k
    dsimp only at k
    have h := rplI (q := q) (p := p) (s := s) (W := W) hf h
    have h : Ok e (slc 2 ⟨none, 0, 0⟩ (prs []) :: _) w1 := h.slcNil 2
    exact k ⟨none, 0, 0⟩ w1 rfl h

end Go.Proofs.Ytnghegppcogdbaa.B
