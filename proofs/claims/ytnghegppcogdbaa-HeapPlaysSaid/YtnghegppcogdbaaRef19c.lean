/- Contracts of the laws' own pool of any sizes: Get, fill, Free, Held. -/
import Derived.Test.YtnghegppcogdbaaRef19b
namespace Go.Proofs.Ytnghegppcogdbaa.B
open Go
set_option linter.unusedVariables false

set_option maxHeartbeats 1000000 in
theorem Free_ref19 {e w L b byPri a z q R} (h : Ok e (rplP b byPri a z q :: L) w) (ho : LPo a z q)
    (k : ∀ w', Ok e (rplP b byPri a z q :: L) w' → R [.int .i64 (freeF a (a + z) q.L (q.L.length + 1)).1, .int .i64 (freeF a (a + z) q.L (q.L.length + 1)).2] w') : sh25 (some ⟨b, 0, none⟩) R w := by
  unfold sh25
  have hc := ho.c
  have hlen := ho.len
  refine lp.mk (fun t w' => ∃ i : Nat, t.1 = (freeF a (a + z) q.L i).1 ∧ t.2.1 = (freeF a (a + z) q.L i).2 ∧ t.2.2.1 = (i : Int) ∧ i ≤ q.L.length + 1 ∧ Ok e (rplP b byPri a z q :: L) w') (fun t _ => q.L.length + 1 - t.2.2.1.toNat) ⟨0, rfl, rfl, rfl, Nat.zero_le _, h⟩ ?_
  clear h
  rintro ⟨x', y', i', _⟩ w1 ⟨i, hx, hy, hi, hi1, h⟩
  dsimp only at hx hy hi
  subst hx hy hi
  obtain ⟨p, s, W, hf, hs, h⟩ := rplE h
  refine nn.mk (ldS.mk (Ok.cellS h (by with_reducible first | exact sl0 | exact .there sl0 | exact .there sl1 | exact .there sl2 | exact .there sl3 | exact .there sl4 | exact .there sl5 | exact .there sl6 | exact .there sl7 | exact .there sl8 | exact .there sl9 | exact .there sl10 | exact .there sl11 | exact .there sl12) (rlC_s hf.1)) ?_)
  have h := rplI (q := q) (p := p) (s := s) (W := W) hf h
  refine cs.mk (fun hlt => ?_) (fun hge => ?_)
  · have hlt : i ≤ q.L.length := by have := of_decide_eq_true hlt; dsimp only at this; omega
    have hw : w64 ((i : Int) + 1) = ((i + 1 : Nat) : Int) := by rw [w64_in (by omega) (by omega)]; rfl
    have hg := chL_gap ho.ch hlt
    have hb := freeF_bd ho (i := i) (by omega)
    have hmu : q.L.length + 1 - Int.toNat ((i + 1 : Nat) : Int) < q.L.length + 1 - Int.toNat (i : Int) := by omega
    refine call55 (gap_ref19 h ho hlt fun w2 h => ⟨(frL a q.L i, toL (a + z) q.L i - frL a q.L i, ()), rfl, ?_⟩)
    dsimp only
    rw [hw, w64_in (x := toL (a + z) q.L i - frL a q.L i - 8) (by omega) (by omega), w64_in (x := (freeF a (a + z) q.L i).1 + (toL (a + z) q.L i - frL a q.L i)) (by omega) (by omega)]
    refine cs.mk (fun h1 => ?_) (fun h1 => ?_)
    · have h1 := of_decide_eq_true h1
      exact ⟨⟨i + 1, rfl, by rw [freeF, if_pos h1], rfl, by omega, h⟩, hmu⟩
    · have h1 := of_decide_eq_false h1
      exact ⟨⟨i + 1, rfl, by rw [freeF, if_neg h1], rfl, by omega, h⟩, hmu⟩
  · have hge : q.L.length + 1 ≤ i := by have := of_decide_eq_false hge; dsimp only at this; omega
    obtain rfl : i = q.L.length + 1 := by omega
    exact k w1 h

set_option maxHeartbeats 1000000 in
theorem Held_ref19 {e w L b byPri a z q R} (h : Ok e (rplP b byPri a z q :: L) w) (ho : LPo a z q)
    (k : ∀ r w', r.len = q.L.length → Ok e (slc 1 r (ints (heldB q.L)) :: rplP b byPri a z q :: L) w' → R [vS r] w') : sh27 (some ⟨b, 0, none⟩) R w := by
  unfold sh27
  have hc := ho.c
  have hlen := ho.len
  obtain ⟨p, s, W, hf, hs, h⟩ := rplE h
  have hW := hf.1
  have h := h.slcNil 1
  refine lp.mk (fun t w' => ∃ i : Nat, t.2.1 = (i : Int) ∧ i ≤ q.L.length ∧ Ok e (slc 1 t.1 (ints (heldB (q.L.take i))) :: pts b (rlC p W a z s) :: refP p byPri q.S :: slc 2 s (prs q.L) :: L) w') (fun t _ => q.L.length - t.2.1.toNat) ⟨0, rfl, Nat.zero_le _, h⟩ ?_
  clear h
  rintro ⟨so, i', _⟩ w1 ⟨i, hi, hi1, h⟩
  dsimp only at hi h
  subst hi
  have hso := slc_ints_len h
  unfold heldB at hso
  rw [List.length_map, List.length_take] at hso
  refine nn.mk (ldS.mk (Ok.cellS h (by with_reducible first | exact sl0 | exact .there sl0 | exact .there sl1 | exact .there sl2 | exact .there sl3 | exact .there sl4 | exact .there sl5 | exact .there sl6 | exact .there sl7 | exact .there sl8 | exact .there sl9 | exact .there sl10 | exact .there sl11 | exact .there sl12) (rlC_s hW)) ?_)
  refine cs.mk (fun hlt => ?_) (fun hge => ?_)
  · have hlt : i < q.L.length := by have := of_decide_eq_true hlt; dsimp only at this; omega
    have hw : w64 ((i : Int) + 1) = ((i + 1 : Nat) : Int) := by rw [w64_in (by omega) (by omega)]; rfl
    refine nn.mk (ldS.mk (Ok.cellS h (by with_reducible first | exact sl0 | exact .there sl0 | exact .there sl1 | exact .there sl2 | exact .there sl3 | exact .there sl4 | exact .there sl5 | exact .there sl6 | exact .there sl7 | exact .there sl8 | exact .there sl9 | exact .there sl10 | exact .there sl11 | exact .there sl12) (rlC_s hW)) ?_)
    dsimp only
    refine ix_pr (Ok.emb (h) (.cons (A := slc 2 s (prs q.L)) (by with_reducible first | exact sl0 | exact .there sl0 | exact .there sl1 | exact .there sl2 | exact .there sl3 | exact .there sl4 | exact .there sl5 | exact .there sl6 | exact .there sl7 | exact .there sl8 | exact .there sl9 | exact .there sl10 | exact .there sl11 | exact .there sl12) (.same _))) (Int.natCast_nonneg _) (by omega) fun c o y hy ha1 ho1 c1 c2 => ?_
    rw [Int.toNat_natCast] at hy
    refine ldI.mk (c1 _ ⟨_, (Ok.emb (h) (.cons (A := slc 2 s (prs q.L)) (by with_reducible first | exact sl0 | exact .there sl0 | exact .there sl1 | exact .there sl2 | exact .there sl3 | exact .there sl4 | exact .there sl5 | exact .there sl6 | exact .there sl7 | exact .there sl8 | exact .there sl9 | exact .there sl10 | exact .there sl11 | exact .there sl12) (.same _)))⟩) ?_
    clear c1 c2
    have hm := chL_mem ho.ch (List.mem_of_getElem? hy)
    have ht := tk_ge (n := y.2) (by omega)
    rw [w64_in (x := y.1 + 8) (by omega) (by omega), hw]
    refine al.mk h fun c2 w5 h => ?_
    refine ef.append1 (n := 1) slT_int (by decide) (Ok.emb (h) (.cons (A := pts c2 _) (by with_reducible first | exact sl0 | exact .there sl0 | exact .there sl1 | exact .there sl2 | exact .there sl3 | exact .there sl4 | exact .there sl5 | exact .there sl6 | exact .there sl7 | exact .there sl8 | exact .there sl9 | exact .there sl10 | exact .there sl11 | exact .there sl12) (.cons (A := slc 1 so _) (by with_reducible first | exact sl0 | exact .there sl0 | exact .there sl1 | exact .there sl2 | exact .there sl3 | exact .there sl4 | exact .there sl5 | exact .there sl6 | exact .there sl7 | exact .there sl8 | exact .there sl9 | exact .there sl10 | exact .there sl11 | exact .there sl12) (.same _)))) rfl (by intro v hv; simp at hv; subst hv; rfl) (by omega) fun s2 w7 hl2 h => ?_
    rw [ints_snoc] at h
    refine ⟨⟨i + 1, rfl, hlt, ?_⟩, ?_⟩
    · rw [show heldB (q.L.take (i + 1)) = heldB (q.L.take i) ++ [y.1 + 8] by rw [List.take_add_one, hy]; simp [heldB]]
      exact h
    · show q.L.length - Int.toNat ((i + 1 : Nat) : Int) < q.L.length - Int.toNat (i : Int)
      omega
  · have hge : q.L.length ≤ i := by have := of_decide_eq_false hge; dsimp only at this; omega
    rw [List.take_of_length_le hge] at h
    refine k so w1 (by omega) ?_
    have h := rplI (q := q) (p := p) (s := s) (W := W) hf (Ok.emb (h) (.cons (A := pts b _) (by with_reducible first | exact sl0 | exact .there sl0 | exact .there sl1 | exact .there sl2 | exact .there sl3 | exact .there sl4 | exact .there sl5 | exact .there sl6 | exact .there sl7 | exact .there sl8 | exact .there sl9 | exact .there sl10 | exact .there sl11 | exact .there sl12) (.cons (A := refP p _ _) (by with_reducible first | exact sl0 | exact .there sl0 | exact .there sl1 | exact .there sl2 | exact .there sl3 | exact .there sl4 | exact .there sl5 | exact .there sl6 | exact .there sl7 | exact .there sl8 | exact .there sl9 | exact .there sl10 | exact .there sl11 | exact .there sl12) (.cons (A := slc 2 s _) (by with_reducible first | exact sl0 | exact .there sl0 | exact .there sl1 | exact .there sl2 | exact .there sl3 | exact .there sl4 | exact .there sl5 | exact .there sl6 | exact .there sl7 | exact .there sl8 | exact .there sl9 | exact .there sl10 | exact .there sl11 | exact .there sl12) (.same _)))))
    exact (h.emb (by repeat' (first | with_reducible exact Emb.same _ | exact Emb.nil _ | refine Emb.cons (by with_reducible first | exact sl0 | exact .there sl0 | exact .there sl1 | exact .there sl2 | exact .there sl3 | exact .there sl4 | exact .there sl5 | exact .there sl6 | exact .there sl7 | exact .there sl8 | exact .there sl9 | exact .there sl10 | exact .there sl11 | exact .there sl12) ?_ | refine Emb.skip ?_)))

end Go.Proofs.Ytnghegppcogdbaa.B
