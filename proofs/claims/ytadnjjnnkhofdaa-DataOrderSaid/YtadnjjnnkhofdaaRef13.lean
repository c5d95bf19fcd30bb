/- Contracts of the laws' own data queue. -/
import Derived.Test.YtadnjjnnkhofdaaDtq2
import Derived.Test.YtadnjjnnkhofdaaRef4
namespace Go.Proofs.Ytadnjjnnkhofdaa.B
open Go
set_option linter.unusedVariables false

theorem IDs_ref4 {e w L q byPri l R} (h : Ok e (refP q byPri l :: L) w) (hb : l.length ≤ 2 ^ 20) (k : ∀ s w', s.len = l.length → Ok e (slc 1 s (ints (ids l)) :: refP q byPri l :: L) w' → R [vS s] w') : sh52 (some ⟨q, 0, none⟩) R w := by
  unfold sh52
  refine lp.mk (fun t w' => ∃ n : Nat, t.2.1 = (n : Int) ∧ n ≤ l.length ∧ Ok e (slc 1 t.1 (ints (ids (l.take n))) :: refP q byPri l :: L) w')
    (fun t _ => l.length - t.2.1.toNat) ⟨0, rfl, Nat.zero_le _, h.slcNil 1⟩ ?_
  clear h
  rintro ⟨out, i, _⟩ w2 ⟨n, hn, hnl, h⟩
  dsimp only at hn h
  subst hn
  have hout := slc_ints_len h
  rw [List.length_map, List.length_take] at hout
  have h0 := h
  obtain ⟨s, hs, h⟩ := refE (Ok.emb (h) (.cons (A := refP q _ _) (by with_reducible first | exact sl0 | exact .there sl0 | exact .there sl1 | exact .there sl2 | exact .there sl3 | exact .there sl4 | exact .there sl5 | exact .there sl6 | exact .there sl7 | exact .there sl8 | exact .there sl9 | exact .there sl10 | exact .there sl11 | exact .there sl12) (.same _)))
  refine nn.mk (ldS.mk (by refine Ok.cellS h (by with_reducible first | exact sl0 | exact .there sl0 | exact .there sl1 | exact .there sl2 | exact .there sl3 | exact .there sl4 | exact .there sl5 | exact .there sl6 | exact .there sl7 | exact .there sl8 | exact .there sl9 | exact .there sl10 | exact .there sl11 | exact .there sl12) ?_; rfl) ?_)
  refine cs.mk (fun hlt => ?_) (fun hge => ?_)
  · have hlt : n < l.length := by have := of_decide_eq_true hlt; dsimp only at this; omega
    refine nn.mk (ldS.mk (by refine Ok.cellS h (by with_reducible first | exact sl0 | exact .there sl0 | exact .there sl1 | exact .there sl2 | exact .there sl3 | exact .there sl4 | exact .there sl5 | exact .there sl6 | exact .there sl7 | exact .there sl8 | exact .there sl9 | exact .there sl10 | exact .there sl11 | exact .there sl12) ?_; rfl) ?_)
    refine ix_pr (Ok.emb (h) (.cons (A := slc 2 s (prs l)) (by with_reducible first | exact sl0 | exact .there sl0 | exact .there sl1 | exact .there sl2 | exact .there sl3 | exact .there sl4 | exact .there sl5 | exact .there sl6 | exact .there sl7 | exact .there sl8 | exact .there sl9 | exact .there sl10 | exact .there sl11 | exact .there sl12) (.same _))) (by simp) (by simpa using hlt) fun c o x hx _ _ c1 c2 => ldI.mk (c1 _ ⟨_, (Ok.emb (h) (.cons (A := slc 2 s (prs l)) (by with_reducible first | exact sl0 | exact .there sl0 | exact .there sl1 | exact .there sl2 | exact .there sl3 | exact .there sl4 | exact .there sl5 | exact .there sl6 | exact .there sl7 | exact .there sl8 | exact .there sl9 | exact .there sl10 | exact .there sl11 | exact .there sl12) (.same _)))⟩) ?_
    rw [Int.toNat_natCast] at hx
    clear c1 c2
    refine al.mk h fun d2 w6 h => ?_
    refine ef.append1 (n := 1) slT_int (by decide) (Ok.emb (h) (.cons (A := pts d2 _) (by with_reducible first | exact sl0 | exact .there sl0 | exact .there sl1 | exact .there sl2 | exact .there sl3 | exact .there sl4 | exact .there sl5 | exact .there sl6 | exact .there sl7 | exact .there sl8 | exact .there sl9 | exact .there sl10 | exact .there sl11 | exact .there sl12) (.cons (A := slc 1 out _) (by with_reducible first | exact sl0 | exact .there sl0 | exact .there sl1 | exact .there sl2 | exact .there sl3 | exact .there sl4 | exact .there sl5 | exact .there sl6 | exact .there sl7 | exact .there sl8 | exact .there sl9 | exact .there sl10 | exact .there sl11 | exact .there sl12) (.same _)))) rfl (by intro v hv; simp at hv; subst hv; rfl) (by dsimp only; omega) fun r w7 hr h => ?_
    have hw : w64 ((n : Int) + 1) = ((n + 1 : Nat) : Int) := by rw [w64_in (by omega) (by omega)]; rfl
    dsimp only
    rw [hw]
    have h := refI (s := s) (Ok.emb (h) (.cons (A := pts q _) (by with_reducible first | exact sl0 | exact .there sl0 | exact .there sl1 | exact .there sl2 | exact .there sl3 | exact .there sl4 | exact .there sl5 | exact .there sl6 | exact .there sl7 | exact .there sl8 | exact .there sl9 | exact .there sl10 | exact .there sl11 | exact .there sl12) (.cons (A := slc 2 s _) (by with_reducible first | exact sl0 | exact .there sl0 | exact .there sl1 | exact .there sl2 | exact .there sl3 | exact .there sl4 | exact .there sl5 | exact .there sl6 | exact .there sl7 | exact .there sl8 | exact .there sl9 | exact .there sl10 | exact .there sl11 | exact .there sl12) (.same _))))
    refine ⟨⟨n + 1, rfl, hlt, ?_⟩, ?_⟩
    · have h := (Ok.emb (h) (.cons (A := slc 1 r _) (by with_reducible first | exact sl0 | exact .there sl0 | exact .there sl1 | exact .there sl2 | exact .there sl3 | exact .there sl4 | exact .there sl5 | exact .there sl6 | exact .there sl7 | exact .there sl8 | exact .there sl9 | exact .there sl10 | exact .there sl11 | exact .there sl12) (.cons (A := refP q _ _) (by with_reducible first | exact sl0 | exact .there sl0 | exact .there sl1 | exact .there sl2 | exact .there sl3 | exact .there sl4 | exact .there sl5 | exact .there sl6 | exact .there sl7 | exact .there sl8 | exact .there sl9 | exact .there sl10 | exact .there sl11 | exact .there sl12) (.same _))))
      rw [List.take_add_one, hx, ids, List.map_append]
      simpa [ints] using h
    · show l.length - Int.toNat ((n + 1 : Nat) : Int) < l.length - Int.toNat (n : Int)
      omega
  · have hge : l.length ≤ n := by have := of_decide_eq_false hge; dsimp only at this; omega
    rw [List.take_of_length_le hge] at h0
    exact k out w2 (by omega) h0

abbrev rdC (p r : Nat) (W : List Int) (room : Int) (s : Sl) : List Value := .pointer (some ⟨p, 0, none⟩) :: .pointer (some ⟨r, 0, none⟩) :: (ints W ++ [.int .i64 room, vS s])

theorem rdC_room {p r W room s} (hW : W.length = 17) : (rdC p r W room s)[0 + 19]? = some (.int .i64 room) := by
  show (ints W ++ [.int .i64 room, vS s])[17]? = _
  rw [List.getElem?_append_right (by rw [ints_len]; omega), ints_len, hW]; rfl

theorem rdC_s {p r W room s} (hW : W.length = 17) : (rdC p r W room s)[0 + 20]? = some (vS s) := by
  show (ints W ++ [.int .i64 room, vS s])[18]? = _
  rw [List.getElem?_append_right (by rw [ints_len]; omega), ints_len, hW]; rfl

theorem rdC_w {p r W room s} {i : Nat} {x : Int} (h : W[i]? = some x) : (rdC p r W room s)[0 + 2 + i * 1]? = some (.int .i64 x) := by
  rw [show 0 + 2 + i * 1 = i + 1 + 1 by omega]
  show (ints W ++ [.int .i64 room, vS s])[i]? = _
  have hlt := (List.getElem?_eq_some_iff.1 h).1
  rw [List.getElem?_append_left (by rw [ints_len]; exact hlt)]
  exact ints_get h

theorem rdC_setS {p r W room s s'} (hW : W.length = 17) : (rdC p r W room s).set (0 + 20) (vS s') = rdC p r W room s' := by
  show _ :: _ :: (ints W ++ [.int .i64 room, vS s]).set 18 (vS s') = _
  rw [List.set_append_right _ _ (by rw [ints_len]; omega), ints_len, hW]; rfl

theorem rdC_setW {p r W room s} {i : Nat} {x : Int} (h : i < W.length) : (rdC p r W room s).set (0 + 2 + i * 1) (.int .i64 x) = rdC p r (W.set i x) room s := by
  rw [show 0 + 2 + i * 1 = i + 1 + 1 by omega]
  show _ :: _ :: (ints W ++ [.int .i64 room, vS s]).set i (.int .i64 x) = _
  rw [List.set_append_left _ _ (by rw [ints_len]; exact h)]
  simp [rdC, ints, List.map_set]

theorem rdC_len {p r W room s} (hW : W.length = 17) : (rdC p r W room s).length = 21 := by simp [hW]

def heldW (S : List (Int × Int)) (g : Int → Int) (W : List Int) : Prop := W.length = 17 ∧ ∀ i ∈ ids S, W[i.toNat]? = some (g i)

def rdqP (u : Nat) (byPri : Bool) (room : Int) (q : DQ) : SP := fun h => ∃ p r s W, heldW q.S q.g W ∧ oksH [pts u (rdC p r W room s), refP p byPri q.S, refP r false q.V, slc 1 s (ints q.D)] h

theorem rdqE {e w L u byPri room q} (h : Ok e (rdqP u byPri room q :: L) w) : ∃ p r s W, heldW q.S q.g W ∧ q.D.length = s.len ∧ Ok e (pts u (rdC p r W room s) :: refP p byPri q.S :: refP r false q.V :: slc 1 s (ints q.D) :: L) w := by
  obtain ⟨p, h⟩ := h.exE
  obtain ⟨r, h⟩ := h.exE
  obtain ⟨s, h⟩ := h.exE
  obtain ⟨W, h⟩ := h.exE
  obtain ⟨hf, h⟩ := h.pureE
  have h := h.unpack
  exact ⟨p, r, s, W, hf, slc_ints_len h.p3, h⟩

theorem rdqI {e w L u byPri room q p r s W} (hf : heldW q.S q.g W) (h : Ok e (pts u (rdC p r W room s) :: refP p byPri q.S :: refP r false q.V :: slc 1 s (ints q.D) :: L) w) : Ok e (rdqP u byPri room q :: L) w :=
  (Ok.pack (M := [pts u (rdC p r W room s), refP p byPri q.S, refP r false q.V, slc 1 s (ints q.D)]) h).imp fun k hk => ⟨p, r, s, W, hf, hk⟩

theorem New_ref13 {e w L byPri room R} (h : Ok e L w) (k0 : ¬ (0 ≤ room ∧ room ≤ 64) → R [.pointer none, .int .i64 (-17)] w) (k1 : 0 ≤ room ∧ room ≤ 64 → ∀ b w', Ok e (rdqP b byPri room dqNew :: L) w' → R [.pointer (some ⟨b, 0, none⟩), .int .i64 0] w') : sh22 byPri room R w := by
  unfold sh22
  refine jn.bool (decide (¬ (0 ≤ room ∧ room ≤ 64))) (fun J hJ => cs.mk (fun h1 => ?_) (fun h1 => ?_)) ?_
  · have h1 := of_decide_eq_true h1
    rw [decide_eq_true (by omega)] at hJ
    exact hJ
  · have h1 := of_decide_eq_false h1
    rw [show decide (room > 64) = decide (¬ (0 ≤ room ∧ room ≤ 64)) from decide_eq_decide.2 (by omega)]
    exact hJ
  refine cs.mk (fun h1 => k0 (of_decide_eq_true h1)) (fun h1 => ?_)
  have h1 : 0 ≤ room ∧ room ≤ 64 := Decidable.not_not.1 (of_decide_eq_false h1)
  refine al.mk h fun p w1 h => al.mk h fun r w2 h => al.mk h fun b w4 h => k1 h1 b w4 ?_
  have h : Ok e (pts b (rdC p r (List.replicate 17 0) room ⟨none, 0, 0⟩) :: pts r [.bool false, vS ⟨none, 0, 0⟩] :: pts p [.bool byPri, vS ⟨none, 0, 0⟩] :: L) w4 := h
  have h := refI (l := []) (h.slcNil 2).p3
  have h := refI (l := []) (h.slcNil 2).p3
  have h := (h.slcNil 1)
  have h := (Ok.emb (h) (.cons (A := pts b _) (by with_reducible first | exact sl0 | exact .there sl0 | exact .there sl1 | exact .there sl2 | exact .there sl3 | exact .there sl4 | exact .there sl5 | exact .there sl6 | exact .there sl7 | exact .there sl8 | exact .there sl9 | exact .there sl10 | exact .there sl11 | exact .there sl12) (.cons (A := refP p byPri []) (by with_reducible first | exact sl0 | exact .there sl0 | exact .there sl1 | exact .there sl2 | exact .there sl3 | exact .there sl4 | exact .there sl5 | exact .there sl6 | exact .there sl7 | exact .there sl8 | exact .there sl9 | exact .there sl10 | exact .there sl11 | exact .there sl12) (.cons (A := refP r false []) (by with_reducible first | exact sl0 | exact .there sl0 | exact .there sl1 | exact .there sl2 | exact .there sl3 | exact .there sl4 | exact .there sl5 | exact .there sl6 | exact .there sl7 | exact .there sl8 | exact .there sl9 | exact .there sl10 | exact .there sl11 | exact .there sl12) (.cons (A := slc 1 ⟨none, 0, 0⟩ []) (by with_reducible first | exact sl0 | exact .there sl0 | exact .there sl1 | exact .there sl2 | exact .there sl3 | exact .there sl4 | exact .there sl5 | exact .there sl6 | exact .there sl7 | exact .there sl8 | exact .there sl9 | exact .there sl10 | exact .there sl11 | exact .there sl12) (.same _))))))
  exact rdqI (q := dqNew) (s := ⟨none, 0, 0⟩) ⟨rfl, fun i hi => by simp [dqNew] at hi⟩ h

theorem TrySend_ref13 {e w L b byPri room q d R} (h : Ok e (rdqP b byPri room q :: L) w) (ho : q.ok room)
    (k : ∀ w', Ok e (rdqP b byPri room (q.trySend room d).2 :: L) w' → R [.bool (q.trySend room d).1.1, .int .i64 (q.trySend room d).1.2] w') : sh24 (some ⟨b, 0, none⟩) d R w := by
  unfold sh24
  unfold DQ.trySend at k
  obtain ⟨h1, h2, h3, h4⟩ := ho
  have l2 := okL_len h2
  obtain ⟨p, r, s, W, hf, hs, h⟩ := rdqE h
  have hW := hf.1
  refine nn.mk (ldP.mk (by refine Ok.cellS h (by with_reducible first | exact sl0 | exact .there sl0 | exact .there sl1 | exact .there sl2 | exact .there sl3 | exact .there sl4 | exact .there sl5 | exact .there sl6 | exact .there sl7 | exact .there sl8 | exact .there sl9 | exact .there sl10 | exact .there sl11 | exact .there sl12) ?_; rfl) ?_)
  refine call46 (Take_ref4 (Ok.emb (h) (.cons (A := refP r _ _) (by with_reducible first | exact sl0 | exact .there sl0 | exact .there sl1 | exact .there sl2 | exact .there sl3 | exact .there sl4 | exact .there sl5 | exact .there sl6 | exact .there sl7 | exact .there sl8 | exact .there sl9 | exact .there sl10 | exact .there sl11 | exact .there sl12) (.same _))) (by omega) fun w1 h => ⟨(((q.V.head?.getD (0, 0)).1, (q.V.head?.getD (0, 0)).2, ()), !q.V.isEmpty, ()), rfl, ?_⟩)
  refine al.mk h fun c w2 h => st1.mk h (by simp) fun w3 h => st1.mk h (by simp) fun w4 h => ?_
  dsimp only
  obtain ⟨S, V, D, g⟩ := q
  dsimp only at *
  cases V with
  | cons x V =>
    refine cs.yes rfl (dr.mk h fun w5 h => ldI.mk (h.cell rfl) (k w5 ?_))
    exact rdqI (q := ⟨S, V, D, g⟩) hf (h.emb (by repeat' (first | with_reducible exact Emb.same _ | exact Emb.nil _ | refine Emb.cons (by with_reducible first | exact sl0 | exact .there sl0 | exact .there sl1 | exact .there sl2 | exact .there sl3 | exact .there sl4 | exact .there sl5 | exact .there sl6 | exact .there sl7 | exact .there sl8 | exact .there sl9 | exact .there sl10 | exact .there sl11 | exact .there sl12) ?_ | refine Emb.skip ?_)))
  | nil =>
    refine cs.no rfl (dr.mk h fun w5 h => ?_)
    refine nn.mk (ldS.mk (Ok.cellS h (by with_reducible first | exact sl0 | exact .there sl0 | exact .there sl1 | exact .there sl2 | exact .there sl3 | exact .there sl4 | exact .there sl5 | exact .there sl6 | exact .there sl7 | exact .there sl8 | exact .there sl9 | exact .there sl10 | exact .there sl11 | exact .there sl12) (rdC_s hW)) (nn.mk (ldI.mk (Ok.cellS h (by with_reducible first | exact sl0 | exact .there sl0 | exact .there sl1 | exact .there sl2 | exact .there sl3 | exact .there sl4 | exact .there sl5 | exact .there sl6 | exact .there sl7 | exact .there sl8 | exact .there sl9 | exact .there sl10 | exact .there sl11 | exact .there sl12) (rdC_room hW)) ?_)))
    refine cs.mk (fun hc => ?_) (fun hc => ?_)
    · have hc := of_decide_eq_true hc
      rw [← hs] at hc
      have hc : ¬ (D.length : Int) ≥ room := by omega
      simp only [if_neg hc] at k
      refine al.mk h fun c2 w6 h => ?_
      refine nn.mk (ldS.mk (Ok.cellS h (by with_reducible first | exact sl0 | exact .there sl0 | exact .there sl1 | exact .there sl2 | exact .there sl3 | exact .there sl4 | exact .there sl5 | exact .there sl6 | exact .there sl7 | exact .there sl8 | exact .there sl9 | exact .there sl10 | exact .there sl11 | exact .there sl12) (rdC_s hW)) ?_)
      have h := h.slcNew (n := 0) (sz := 1) rfl (by simp)
      refine ef.append2 slT_int (by decide) (Ok.emb (h) (.cons (A := slc 1 ⟨some ⟨c2, 0, none⟩, 0, 0⟩ _) (by with_reducible first | exact sl0 | exact .there sl0 | exact .there sl1 | exact .there sl2 | exact .there sl3 | exact .there sl4 | exact .there sl5 | exact .there sl6 | exact .there sl7 | exact .there sl8 | exact .there sl9 | exact .there sl10 | exact .there sl11 | exact .there sl12) (.cons (A := slc 1 s _) (by with_reducible first | exact sl0 | exact .there sl0 | exact .there sl1 | exact .there sl2 | exact .there sl3 | exact .there sl4 | exact .there sl5 | exact .there sl6 | exact .there sl7 | exact .there sl8 | exact .there sl9 | exact .there sl10 | exact .there sl11 | exact .there sl12) (.same _)))) (by dsimp only; omega) fun s1 w7 hl1 h => ?_
      refine al.mk h fun c3 w8 h => ?_
      refine ef.append1 (n := 1) slT_int (by decide) (Ok.emb (h) (.cons (A := pts c3 _) (by with_reducible first | exact sl0 | exact .there sl0 | exact .there sl1 | exact .there sl2 | exact .there sl3 | exact .there sl4 | exact .there sl5 | exact .there sl6 | exact .there sl7 | exact .there sl8 | exact .there sl9 | exact .there sl10 | exact .there sl11 | exact .there sl12) (.cons (A := slc 1 s1 _) (by with_reducible first | exact sl0 | exact .there sl0 | exact .there sl1 | exact .there sl2 | exact .there sl3 | exact .there sl4 | exact .there sl5 | exact .there sl6 | exact .there sl7 | exact .there sl8 | exact .there sl9 | exact .there sl10 | exact .there sl11 | exact .there sl12) (.same _)))) rfl (by intro v hv; simp at hv; subst hv; rfl) (by dsimp only at hl1 ⊢; omega) fun s2 w9 hl2 h => ?_
      refine nn.mk (st1.mk (Ok.emb (h) (.cons (A := pts b _) (by with_reducible first | exact sl0 | exact .there sl0 | exact .there sl1 | exact .there sl2 | exact .there sl3 | exact .there sl4 | exact .there sl5 | exact .there sl6 | exact .there sl7 | exact .there sl8 | exact .there sl9 | exact .there sl10 | exact .there sl11 | exact .there sl12) (.same _))) (by rw [rdC_len hW]; decide) fun w10 h => k w10 ?_)
      rw [List.nil_append, ints_snoc, rdC_setS hW] at h
      exact rdqI (q := ⟨S, [], D ++ [d], g⟩) (s := s2) hf (h.emb (by repeat' (first | with_reducible exact Emb.same _ | exact Emb.nil _ | refine Emb.cons (by with_reducible first | exact sl0 | exact .there sl0 | exact .there sl1 | exact .there sl2 | exact .there sl3 | exact .there sl4 | exact .there sl5 | exact .there sl6 | exact .there sl7 | exact .there sl8 | exact .there sl9 | exact .there sl10 | exact .there sl11 | exact .there sl12) ?_ | refine Emb.skip ?_)))
    · have hc := of_decide_eq_false hc
      rw [← hs] at hc
      have hc : (D.length : Int) ≥ room := by omega
      simp only [if_pos hc] at k
      exact k w5 (rdqI (q := ⟨S, [], D, g⟩) hf (h.emb (by repeat' (first | with_reducible exact Emb.same _ | exact Emb.nil _ | refine Emb.cons (by with_reducible first | exact sl0 | exact .there sl0 | exact .there sl1 | exact .there sl2 | exact .there sl3 | exact .there sl4 | exact .there sl5 | exact .there sl6 | exact .there sl7 | exact .there sl8 | exact .there sl9 | exact .there sl10 | exact .there sl11 | exact .there sl12) ?_ | refine Emb.skip ?_))))

theorem trySend_no {room q d} (h : (DQ.trySend room q d).1.1 = false) : (q.trySend room d) = ((false, 0), q) ∧ q.V = [] ∧ room ≤ q.D.length := by
  unfold DQ.trySend at h ⊢
  split at h
  · cases h
  · next hv =>
    split at h
    · next h5 => rw [hv]; simp only [if_pos h5]; exact ⟨trivial, trivial, by omega⟩
    · cases h

theorem Send_ref13 {e w L b byPri room q task pri d R} (h : Ok e (rdqP b byPri room q :: L) w) (ho : q.ok room)
    (k : ∀ w', Ok e (rdqP b byPri room (q.send byPri room task pri d).2 :: L) w' → R [.bool (q.send byPri room task pri d).1.1, .int .i64 (q.send byPri room task pri d).1.2.1, .int .i64 (q.send byPri room task pri d).1.2.2] w') : sh23 (some ⟨b, 0, none⟩) task pri d R w := by
  unfold sh23
  unfold DQ.send at k
  refine call24 (TrySend_ref13 h ho fun w1 h => ⟨((q.trySend room d).1.1, (q.trySend room d).1.2, ()), rfl, ?_⟩)
  dsimp only
  refine cs.mk (fun hc => ?_) (fun hc => ?_)
  · simp only [hc, if_true] at k
    exact k w1 h
  simp only [hc, Bool.false_eq_true, if_false] at k
  obtain ⟨hq1, hq2, hq3⟩ := trySend_no hc
  rw [hq1] at h
  have l1 := okL_len ho.1
  refine call43 (Good_ref4 h ⟨(decide (1 ≤ task ∧ task ≤ 16 ∧ 1 ≤ pri ∧ pri ≤ 16), ()), rfl, ?_⟩)
  dsimp only
  refine cs.mk (fun hg => ?_) (fun hg => ?_)
  · have hg : ¬ (1 ≤ task ∧ task ≤ 16 ∧ 1 ≤ pri ∧ pri ≤ 16) := by rw [Bool.not_eq_true'] at hg; exact of_decide_eq_false hg
    have ha : addL byPri q.S task pri = (-17, q.S) := by unfold addL; rw [if_pos (by omega)]
    rw [ha] at k
    exact k w1 h
  obtain ⟨p, r, s, W, hf, hs, h⟩ := rdqE h
  dsimp only at hf hs h
  have hW := hf.1
  refine nn.mk (ldP.mk (by refine Ok.cellS h (by with_reducible first | exact sl0 | exact .there sl0 | exact .there sl1 | exact .there sl2 | exact .there sl3 | exact .there sl4 | exact .there sl5 | exact .there sl6 | exact .there sl7 | exact .there sl8 | exact .there sl9 | exact .there sl10 | exact .there sl11 | exact .there sl12) ?_; rfl) ?_)
  refine call44 (At_ref4 (Ok.emb (h) (.cons (A := refP r _ _) (by with_reducible first | exact sl0 | exact .there sl0 | exact .there sl1 | exact .there sl2 | exact .there sl3 | exact .there sl4 | exact .there sl5 | exact .there sl6 | exact .there sl7 | exact .there sl8 | exact .there sl9 | exact .there sl10 | exact .there sl11 | exact .there sl12) (.same _))) (by rw [hq2]; simp) ⟨((-1 : Int), ()), by rw [hq2]; rfl, ?_⟩)
  refine cs.no rfl (nn.mk (ldP.mk (by refine Ok.cellS h (by with_reducible first | exact sl0 | exact .there sl0 | exact .there sl1 | exact .there sl2 | exact .there sl3 | exact .there sl4 | exact .there sl5 | exact .there sl6 | exact .there sl7 | exact .there sl8 | exact .there sl9 | exact .there sl10 | exact .there sl11 | exact .there sl12) ?_; rfl) ?_))
  refine call45 (Add_ref4 (Ok.emb (h) (.cons (A := refP p _ _) (by with_reducible first | exact sl0 | exact .there sl0 | exact .there sl1 | exact .there sl2 | exact .there sl3 | exact .there sl4 | exact .there sl5 | exact .there sl6 | exact .there sl7 | exact .there sl8 | exact .there sl9 | exact .there sl10 | exact .there sl11 | exact .there sl12) (.same _))) (by omega) fun w3 h => ⟨((addL byPri q.S task pri).1, ()), rfl, ?_⟩)
  dsimp only
  refine jn.at () (fun w' => Ok e (rdqP b byPri room ⟨(addL byPri q.S task pri).2, q.V, q.D, if (addL byPri q.S task pri).1 = 0 then fun i => if i = task then d else q.g i else q.g⟩ :: L) w') (fun J hJ => cs.mk (fun hc => ?_) (fun hc => ?_)) (fun w' h => k w' h)
  · have hc : (addL byPri q.S task pri).1 = 0 := by simpa using hc
    obtain ⟨⟨t1, t2⟩, t3, _⟩ := addL_zero hc
    rw [if_pos hc] at hJ
    refine nn.mk ⟨by omega, by omega, ?_⟩
    refine st1.mk (Ok.emb (h) (.cons (A := pts b _) (by with_reducible first | exact sl0 | exact .there sl0 | exact .there sl1 | exact .there sl2 | exact .there sl3 | exact .there sl4 | exact .there sl5 | exact .there sl6 | exact .there sl7 | exact .there sl8 | exact .there sl9 | exact .there sl10 | exact .there sl11 | exact .there sl12) (.same _))) (by rw [rdC_len hW]; omega) fun w4 h => hJ w4 ?_
    rw [rdC_setW (by omega)] at h
    refine rdqI (W := W.set task.toNat d) (q := ⟨(addL byPri q.S task pri).2, q.V, q.D, fun i => if i = task then d else q.g i⟩) ⟨by simpa using hW, fun i hi => ?_⟩ (h.emb (by repeat' (first | with_reducible exact Emb.same _ | exact Emb.nil _ | refine Emb.cons (by with_reducible first | exact sl0 | exact .there sl0 | exact .there sl1 | exact .there sl2 | exact .there sl3 | exact .there sl4 | exact .there sl5 | exact .there sl6 | exact .there sl7 | exact .there sl8 | exact .there sl9 | exact .there sl10 | exact .there sl11 | exact .there sl12) ?_ | refine Emb.skip ?_)))
    by_cases hi2 : i = task
    · subst hi2
      rw [List.getElem?_set_self (by omega)]
      simp
    · rcases addL_mem hi with h5 | h5
      · exact absurd h5.2 hi2
      · have := ho.1.2 i h5
        rw [List.getElem?_set_ne (by omega), hf.2 i h5]
        simp [hi2]
  · have hc : (addL byPri q.S task pri).1 ≠ 0 := by simpa using hc
    rw [if_neg hc] at hJ
    refine hJ w3 (rdqI (q := ⟨(addL byPri q.S task pri).2, q.V, q.D, q.g⟩) ⟨hW, fun i hi => ?_⟩ (h.emb (by repeat' (first | with_reducible exact Emb.same _ | exact Emb.nil _ | refine Emb.cons (by with_reducible first | exact sl0 | exact .there sl0 | exact .there sl1 | exact .there sl2 | exact .there sl3 | exact .there sl4 | exact .there sl5 | exact .there sl6 | exact .there sl7 | exact .there sl8 | exact .there sl9 | exact .there sl10 | exact .there sl11 | exact .there sl12) ?_ | refine Emb.skip ?_))))
    rw [addL_other hc] at hi
    exact hf.2 i hi

theorem Force_ref13 {e w L b byPri room q d R} (h : Ok e (rdqP b byPri room q :: L) w) (ho : q.ok room)
    (k : ∀ w', Ok e (rdqP b byPri room (q.force room d).2 :: L) w' → R [.int .i64 (q.force room d).1.1, .int .i64 (q.force room d).1.2] w') : sh25 (some ⟨b, 0, none⟩) d R w := by
  unfold sh25
  unfold DQ.force at k
  have h0 := h
  obtain ⟨p, r, s, W, hf, hs, h⟩ := rdqE h0
  refine nn.mk (ldI.mk (Ok.cellS h (by with_reducible first | exact sl0 | exact .there sl0 | exact .there sl1 | exact .there sl2 | exact .there sl3 | exact .there sl4 | exact .there sl5 | exact .there sl6 | exact .there sl7 | exact .there sl8 | exact .there sl9 | exact .there sl10 | exact .there sl11 | exact .there sl12) (rdC_room hf.1)) ?_)
  refine cs.mk (fun hc => ?_) (fun hc => ?_)
  · have hc : room = 0 := by simpa using hc
    rw [if_pos hc] at k
    exact k w h0
  have hc : ¬ room = 0 := by simpa using hc
  rw [if_neg hc] at k
  clear h hs hf
  refine call24 (TrySend_ref13 h0 ho fun w1 h => ⟨((q.trySend room d).1.1, (q.trySend room d).1.2, ()), rfl, ?_⟩)
  dsimp only
  refine cs.mk (fun hc2 => ?_) (fun hc2 => ?_)
  · have hc2 : (q.trySend room d).1.1 = false := by simpa using hc2
    simp only [hc2, Bool.false_eq_true, if_false] at k
    obtain ⟨hq1, hq2, hq3⟩ := trySend_no hc2
    rw [hq1] at h ⊢
    have hD := ho.2.2
    refine al.mk h fun c2 w3 h => ?_
    obtain ⟨p, r, s, W, hf, hs, h⟩ := rdqE h.p1
    dsimp only at hf hs h
    have hW := hf.1
    refine nn.mk (ldS.mk (Ok.cellS h (by with_reducible first | exact sl0 | exact .there sl0 | exact .there sl1 | exact .there sl2 | exact .there sl3 | exact .there sl4 | exact .there sl5 | exact .there sl6 | exact .there sl7 | exact .there sl8 | exact .there sl9 | exact .there sl10 | exact .there sl11 | exact .there sl12) (rdC_s hW)) ?_)
    refine sb_sub (Ok.emb (h) (.cons (A := slc 1 s (ints q.D)) (by with_reducible first | exact sl0 | exact .there sl0 | exact .there sl1 | exact .there sl2 | exact .there sl3 | exact .there sl4 | exact .there sl5 | exact .there sl6 | exact .there sl7 | exact .there sl8 | exact .there sl9 | exact .there sl10 | exact .there sl11 | exact .there sl12) (.same _))) (by omega) (by omega) (Int.le_refl _) fun y hy => ?_
    have h := ((Ok.emb (h) (.cons (A := pts c2 _) (by with_reducible first | exact sl0 | exact .there sl0 | exact .there sl1 | exact .there sl2 | exact .there sl3 | exact .there sl4 | exact .there sl5 | exact .there sl6 | exact .there sl7 | exact .there sl8 | exact .there sl9 | exact .there sl10 | exact .there sl11 | exact .there sl12) (.same _)))).slcNew (n := 0) (sz := 1) rfl (by simp)
    refine ef.appendSub slT_int (by decide) (Ok.emb (h) (.cons (A := slc 1 ⟨some ⟨c2, 0, none⟩, 0, 0⟩ _) (by with_reducible first | exact sl0 | exact .there sl0 | exact .there sl1 | exact .there sl2 | exact .there sl3 | exact .there sl4 | exact .there sl5 | exact .there sl6 | exact .there sl7 | exact .there sl8 | exact .there sl9 | exact .there sl10 | exact .there sl11 | exact .there sl12) (.cons (A := slc 1 s (ints q.D)) (by with_reducible first | exact sl0 | exact .there sl0 | exact .there sl1 | exact .there sl2 | exact .there sl3 | exact .there sl4 | exact .there sl5 | exact .there sl6 | exact .there sl7 | exact .there sl8 | exact .there sl9 | exact .there sl10 | exact .there sl11 | exact .there sl12) (.same _)))) hy (by omega) (by dsimp only; omega) fun s1 w7 hl1 h => ?_
    rw [Nat.mul_one, Nat.mul_one, List.nil_append, ints_tail hs] at h
    refine al.mk h fun c3 w8 h => ?_
    refine ef.append1 (n := 1) slT_int (by decide) (Ok.emb (h) (.cons (A := pts c3 _) (by with_reducible first | exact sl0 | exact .there sl0 | exact .there sl1 | exact .there sl2 | exact .there sl3 | exact .there sl4 | exact .there sl5 | exact .there sl6 | exact .there sl7 | exact .there sl8 | exact .there sl9 | exact .there sl10 | exact .there sl11 | exact .there sl12) (.cons (A := slc 1 s1 _) (by with_reducible first | exact sl0 | exact .there sl0 | exact .there sl1 | exact .there sl2 | exact .there sl3 | exact .there sl4 | exact .there sl5 | exact .there sl6 | exact .there sl7 | exact .there sl8 | exact .there sl9 | exact .there sl10 | exact .there sl11 | exact .there sl12) (.same _)))) rfl (by intro v hv; simp at hv; subst hv; rfl) (by dsimp only at hl1 ⊢; omega) fun s2 w9 hl2 h => ?_
    refine nn.mk (st1.mk (Ok.emb (h) (.cons (A := pts b _) (by with_reducible first | exact sl0 | exact .there sl0 | exact .there sl1 | exact .there sl2 | exact .there sl3 | exact .there sl4 | exact .there sl5 | exact .there sl6 | exact .there sl7 | exact .there sl8 | exact .there sl9 | exact .there sl10 | exact .there sl11 | exact .there sl12) (.same _))) (by rw [rdC_len hW]; decide) fun w10 h => k w10 ?_)
    rw [ints_snoc, rdC_setS hW] at h
    exact rdqI (q := ⟨q.S, q.V, q.D.tail ++ [d], q.g⟩) (s := s2) hf (h.emb (by repeat' (first | with_reducible exact Emb.same _ | exact Emb.nil _ | refine Emb.cons (by with_reducible first | exact sl0 | exact .there sl0 | exact .there sl1 | exact .there sl2 | exact .there sl3 | exact .there sl4 | exact .there sl5 | exact .there sl6 | exact .there sl7 | exact .there sl8 | exact .there sl9 | exact .there sl10 | exact .there sl11 | exact .there sl12) ?_ | refine Emb.skip ?_)))
  · have hc2 : (q.trySend room d).1.1 = true := by simpa using hc2
    simp only [hc2, if_true] at k
    exact k w1 h

theorem Drop_ref13 {e w L b byPri room q task R} (h : Ok e (rdqP b byPri room q :: L) w) (ho : q.ok room)
    (k : ∀ w', Ok e (rdqP b byPri room (q.drop task).2 :: L) w' → R [.bool (q.drop task).1] w') : sh29 (some ⟨b, 0, none⟩) task R w := by
  unfold sh29
  unfold DQ.drop at k
  have l1 := okL_len ho.1
  have l2 := okL_len ho.2.1
  obtain ⟨p, r, s, W, hf, hs, h⟩ := rdqE h
  have hW := hf.1
  refine nn.mk (ldP.mk (by refine Ok.cellS h (by with_reducible first | exact sl0 | exact .there sl0 | exact .there sl1 | exact .there sl2 | exact .there sl3 | exact .there sl4 | exact .there sl5 | exact .there sl6 | exact .there sl7 | exact .there sl8 | exact .there sl9 | exact .there sl10 | exact .there sl11 | exact .there sl12) ?_; rfl) ?_)
  refine call47 (Remove_ref4 (Ok.emb (h) (.cons (A := refP p _ _) (by with_reducible first | exact sl0 | exact .there sl0 | exact .there sl1 | exact .there sl2 | exact .there sl3 | exact .there sl4 | exact .there sl5 | exact .there sl6 | exact .there sl7 | exact .there sl8 | exact .there sl9 | exact .there sl10 | exact .there sl11 | exact .there sl12) (.same _))) (by omega) fun w2 h => ⟨(decide (0 ≤ atI q.S task), ()), rfl, ?_⟩)
  have hf2 : heldW (rmL q.S task) q.g W := ⟨hW, fun i hi => hf.2 i (((rmL_sub q.S task).map Prod.fst).subset hi)⟩
  dsimp only
  by_cases hc : 0 ≤ atI q.S task
  · rw [if_pos hc] at k
    refine jn.bool true (fun J hJ => cs.yes (by simpa using hc) hJ) (k _ ?_)
    exact rdqI (q := ⟨rmL q.S task, q.V, q.D, q.g⟩) hf2 (h.emb (by repeat' (first | with_reducible exact Emb.same _ | exact Emb.nil _ | refine Emb.cons (by with_reducible first | exact sl0 | exact .there sl0 | exact .there sl1 | exact .there sl2 | exact .there sl3 | exact .there sl4 | exact .there sl5 | exact .there sl6 | exact .there sl7 | exact .there sl8 | exact .there sl9 | exact .there sl10 | exact .there sl11 | exact .there sl12) ?_ | refine Emb.skip ?_)))
  · rw [if_neg hc] at k
    rw [rmL_none (by omega)] at hf2 h
    refine jn.at (decide (0 ≤ atI q.V task), ()) (fun w' => Ok e (rdqP b byPri room ⟨q.S, rmL q.V task, q.D, q.g⟩ :: L) w') (fun J hJ => cs.no (by simpa using hc) ?_) (fun w' h => k w' h)
    refine nn.mk (ldP.mk (by refine Ok.cellS h (by with_reducible first | exact sl0 | exact .there sl0 | exact .there sl1 | exact .there sl2 | exact .there sl3 | exact .there sl4 | exact .there sl5 | exact .there sl6 | exact .there sl7 | exact .there sl8 | exact .there sl9 | exact .there sl10 | exact .there sl11 | exact .there sl12) ?_; rfl) ?_)
    refine call47 (Remove_ref4 (Ok.emb (h) (.cons (A := refP r _ _) (by with_reducible first | exact sl0 | exact .there sl0 | exact .there sl1 | exact .there sl2 | exact .there sl3 | exact .there sl4 | exact .there sl5 | exact .there sl6 | exact .there sl7 | exact .there sl8 | exact .there sl9 | exact .there sl10 | exact .there sl11 | exact .there sl12) (.same _))) (by omega) fun w3 h => ⟨(decide (0 ≤ atI q.V task), ()), rfl, ?_⟩)
    exact hJ _ (rdqI (q := ⟨q.S, rmL q.V task, q.D, q.g⟩) hf2 (h.emb (by repeat' (first | with_reducible exact Emb.same _ | exact Emb.nil _ | refine Emb.cons (by with_reducible first | exact sl0 | exact .there sl0 | exact .there sl1 | exact .there sl2 | exact .there sl3 | exact .there sl4 | exact .there sl5 | exact .there sl6 | exact .there sl7 | exact .there sl8 | exact .there sl9 | exact .there sl10 | exact .there sl11 | exact .there sl12) ?_ | refine Emb.skip ?_))))

theorem Change_ref13 {e w L b byPri room q task pri R} (h : Ok e (rdqP b byPri room q :: L) w) (ho : q.ok room)
    (k : ∀ w', Ok e (rdqP b byPri room (q.change byPri task pri).2 :: L) w' → R [.bool (q.change byPri task pri).1] w') : sh31 (some ⟨b, 0, none⟩) task pri R w := by
  unfold sh31
  unfold DQ.change at k
  have l1 := okL_len ho.1
  have l2 := okL_len ho.2.1
  obtain ⟨p, r, s, W, hf, hs, h⟩ := rdqE h
  have hW := hf.1
  refine nn.mk (ldP.mk (by refine Ok.cellS h (by with_reducible first | exact sl0 | exact .there sl0 | exact .there sl1 | exact .there sl2 | exact .there sl3 | exact .there sl4 | exact .there sl5 | exact .there sl6 | exact .there sl7 | exact .there sl8 | exact .there sl9 | exact .there sl10 | exact .there sl11 | exact .there sl12) ?_; rfl) ?_)
  refine call49 (Change_ref4 (Ok.emb (h) (.cons (A := refP p _ _) (by with_reducible first | exact sl0 | exact .there sl0 | exact .there sl1 | exact .there sl2 | exact .there sl3 | exact .there sl4 | exact .there sl5 | exact .there sl6 | exact .there sl7 | exact .there sl8 | exact .there sl9 | exact .there sl10 | exact .there sl11 | exact .there sl12) (.same _))) (by omega) fun w2 h => ⟨((chgL byPri q.S task pri).1, ()), rfl, ?_⟩)
  dsimp only
  cases hc : (chgL byPri q.S task pri).1 with
  | true =>
    rw [if_pos hc] at k
    refine jn.bool true (fun J hJ => cs.yes rfl hJ) (k _ ?_)
    exact rdqI (q := ⟨(chgL byPri q.S task pri).2, q.V, q.D, q.g⟩) ⟨hW, fun i hi => hf.2 i (chgL_ids.mem_iff.1 hi)⟩ (h.emb (by repeat' (first | with_reducible exact Emb.same _ | exact Emb.nil _ | refine Emb.cons (by with_reducible first | exact sl0 | exact .there sl0 | exact .there sl1 | exact .there sl2 | exact .there sl3 | exact .there sl4 | exact .there sl5 | exact .there sl6 | exact .there sl7 | exact .there sl8 | exact .there sl9 | exact .there sl10 | exact .there sl11 | exact .there sl12) ?_ | refine Emb.skip ?_)))
  | false =>
    rw [if_neg (by rw [hc]; simp)] at k
    rw [chgL_no hc] at h
    refine jn.at ((chgL false q.V task pri).1, ()) (fun w' => Ok e (rdqP b byPri room ⟨q.S, (chgL false q.V task pri).2, q.D, q.g⟩ :: L) w') (fun J hJ => cs.no rfl ?_) (fun w' h => k w' h)
    refine nn.mk (ldP.mk (by refine Ok.cellS h (by with_reducible first | exact sl0 | exact .there sl0 | exact .there sl1 | exact .there sl2 | exact .there sl3 | exact .there sl4 | exact .there sl5 | exact .there sl6 | exact .there sl7 | exact .there sl8 | exact .there sl9 | exact .there sl10 | exact .there sl11 | exact .there sl12) ?_; rfl) ?_)
    refine call49 (Change_ref4 (Ok.emb (h) (.cons (A := refP r _ _) (by with_reducible first | exact sl0 | exact .there sl0 | exact .there sl1 | exact .there sl2 | exact .there sl3 | exact .there sl4 | exact .there sl5 | exact .there sl6 | exact .there sl7 | exact .there sl8 | exact .there sl9 | exact .there sl10 | exact .there sl11 | exact .there sl12) (.same _))) (by omega) fun w3 h => ⟨((chgL false q.V task pri).1, ()), rfl, ?_⟩)
    exact hJ _ (rdqI (q := ⟨q.S, (chgL false q.V task pri).2, q.D, q.g⟩) hf (h.emb (by repeat' (first | with_reducible exact Emb.same _ | exact Emb.nil _ | refine Emb.cons (by with_reducible first | exact sl0 | exact .there sl0 | exact .there sl1 | exact .there sl2 | exact .there sl3 | exact .there sl4 | exact .there sl5 | exact .there sl6 | exact .there sl7 | exact .there sl8 | exact .there sl9 | exact .there sl10 | exact .there sl11 | exact .there sl12) ?_ | refine Emb.skip ?_))))

theorem TryRecv_ref13 {e w L b byPri room q R} (h : Ok e (rdqP b byPri room q :: L) w) (ho : q.ok room)
    (k : ∀ w', Ok e (rdqP b byPri room q.tryRecv.2 :: L) w' → R [.agg #[.int .i64 q.tryRecv.1.1, .bool q.tryRecv.1.2.1, .int .i64 q.tryRecv.1.2.2]] w') : sh28 (some ⟨b, 0, none⟩) R w := by
  unfold sh28
  unfold DQ.tryRecv at k
  have l1 := okL_len ho.1
  refine al.mk h fun c w1 h => ?_
  obtain ⟨p, r, s, W, hf, hs, h⟩ := rdqE h.p1
  obtain ⟨S, V, D, g⟩ := q
  dsimp only at *
  have hW := hf.1
  refine nn.mk (ldS.mk (Ok.cellS h (by with_reducible first | exact sl0 | exact .there sl0 | exact .there sl1 | exact .there sl2 | exact .there sl3 | exact .there sl4 | exact .there sl5 | exact .there sl6 | exact .there sl7 | exact .there sl8 | exact .there sl9 | exact .there sl10 | exact .there sl11 | exact .there sl12) (rdC_s hW)) ?_)
  cases D with
  | nil =>
    refine cs.no (by simp at hs; simp [← hs]) ?_
    refine nn.mk (ldP.mk (by refine Ok.cellS h (by with_reducible first | exact sl0 | exact .there sl0 | exact .there sl1 | exact .there sl2 | exact .there sl3 | exact .there sl4 | exact .there sl5 | exact .there sl6 | exact .there sl7 | exact .there sl8 | exact .there sl9 | exact .there sl10 | exact .there sl11 | exact .there sl12) ?_; rfl) ?_)
    refine call46 (Take_ref4 (Ok.emb (h) (.cons (A := refP p _ _) (by with_reducible first | exact sl0 | exact .there sl0 | exact .there sl1 | exact .there sl2 | exact .there sl3 | exact .there sl4 | exact .there sl5 | exact .there sl6 | exact .there sl7 | exact .there sl8 | exact .there sl9 | exact .there sl10 | exact .there sl11 | exact .there sl12) (.same _))) (by omega) fun w2 h => ⟨(((S.head?.getD (0, 0)).1, (S.head?.getD (0, 0)).2, ()), !S.isEmpty, ()), rfl, ?_⟩)
    refine al.mk h fun c2 w3 h => ?_
    dsimp only
    cases S with
    | nil =>
      dsimp only at k
      (repeat (first | with_reducible refine dr.mk h fun _ h => ?_ | with_reducible refine nn.mk ?_ | ((first | with_reducible apply ldI.mk | with_reducible apply ldB.mk | with_reducible apply ldP.mk | with_reducible apply ldS.mk | with_reducible apply ldM.mk | with_reducible apply ldF.mk | with_reducible apply ldG.mk); (· exact (by refine Ok.cellS h (by with_reducible first | exact sl0 | exact .there sl0 | exact .there sl1 | exact .there sl2 | exact .there sl3 | exact .there sl4 | exact .there sl5 | exact .there sl6 | exact .there sl7 | exact .there sl8 | exact .there sl9 | exact .there sl10 | exact .there sl11 | exact .there sl12) ?_; rfl))) | (refine st1.mk (Ok.bring h (by with_reducible first | exact sl0 | exact .there sl0 | exact .there sl1 | exact .there sl2 | exact .there sl3 | exact .there sl4 | exact .there sl5 | exact .there sl6 | exact .there sl7 | exact .there sl8 | exact .there sl9 | exact .there sl10 | exact .there sl11 | exact .there sl12)) (by simp) fun _ h => ?_; dsimp only [List.set] at h)))
      refine cs.no rfl ?_
      (repeat (first | with_reducible refine dr.mk h fun _ h => ?_ | with_reducible refine nn.mk ?_ | ((first | with_reducible apply ldI.mk | with_reducible apply ldB.mk | with_reducible apply ldP.mk | with_reducible apply ldS.mk | with_reducible apply ldM.mk | with_reducible apply ldF.mk | with_reducible apply ldG.mk); (· exact (by refine Ok.cellS h (by with_reducible first | exact sl0 | exact .there sl0 | exact .there sl1 | exact .there sl2 | exact .there sl3 | exact .there sl4 | exact .there sl5 | exact .there sl6 | exact .there sl7 | exact .there sl8 | exact .there sl9 | exact .there sl10 | exact .there sl11 | exact .there sl12) ?_; rfl))) | (refine st1.mk (Ok.bring h (by with_reducible first | exact sl0 | exact .there sl0 | exact .there sl1 | exact .there sl2 | exact .there sl3 | exact .there sl4 | exact .there sl5 | exact .there sl6 | exact .there sl7 | exact .there sl8 | exact .there sl9 | exact .there sl10 | exact .there sl11 | exact .there sl12)) (by simp) fun _ h => ?_; dsimp only [List.set] at h)))
      exact k _ (rdqI (q := ⟨[], V, [], g⟩) hf (h.emb (by repeat' (first | with_reducible exact Emb.same _ | exact Emb.nil _ | refine Emb.cons (by with_reducible first | exact sl0 | exact .there sl0 | exact .there sl1 | exact .there sl2 | exact .there sl3 | exact .there sl4 | exact .there sl5 | exact .there sl6 | exact .there sl7 | exact .there sl8 | exact .there sl9 | exact .there sl10 | exact .there sl11 | exact .there sl12) ?_ | refine Emb.skip ?_))))
    | cons x S =>
      dsimp only at k
      have hx := (okL_tail ho.1).2.2
      refine st1.mk h (by simp) fun w4 h => st1.mk h (by simp) fun w5 h => cs.yes rfl (dr.mk h fun w6 h => ldI.mk (by refine Ok.cellS h (by with_reducible first | exact sl0 | exact .there sl0 | exact .there sl1 | exact .there sl2 | exact .there sl3 | exact .there sl4 | exact .there sl5 | exact .there sl6 | exact .there sl7 | exact .there sl8 | exact .there sl9 | exact .there sl10 | exact .there sl11 | exact .there sl12) ?_; rfl) (nn.mk ⟨by show 0 ≤ x.1; omega, by show x.1 < 17; omega, ?_⟩))
      refine ldI.mk (Ok.cellS h (by with_reducible first | exact sl0 | exact .there sl0 | exact .there sl1 | exact .there sl2 | exact .there sl3 | exact .there sl4 | exact .there sl5 | exact .there sl6 | exact .there sl7 | exact .there sl8 | exact .there sl9 | exact .there sl10 | exact .there sl11 | exact .there sl12) (rdC_w (hf.2 x.1 (List.mem_cons_self ..)))) ?_
      (repeat (first | with_reducible refine dr.mk h fun _ h => ?_ | with_reducible refine nn.mk ?_ | ((first | with_reducible apply ldI.mk | with_reducible apply ldB.mk | with_reducible apply ldP.mk | with_reducible apply ldS.mk | with_reducible apply ldM.mk | with_reducible apply ldF.mk | with_reducible apply ldG.mk); (· exact (by refine Ok.cellS h (by with_reducible first | exact sl0 | exact .there sl0 | exact .there sl1 | exact .there sl2 | exact .there sl3 | exact .there sl4 | exact .there sl5 | exact .there sl6 | exact .there sl7 | exact .there sl8 | exact .there sl9 | exact .there sl10 | exact .there sl11 | exact .there sl12) ?_; rfl))) | (refine st1.mk (Ok.bring h (by with_reducible first | exact sl0 | exact .there sl0 | exact .there sl1 | exact .there sl2 | exact .there sl3 | exact .there sl4 | exact .there sl5 | exact .there sl6 | exact .there sl7 | exact .there sl8 | exact .there sl9 | exact .there sl10 | exact .there sl11 | exact .there sl12)) (by simp) fun _ h => ?_; dsimp only [List.set] at h)))
      exact k _ (rdqI (q := ⟨S, V, [], g⟩) ⟨hW, fun i hi => hf.2 i (List.mem_cons_of_mem _ hi)⟩ (h.emb (by repeat' (first | with_reducible exact Emb.same _ | exact Emb.nil _ | refine Emb.cons (by with_reducible first | exact sl0 | exact .there sl0 | exact .there sl1 | exact .there sl2 | exact .there sl3 | exact .there sl4 | exact .there sl5 | exact .there sl6 | exact .there sl7 | exact .there sl8 | exact .there sl9 | exact .there sl10 | exact .there sl11 | exact .there sl12) ?_ | refine Emb.skip ?_))))
  | cons d D =>
    have hD := ho.2.2
    simp only [List.length_cons] at hs hD
    refine cs.yes (by simp; omega) ?_
    refine nn.mk (ldS.mk (Ok.cellS h (by with_reducible first | exact sl0 | exact .there sl0 | exact .there sl1 | exact .there sl2 | exact .there sl3 | exact .there sl4 | exact .there sl5 | exact .there sl6 | exact .there sl7 | exact .there sl8 | exact .there sl9 | exact .there sl10 | exact .there sl11 | exact .there sl12) (rdC_s hW)) ?_)
    refine ix_int (Ok.emb (h) (.cons (A := slc 1 s (ints (d :: D))) (by with_reducible first | exact sl0 | exact .there sl0 | exact .there sl1 | exact .there sl2 | exact .there sl3 | exact .there sl4 | exact .there sl5 | exact .there sl6 | exact .there sl7 | exact .there sl8 | exact .there sl9 | exact .there sl10 | exact .there sl11 | exact .there sl12) (.same _))) (Int.le_refl _) (by omega) fun c1 o x hx hc => ldI.mk (hc _ ⟨_, (Ok.emb (h) (.cons (A := slc 1 s (ints (d :: D))) (by with_reducible first | exact sl0 | exact .there sl0 | exact .there sl1 | exact .there sl2 | exact .there sl3 | exact .there sl4 | exact .there sl5 | exact .there sl6 | exact .there sl7 | exact .there sl8 | exact .there sl9 | exact .there sl10 | exact .there sl11 | exact .there sl12) (.same _)))⟩) ?_
    simp at hx
    subst hx
    clear hc
    refine al.mk h fun c2 w2 h => ?_
    (repeat (first | with_reducible refine dr.mk h fun _ h => ?_ | with_reducible refine nn.mk ?_ | ((first | with_reducible apply ldI.mk | with_reducible apply ldB.mk | with_reducible apply ldP.mk | with_reducible apply ldS.mk | with_reducible apply ldM.mk | with_reducible apply ldF.mk | with_reducible apply ldG.mk); (· exact (by refine Ok.cellS h (by with_reducible first | exact sl0 | exact .there sl0 | exact .there sl1 | exact .there sl2 | exact .there sl3 | exact .there sl4 | exact .there sl5 | exact .there sl6 | exact .there sl7 | exact .there sl8 | exact .there sl9 | exact .there sl10 | exact .there sl11 | exact .there sl12) ?_; rfl))) | (refine st1.mk (Ok.bring h (by with_reducible first | exact sl0 | exact .there sl0 | exact .there sl1 | exact .there sl2 | exact .there sl3 | exact .there sl4 | exact .there sl5 | exact .there sl6 | exact .there sl7 | exact .there sl8 | exact .there sl9 | exact .there sl10 | exact .there sl11 | exact .there sl12)) (by simp) fun _ h => ?_; dsimp only [List.set] at h)))
    refine al.mk h fun c3 w3 h => ?_
    refine nn.mk (ldS.mk (Ok.cellS h (by with_reducible first | exact sl0 | exact .there sl0 | exact .there sl1 | exact .there sl2 | exact .there sl3 | exact .there sl4 | exact .there sl5 | exact .there sl6 | exact .there sl7 | exact .there sl8 | exact .there sl9 | exact .there sl10 | exact .there sl11 | exact .there sl12) (rdC_s hW)) ?_)
    refine sb_sub (Ok.emb (h) (.cons (A := slc 1 s (ints (d :: D))) (by with_reducible first | exact sl0 | exact .there sl0 | exact .there sl1 | exact .there sl2 | exact .there sl3 | exact .there sl4 | exact .there sl5 | exact .there sl6 | exact .there sl7 | exact .there sl8 | exact .there sl9 | exact .there sl10 | exact .there sl11 | exact .there sl12) (.same _))) (by omega) (by omega) (Int.le_refl _) fun y hy => ?_
    have h := h.slcNew (n := 0) (sz := 1) rfl (by simp)
    refine ef.appendSub slT_int (by decide) (Ok.emb (h) (.cons (A := slc 1 ⟨some ⟨c3, 0, none⟩, 0, 0⟩ _) (by with_reducible first | exact sl0 | exact .there sl0 | exact .there sl1 | exact .there sl2 | exact .there sl3 | exact .there sl4 | exact .there sl5 | exact .there sl6 | exact .there sl7 | exact .there sl8 | exact .there sl9 | exact .there sl10 | exact .there sl11 | exact .there sl12) (.cons (A := slc 1 s (ints (d :: D))) (by with_reducible first | exact sl0 | exact .there sl0 | exact .there sl1 | exact .there sl2 | exact .there sl3 | exact .there sl4 | exact .there sl5 | exact .there sl6 | exact .there sl7 | exact .there sl8 | exact .there sl9 | exact .there sl10 | exact .there sl11 | exact .there sl12) (.same _)))) hy (by omega) (by dsimp only; omega) fun s1 w7 hl1 h => ?_
    rw [Nat.mul_one, Nat.mul_one, List.nil_append, ints_tail (by simp only [List.length_cons]; omega)] at h
    refine nn.mk (st1.mk (Ok.emb (h) (.cons (A := pts b _) (by with_reducible first | exact sl0 | exact .there sl0 | exact .there sl1 | exact .there sl2 | exact .there sl3 | exact .there sl4 | exact .there sl5 | exact .there sl6 | exact .there sl7 | exact .there sl8 | exact .there sl9 | exact .there sl10 | exact .there sl11 | exact .there sl12) (.same _))) (by rw [rdC_len hW]; decide) fun w8 h => ?_)
    rw [rdC_setS hW] at h
    dsimp only [List.tail_cons] at h
    refine nn.mk (ldP.mk (by refine Ok.cellS h (by with_reducible first | exact sl0 | exact .there sl0 | exact .there sl1 | exact .there sl2 | exact .there sl3 | exact .there sl4 | exact .there sl5 | exact .there sl6 | exact .there sl7 | exact .there sl8 | exact .there sl9 | exact .there sl10 | exact .there sl11 | exact .there sl12) ?_; rfl) ?_)
    refine call46 (Take_ref4 (Ok.emb (h) (.cons (A := refP p _ _) (by with_reducible first | exact sl0 | exact .there sl0 | exact .there sl1 | exact .there sl2 | exact .there sl3 | exact .there sl4 | exact .there sl5 | exact .there sl6 | exact .there sl7 | exact .there sl8 | exact .there sl9 | exact .there sl10 | exact .there sl11 | exact .there sl12) (.same _))) (by omega) fun w2 h => ⟨(((S.head?.getD (0, 0)).1, (S.head?.getD (0, 0)).2, ()), !S.isEmpty, ()), rfl, ?_⟩)
    refine al.mk h fun c4 w9 h => st1.mk h (by simp) fun w10 h => st1.mk h (by simp) fun w11 h => ?_
    dsimp only
    cases S with
    | nil =>
      dsimp only at k
      refine jn.at () (fun w' => w11 = w') (fun J hJ => cs.no rfl (hJ _ rfl)) (fun w' hw => ?_)
      subst hw
      (repeat (first | with_reducible refine dr.mk h fun _ h => ?_ | with_reducible refine nn.mk ?_ | ((first | with_reducible apply ldI.mk | with_reducible apply ldB.mk | with_reducible apply ldP.mk | with_reducible apply ldS.mk | with_reducible apply ldM.mk | with_reducible apply ldF.mk | with_reducible apply ldG.mk); (· exact (by refine Ok.cellS h (by with_reducible first | exact sl0 | exact .there sl0 | exact .there sl1 | exact .there sl2 | exact .there sl3 | exact .there sl4 | exact .there sl5 | exact .there sl6 | exact .there sl7 | exact .there sl8 | exact .there sl9 | exact .there sl10 | exact .there sl11 | exact .there sl12) ?_; rfl))) | (refine st1.mk (Ok.bring h (by with_reducible first | exact sl0 | exact .there sl0 | exact .there sl1 | exact .there sl2 | exact .there sl3 | exact .there sl4 | exact .there sl5 | exact .there sl6 | exact .there sl7 | exact .there sl8 | exact .there sl9 | exact .there sl10 | exact .there sl11 | exact .there sl12)) (by simp) fun _ h => ?_; dsimp only [List.set] at h)))
      exact k _ (rdqI (q := ⟨[], V, D, g⟩) hf (h.emb (by repeat' (first | with_reducible exact Emb.same _ | exact Emb.nil _ | refine Emb.cons (by with_reducible first | exact sl0 | exact .there sl0 | exact .there sl1 | exact .there sl2 | exact .there sl3 | exact .there sl4 | exact .there sl5 | exact .there sl6 | exact .there sl7 | exact .there sl8 | exact .there sl9 | exact .there sl10 | exact .there sl11 | exact .there sl12) ?_ | refine Emb.skip ?_))))
    | cons x S =>
      dsimp only at k
      have hx := (okL_tail ho.1).2.2
      refine jn.at () (fun w' => Ok e (rdqP b byPri room ⟨S, V, D ++ [g x.1], g⟩ :: pts c2 [.int .i64 d, .bool true, .int .i64 x.1] :: pts c [.int .i64 0, .bool false, .int .i64 0] :: L) w') (fun J hJ => cs.yes rfl ?_) (fun w' h => ?_)
      · refine dr.mk h fun w12 h => nn.mk (ldS.mk (Ok.cellS h (by with_reducible first | exact sl0 | exact .there sl0 | exact .there sl1 | exact .there sl2 | exact .there sl3 | exact .there sl4 | exact .there sl5 | exact .there sl6 | exact .there sl7 | exact .there sl8 | exact .there sl9 | exact .there sl10 | exact .there sl11 | exact .there sl12) (rdC_s hW)) (ldI.mk (by refine Ok.cellS h (by with_reducible first | exact sl0 | exact .there sl0 | exact .there sl1 | exact .there sl2 | exact .there sl3 | exact .there sl4 | exact .there sl5 | exact .there sl6 | exact .there sl7 | exact .there sl8 | exact .there sl9 | exact .there sl10 | exact .there sl11 | exact .there sl12) ?_; rfl) (nn.mk ⟨by show 0 ≤ x.1; omega, by show x.1 < 17; omega, ?_⟩)))
        refine ldI.mk (Ok.cellS h (by with_reducible first | exact sl0 | exact .there sl0 | exact .there sl1 | exact .there sl2 | exact .there sl3 | exact .there sl4 | exact .there sl5 | exact .there sl6 | exact .there sl7 | exact .there sl8 | exact .there sl9 | exact .there sl10 | exact .there sl11 | exact .there sl12) (rdC_w (hf.2 x.1 (List.mem_cons_self ..)))) ?_
        refine al.mk h fun c5 w13 h => ⟨Ok.cellS h (by with_reducible first | exact sl0 | exact .there sl0 | exact .there sl1 | exact .there sl2 | exact .there sl3 | exact .there sl4 | exact .there sl5 | exact .there sl6 | exact .there sl7 | exact .there sl8 | exact .there sl9 | exact .there sl10 | exact .there sl11 | exact .there sl12) (rdC_s hW), ?_⟩
        refine ef.append1 (n := 1) slT_int (by decide) (Ok.emb (h) (.cons (A := pts c5 _) (by with_reducible first | exact sl0 | exact .there sl0 | exact .there sl1 | exact .there sl2 | exact .there sl3 | exact .there sl4 | exact .there sl5 | exact .there sl6 | exact .there sl7 | exact .there sl8 | exact .there sl9 | exact .there sl10 | exact .there sl11 | exact .there sl12) (.cons (A := slc 1 s1 _) (by with_reducible first | exact sl0 | exact .there sl0 | exact .there sl1 | exact .there sl2 | exact .there sl3 | exact .there sl4 | exact .there sl5 | exact .there sl6 | exact .there sl7 | exact .there sl8 | exact .there sl9 | exact .there sl10 | exact .there sl11 | exact .there sl12) (.same _)))) rfl (by intro v hv; simp at hv; subst hv; rfl) (by dsimp only at hl1 ⊢; omega) fun s2 w14 hl2 h => ?_
        refine nn.mk (st1.mk (Ok.emb (h) (.cons (A := pts b _) (by with_reducible first | exact sl0 | exact .there sl0 | exact .there sl1 | exact .there sl2 | exact .there sl3 | exact .there sl4 | exact .there sl5 | exact .there sl6 | exact .there sl7 | exact .there sl8 | exact .there sl9 | exact .there sl10 | exact .there sl11 | exact .there sl12) (.same _))) (by rw [rdC_len hW]; decide) fun w15 h => ?_)
        rw [ints_snoc, rdC_setS hW] at h
        refine ldI.mk (by refine Ok.cellS h (by with_reducible first | exact sl0 | exact .there sl0 | exact .there sl1 | exact .there sl2 | exact .there sl3 | exact .there sl4 | exact .there sl5 | exact .there sl6 | exact .there sl7 | exact .there sl8 | exact .there sl9 | exact .there sl10 | exact .there sl11 | exact .there sl12) ?_; rfl) (st1.mk (Ok.emb (h) (.cons (A := pts c2 _) (by with_reducible first | exact sl0 | exact .there sl0 | exact .there sl1 | exact .there sl2 | exact .there sl3 | exact .there sl4 | exact .there sl5 | exact .there sl6 | exact .there sl7 | exact .there sl8 | exact .there sl9 | exact .there sl10 | exact .there sl11 | exact .there sl12) (.same _))) (by simp) fun w16 h => hJ _ ?_)
        dsimp only [List.set, List.tail_cons, List.tail_nil, List.head?_cons, List.head?_nil, Option.getD_some, Option.getD_none] at h
        exact rdqI (q := ⟨S, V, D ++ [g x.1], g⟩) (s := s2) ⟨hW, fun i hi => hf.2 i (List.mem_cons_of_mem _ hi)⟩ (h.emb (by repeat' (first | with_reducible exact Emb.same _ | exact Emb.nil _ | refine Emb.cons (by with_reducible first | exact sl0 | exact .there sl0 | exact .there sl1 | exact .there sl2 | exact .there sl3 | exact .there sl4 | exact .there sl5 | exact .there sl6 | exact .there sl7 | exact .there sl8 | exact .there sl9 | exact .there sl10 | exact .there sl11 | exact .there sl12) ?_ | refine Emb.skip ?_)))
      · (repeat (first | with_reducible refine dr.mk h fun _ h => ?_ | with_reducible refine nn.mk ?_ | ((first | with_reducible apply ldI.mk | with_reducible apply ldB.mk | with_reducible apply ldP.mk | with_reducible apply ldS.mk | with_reducible apply ldM.mk | with_reducible apply ldF.mk | with_reducible apply ldG.mk); (· exact (by refine Ok.cellS h (by with_reducible first | exact sl0 | exact .there sl0 | exact .there sl1 | exact .there sl2 | exact .there sl3 | exact .there sl4 | exact .there sl5 | exact .there sl6 | exact .there sl7 | exact .there sl8 | exact .there sl9 | exact .there sl10 | exact .there sl11 | exact .there sl12) ?_; rfl))) | (refine st1.mk (Ok.bring h (by with_reducible first | exact sl0 | exact .there sl0 | exact .there sl1 | exact .there sl2 | exact .there sl3 | exact .there sl4 | exact .there sl5 | exact .there sl6 | exact .there sl7 | exact .there sl8 | exact .there sl9 | exact .there sl10 | exact .there sl11 | exact .there sl12)) (by simp) fun _ h => ?_; dsimp only [List.set] at h)))
        exact k _ (h.emb (by repeat' (first | with_reducible exact Emb.same _ | exact Emb.nil _ | refine Emb.cons (by with_reducible first | exact sl0 | exact .there sl0 | exact .there sl1 | exact .there sl2 | exact .there sl3 | exact .there sl4 | exact .there sl5 | exact .there sl6 | exact .there sl7 | exact .there sl8 | exact .there sl9 | exact .there sl10 | exact .there sl11 | exact .there sl12) ?_ | refine Emb.skip ?_)))

theorem Recv_ref13 {e w L b byPri room q task pri R} (h : Ok e (rdqP b byPri room q :: L) w) (ho : q.ok room)
    (k : ∀ w', Ok e (rdqP b byPri room (q.recv task pri).2 :: L) w' → R [.agg #[.int .i64 (q.recv task pri).1.1.1, .bool (q.recv task pri).1.1.2.1, .int .i64 (q.recv task pri).1.1.2.2], .int .i64 (q.recv task pri).1.2] w') : sh26 (some ⟨b, 0, none⟩) task pri R w := by
  unfold sh26
  unfold DQ.recv at k
  refine al.mk h fun c w1 h => ?_
  refine call28 (TryRecv_ref13 h.p1 ho fun w2 h => ⟨((q.tryRecv.1.1, q.tryRecv.1.2.1, q.tryRecv.1.2.2, ()), ()), rfl, ?_⟩)
  refine al.mk h fun c2 w3 h => ?_
  dsimp only
  (repeat (first | with_reducible refine dr.mk h fun _ h => ?_ | with_reducible refine nn.mk ?_ | ((first | with_reducible apply ldI.mk | with_reducible apply ldB.mk | with_reducible apply ldP.mk | with_reducible apply ldS.mk | with_reducible apply ldM.mk | with_reducible apply ldF.mk | with_reducible apply ldG.mk); (· exact (by refine Ok.cellS h (by with_reducible first | exact sl0 | exact .there sl0 | exact .there sl1 | exact .there sl2 | exact .there sl3 | exact .there sl4 | exact .there sl5 | exact .there sl6 | exact .there sl7 | exact .there sl8 | exact .there sl9 | exact .there sl10 | exact .there sl11 | exact .there sl12) ?_; rfl))) | (refine st1.mk (Ok.bring h (by with_reducible first | exact sl0 | exact .there sl0 | exact .there sl1 | exact .there sl2 | exact .there sl3 | exact .there sl4 | exact .there sl5 | exact .there sl6 | exact .there sl7 | exact .there sl8 | exact .there sl9 | exact .there sl10 | exact .there sl11 | exact .there sl12)) (by simp) fun _ h => ?_; dsimp only [List.set] at h)))
  refine cs.mk (fun hc => ?_) (fun hc => ?_)
  · rw [if_pos hc] at k
    (repeat (first | with_reducible refine dr.mk h fun _ h => ?_ | with_reducible refine nn.mk ?_ | ((first | with_reducible apply ldI.mk | with_reducible apply ldB.mk | with_reducible apply ldP.mk | with_reducible apply ldS.mk | with_reducible apply ldM.mk | with_reducible apply ldF.mk | with_reducible apply ldG.mk); (· exact (by refine Ok.cellS h (by with_reducible first | exact sl0 | exact .there sl0 | exact .there sl1 | exact .there sl2 | exact .there sl3 | exact .there sl4 | exact .there sl5 | exact .there sl6 | exact .there sl7 | exact .there sl8 | exact .there sl9 | exact .there sl10 | exact .there sl11 | exact .there sl12) ?_; rfl))) | (refine st1.mk (Ok.bring h (by with_reducible first | exact sl0 | exact .there sl0 | exact .there sl1 | exact .there sl2 | exact .there sl3 | exact .there sl4 | exact .there sl5 | exact .there sl6 | exact .there sl7 | exact .there sl8 | exact .there sl9 | exact .there sl10 | exact .there sl11 | exact .there sl12)) (by simp) fun _ h => ?_; dsimp only [List.set] at h)))
    exact k _ (h.emb (by repeat' (first | with_reducible exact Emb.same _ | exact Emb.nil _ | refine Emb.cons (by with_reducible first | exact sl0 | exact .there sl0 | exact .there sl1 | exact .there sl2 | exact .there sl3 | exact .there sl4 | exact .there sl5 | exact .there sl6 | exact .there sl7 | exact .there sl8 | exact .there sl9 | exact .there sl10 | exact .there sl11 | exact .there sl12) ?_ | refine Emb.skip ?_)))
  · rw [if_neg (by rw [hc]; simp)] at k
    have hq : q.tryRecv = ((0, false, 0), q) ∧ q.S = [] := by
      unfold DQ.tryRecv at hc ⊢
      split at hc
      · cases hc
      · cases hc
      · cases hc
      · next h1 h2 => exact ⟨rfl, h2⟩
    rw [hq.1] at h
    dsimp only at h
    have l2 := okL_len ho.2.1
    refine call43 (Good_ref4 h ⟨(decide (1 ≤ task ∧ task ≤ 16 ∧ 1 ≤ pri ∧ pri ≤ 16), ()), rfl, ?_⟩)
    dsimp only
    refine cs.mk (fun hg => ?_) (fun hg => ?_)
    · have hg : ¬ (1 ≤ task ∧ task ≤ 16 ∧ 1 ≤ pri ∧ pri ≤ 16) := by rw [Bool.not_eq_true'] at hg; exact of_decide_eq_false hg
      have ha : addL false q.V task pri = (-17, q.V) := by unfold addL; rw [if_pos (by omega)]
      rw [ha] at k
      (repeat (first | with_reducible refine dr.mk h fun _ h => ?_ | with_reducible refine nn.mk ?_ | ((first | with_reducible apply ldI.mk | with_reducible apply ldB.mk | with_reducible apply ldP.mk | with_reducible apply ldS.mk | with_reducible apply ldM.mk | with_reducible apply ldF.mk | with_reducible apply ldG.mk); (· exact (by refine Ok.cellS h (by with_reducible first | exact sl0 | exact .there sl0 | exact .there sl1 | exact .there sl2 | exact .there sl3 | exact .there sl4 | exact .there sl5 | exact .there sl6 | exact .there sl7 | exact .there sl8 | exact .there sl9 | exact .there sl10 | exact .there sl11 | exact .there sl12) ?_; rfl))) | (refine st1.mk (Ok.bring h (by with_reducible first | exact sl0 | exact .there sl0 | exact .there sl1 | exact .there sl2 | exact .there sl3 | exact .there sl4 | exact .there sl5 | exact .there sl6 | exact .there sl7 | exact .there sl8 | exact .there sl9 | exact .there sl10 | exact .there sl11 | exact .there sl12)) (by simp) fun _ h => ?_; dsimp only [List.set] at h)))
      exact k _ (h.emb (by repeat' (first | with_reducible exact Emb.same _ | exact Emb.nil _ | refine Emb.cons (by with_reducible first | exact sl0 | exact .there sl0 | exact .there sl1 | exact .there sl2 | exact .there sl3 | exact .there sl4 | exact .there sl5 | exact .there sl6 | exact .there sl7 | exact .there sl8 | exact .there sl9 | exact .there sl10 | exact .there sl11 | exact .there sl12) ?_ | refine Emb.skip ?_)))
    obtain ⟨p, r, s, W, hf, hs, h⟩ := rdqE (Ok.emb (h) (.cons (A := rdqP b byPri room q) (by with_reducible first | exact sl0 | exact .there sl0 | exact .there sl1 | exact .there sl2 | exact .there sl3 | exact .there sl4 | exact .there sl5 | exact .there sl6 | exact .there sl7 | exact .there sl8 | exact .there sl9 | exact .there sl10 | exact .there sl11 | exact .there sl12) (.same _)))
    refine nn.mk (ldP.mk (by refine Ok.cellS h (by with_reducible first | exact sl0 | exact .there sl0 | exact .there sl1 | exact .there sl2 | exact .there sl3 | exact .there sl4 | exact .there sl5 | exact .there sl6 | exact .there sl7 | exact .there sl8 | exact .there sl9 | exact .there sl10 | exact .there sl11 | exact .there sl12) ?_; rfl) ?_)
    refine call44 (At_ref4 (Ok.emb (h) (.cons (A := refP p _ _) (by with_reducible first | exact sl0 | exact .there sl0 | exact .there sl1 | exact .there sl2 | exact .there sl3 | exact .there sl4 | exact .there sl5 | exact .there sl6 | exact .there sl7 | exact .there sl8 | exact .there sl9 | exact .there sl10 | exact .there sl11 | exact .there sl12) (.same _))) (by rw [hq.2]; simp) ⟨((-1 : Int), ()), by rw [hq.2]; rfl, ?_⟩)
    refine cs.no rfl ?_
    (repeat (first | with_reducible refine dr.mk h fun _ h => ?_ | with_reducible refine nn.mk ?_ | ((first | with_reducible apply ldI.mk | with_reducible apply ldB.mk | with_reducible apply ldP.mk | with_reducible apply ldS.mk | with_reducible apply ldM.mk | with_reducible apply ldF.mk | with_reducible apply ldG.mk); (· exact (by refine Ok.cellS h (by with_reducible first | exact sl0 | exact .there sl0 | exact .there sl1 | exact .there sl2 | exact .there sl3 | exact .there sl4 | exact .there sl5 | exact .there sl6 | exact .there sl7 | exact .there sl8 | exact .there sl9 | exact .there sl10 | exact .there sl11 | exact .there sl12) ?_; rfl))) | (refine st1.mk (Ok.bring h (by with_reducible first | exact sl0 | exact .there sl0 | exact .there sl1 | exact .there sl2 | exact .there sl3 | exact .there sl4 | exact .there sl5 | exact .there sl6 | exact .there sl7 | exact .there sl8 | exact .there sl9 | exact .there sl10 | exact .there sl11 | exact .there sl12)) (by simp) fun _ h => ?_; dsimp only [List.set] at h)))
    refine call45 (Add_ref4 (Ok.emb (h) (.cons (A := refP r _ _) (by with_reducible first | exact sl0 | exact .there sl0 | exact .there sl1 | exact .there sl2 | exact .there sl3 | exact .there sl4 | exact .there sl5 | exact .there sl6 | exact .there sl7 | exact .there sl8 | exact .there sl9 | exact .there sl10 | exact .there sl11 | exact .there sl12) (.same _))) (by omega) fun w4 h => ⟨((addL false q.V task pri).1, ()), rfl, ⟨(by refine Ok.cellS h (by with_reducible first | exact sl0 | exact .there sl0 | exact .there sl1 | exact .there sl2 | exact .there sl3 | exact .there sl4 | exact .there sl5 | exact .there sl6 | exact .there sl7 | exact .there sl8 | exact .there sl9 | exact .there sl10 | exact .there sl11 | exact .there sl12) ?_; rfl), (by refine Ok.cellS h (by with_reducible first | exact sl0 | exact .there sl0 | exact .there sl1 | exact .there sl2 | exact .there sl3 | exact .there sl4 | exact .there sl5 | exact .there sl6 | exact .there sl7 | exact .there sl8 | exact .there sl9 | exact .there sl10 | exact .there sl11 | exact .there sl12) ?_; rfl), (by refine Ok.cellS h (by with_reducible first | exact sl0 | exact .there sl0 | exact .there sl1 | exact .there sl2 | exact .there sl3 | exact .there sl4 | exact .there sl5 | exact .there sl6 | exact .there sl7 | exact .there sl8 | exact .there sl9 | exact .there sl10 | exact .there sl11 | exact .there sl12) ?_; rfl)⟩, ?_⟩)
    (repeat (first | with_reducible refine dr.mk h fun _ h => ?_ | with_reducible refine nn.mk ?_ | ((first | with_reducible apply ldI.mk | with_reducible apply ldB.mk | with_reducible apply ldP.mk | with_reducible apply ldS.mk | with_reducible apply ldM.mk | with_reducible apply ldF.mk | with_reducible apply ldG.mk); (· exact (by refine Ok.cellS h (by with_reducible first | exact sl0 | exact .there sl0 | exact .there sl1 | exact .there sl2 | exact .there sl3 | exact .there sl4 | exact .there sl5 | exact .there sl6 | exact .there sl7 | exact .there sl8 | exact .there sl9 | exact .there sl10 | exact .there sl11 | exact .there sl12) ?_; rfl))) | (refine st1.mk (Ok.bring h (by with_reducible first | exact sl0 | exact .there sl0 | exact .there sl1 | exact .there sl2 | exact .there sl3 | exact .there sl4 | exact .there sl5 | exact .there sl6 | exact .there sl7 | exact .there sl8 | exact .there sl9 | exact .there sl10 | exact .there sl11 | exact .there sl12)) (by simp) fun _ h => ?_; dsimp only [List.set] at h)))
    exact k _ (rdqI (q := ⟨q.S, (addL false q.V task pri).2, q.D, q.g⟩) hf (h.emb (by repeat' (first | with_reducible exact Emb.same _ | exact Emb.nil _ | refine Emb.cons (by with_reducible first | exact sl0 | exact .there sl0 | exact .there sl1 | exact .there sl2 | exact .there sl3 | exact .there sl4 | exact .there sl5 | exact .there sl6 | exact .there sl7 | exact .there sl8 | exact .there sl9 | exact .there sl10 | exact .there sl11 | exact .there sl12) ?_ | refine Emb.skip ?_))))

end Go.Proofs.Ytadnjjnnkhofdaa.B
