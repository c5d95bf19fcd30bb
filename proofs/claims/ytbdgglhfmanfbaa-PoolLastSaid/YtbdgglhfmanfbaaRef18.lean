/- Contracts of the laws' own pool of blocks. -/
import Derived.Test.YtbdgglhfmanfbaaMpf
import Derived.Test.YtbdgglhfmanfbaaRef4
namespace Go.Proofs.Ytbdgglhfmanfbaa.B
open Go
set_option linter.unusedVariables false

theorem Align_ref1 {e w L z R} (h : Ok e L w) (hz : 1 ≤ z ∧ z ≤ 4096) (k : ∀ w', Ok e L w' → R [.int .i64 (stp z)] w') : sh39 z 4 R w := by
  unfold sh39
  refine jn.bool (false) (fun J hJ => ?_) ?_
  · refine cs.no (decide_eq_false (by omega)) ?_
    rw [show decide (z > 1073741824) = false from decide_eq_false (by omega)]
    exact hJ
  refine jn.bool (false) (fun J hJ => ?_) ?_
  · exact cs.no rfl hJ
  refine jn.bool (false) (fun J hJ => ?_) ?_
  · exact cs.no rfl hJ
  refine jn.bool (decide (z % 4 = 0)) (fun J hJ => ?_) ?_
  · refine cs.no rfl (ob.mk (by decide) ?_)
    rw [Int.tmod_eq_emod_of_nonneg (by omega), show (z % 4 == 0) = decide (z % 4 = 0) by rw [Bool.eq_iff_iff, beq_iff_eq, decide_eq_true_iff]]
    exact hJ
  refine cs.mk (fun h1 => ?_) (fun h1 => ob.mk (by decide) ?_)
  · have h1 := of_decide_eq_true h1
    have := k _ h
    rw [show stp z = z by unfold stp; omega] at this
    exact this
  · have h1 := of_decide_eq_false h1
    rw [Int.tmod_eq_emod_of_nonneg (by omega), w64_in (x := z + 4) (by omega) (by omega), w64_in (by omega) (by omega)]
    have := k _ h
    rw [show stp z = z + 4 - z % 4 by unfold stp; omega] at this
    exact this

def rpfP (b : Nat) (byPri : Bool) (a n z : Int) (q : MP) : SP := fun h => ∃ p s t,
  oksH [pts b [.pointer (some ⟨p, 0, none⟩), .int .i64 a, .int .i64 n, .int .i64 z, vS s, .int .i64 q.had, vS t], refP p byPri q.S, slc 1 s (ints q.back), slc 1 t (ints q.held)] h

theorem rpfE {e w L b byPri a n z q} (h : Ok e (rpfP b byPri a n z q :: L) w) : ∃ p s t, q.back.length = s.len ∧ q.held.length = t.len ∧
    Ok e (pts b [.pointer (some ⟨p, 0, none⟩), .int .i64 a, .int .i64 n, .int .i64 z, vS s, .int .i64 q.had, vS t] :: refP p byPri q.S :: slc 1 s (ints q.back) :: slc 1 t (ints q.held) :: L) w := by
  obtain ⟨p, h⟩ := h.exE
  obtain ⟨s, h⟩ := h.exE
  obtain ⟨t, h⟩ := h.exE
  have h := h.unpack
  exact ⟨p, s, t, slc_ints_len h.p2, slc_ints_len h.p3, h⟩

theorem rpfI {e w L b byPri a n z q p s t} (h : Ok e (pts b [.pointer (some ⟨p, 0, none⟩), .int .i64 a, .int .i64 n, .int .i64 z, vS s, .int .i64 q.had, vS t] :: refP p byPri q.S :: slc 1 s (ints q.back) :: slc 1 t (ints q.held) :: L) w) : Ok e (rpfP b byPri a n z q :: L) w :=
  (Ok.pack (M := [pts b [.pointer (some ⟨p, 0, none⟩), .int .i64 a, .int .i64 n, .int .i64 z, vS s, .int .i64 q.had, vS t], refP p byPri q.S, slc 1 s (ints q.back), slc 1 t (ints q.held)]) h).imp fun k hk => ⟨p, s, t, hk⟩

set_option maxHeartbeats 1000000 in
theorem New_ref18 {e w L byPri a n z R} (h : Ok e L w) (k0 : ∀ w', Ok e L w' → ¬ mpGood a n z → R [.pointer none, .int .i64 (-17)] w') (k1 : mpGood a n z → ∀ b w', Ok e (rpfP b byPri a n z mp0 :: L) w' → R [.pointer (some ⟨b, 0, none⟩), .int .i64 0] w') : sh16 byPri a n z R w := by
  unfold sh16
  refine jn.bool (decide (¬ (1 ≤ n ∧ n ≤ 256))) (fun J hJ => ?_) ?_
  · refine cs.mk (fun h1 => ?_) (fun h1 => ?_)
    · have h1 := of_decide_eq_true h1
      rw [decide_eq_true (by omega)] at hJ
      exact hJ
    · have h1 := of_decide_eq_false h1
      rw [show decide (¬ (1 ≤ n ∧ n ≤ 256)) = decide (n > 256) from decide_eq_decide.2 (by omega)] at hJ
      exact hJ
  refine jn.bool (decide (¬ (1 ≤ n ∧ n ≤ 256 ∧ 1 ≤ z))) (fun J hJ => ?_) ?_
  · refine cs.mk (fun h1 => ?_) (fun h1 => ?_)
    · have h1 := of_decide_eq_true h1
      rw [decide_eq_true (by omega)] at hJ
      exact hJ
    · have h1 := of_decide_eq_false h1
      rw [show decide (¬ (1 ≤ n ∧ n ≤ 256 ∧ 1 ≤ z)) = decide (z < 1) from decide_eq_decide.2 (by omega)] at hJ
      exact hJ
  refine jn.bool (decide (¬ (1 ≤ n ∧ n ≤ 256 ∧ 1 ≤ z ∧ z ≤ 4096))) (fun J hJ => ?_) ?_
  · refine cs.mk (fun h1 => ?_) (fun h1 => ?_)
    · have h1 := of_decide_eq_true h1
      rw [decide_eq_true (by omega)] at hJ
      exact hJ
    · have h1 := of_decide_eq_false h1
      rw [show decide (¬ (1 ≤ n ∧ n ≤ 256 ∧ 1 ≤ z ∧ z ≤ 4096)) = decide (z > 4096) from decide_eq_decide.2 (by omega)] at hJ
      exact hJ
  refine jn.bool (decide (¬ (1 ≤ n ∧ n ≤ 256 ∧ 1 ≤ z ∧ z ≤ 4096 ∧ 0 ≤ a))) (fun J hJ => ?_) ?_
  · refine cs.mk (fun h1 => ?_) (fun h1 => ?_)
    · have h1 := of_decide_eq_true h1
      rw [decide_eq_true (by omega)] at hJ
      exact hJ
    · have h1 := of_decide_eq_false h1
      rw [show decide (¬ (1 ≤ n ∧ n ≤ 256 ∧ 1 ≤ z ∧ z ≤ 4096 ∧ 0 ≤ a)) = decide (a < 0) from decide_eq_decide.2 (by omega)] at hJ
      exact hJ
  refine jn.bool (decide (¬ (1 ≤ n ∧ n ≤ 256 ∧ 1 ≤ z ∧ z ≤ 4096 ∧ 0 ≤ a ∧ a ≤ 65536))) (fun J hJ => ?_) ?_
  · refine cs.mk (fun h1 => ?_) (fun h1 => ?_)
    · have h1 := of_decide_eq_true h1
      rw [decide_eq_true (by omega)] at hJ
      exact hJ
    · have h1 := of_decide_eq_false h1
      rw [show decide (¬ (1 ≤ n ∧ n ≤ 256 ∧ 1 ≤ z ∧ z ≤ 4096 ∧ 0 ≤ a ∧ a ≤ 65536)) = decide (a > 65536) from decide_eq_decide.2 (by omega)] at hJ
      exact hJ
  refine jn.bool (decide (¬ (1 ≤ n ∧ n ≤ 256 ∧ 1 ≤ z ∧ z ≤ 4096 ∧ 0 ≤ a ∧ a ≤ 65536 ∧ a % 4 = 0))) (fun J hJ => ?_) ?_
  · refine cs.mk (fun h1 => ?_) (fun h1 => ?_)
    · have h1 := of_decide_eq_true h1
      rw [decide_eq_true (by omega)] at hJ
      exact hJ
    · have h1 := of_decide_eq_false h1
      rw [show decide (¬ (1 ≤ n ∧ n ≤ 256 ∧ 1 ≤ z ∧ z ≤ 4096 ∧ 0 ≤ a ∧ a ≤ 65536 ∧ a % 4 = 0)) = (Int.tmod a 4 != 0) by
        rw [Int.tmod_eq_emod_of_nonneg (by omega), Bool.eq_iff_iff, decide_eq_true_iff, bne_iff_ne]; omega] at hJ
      exact hJ
  refine jn.at (decide (¬ mpGood a n z), ()) (fun w' => Ok e L w') (fun J hJ => cs.mk (fun h1 => ?_) (fun h1 => ?_)) (fun w1 h => ?_)
  · have h1 := of_decide_eq_true h1
    rw [decide_eq_true (by unfold mpGood; omega)] at hJ
    exact hJ _ h
  · have h1 := Decidable.not_not.1 (of_decide_eq_false h1)
    have hz : 1 ≤ z ∧ z ≤ 4096 := by omega
    refine call39 (Align_ref1 h hz fun w1 h => ⟨(stp z, ()), rfl, ?_⟩)
    have hm := stp_mul_bd (n := n) hz (by omega)
    dsimp only
    rw [w64_in (x := n * stp z) (by omega) (by omega), w64_in (x := a + n * stp z) (by omega) (by omega)]
    rw [show decide (¬ mpGood a n z) = decide (a + n * stp z > 65536) from decide_eq_decide.2 (by unfold mpGood; omega)] at hJ
    exact hJ _ h
  refine cs.mk (fun h1 => k0 w1 h (of_decide_eq_true h1)) (fun h1 => ?_)
  have h1 := Decidable.not_not.1 (of_decide_eq_false h1)
  refine al.mk h fun p w2 h => ?_
  refine al.mk h fun b w3 h => k1 h1 b w3 ?_
  have h := ((h.slcNil 1).slcNil 1).slcNil 2
  have h := (Ok.emb (h) (.cons (A := pts p _) (by with_reducible first | exact sl0 | exact .there sl0 | exact .there sl1 | exact .there sl2 | exact .there sl3 | exact .there sl4 | exact .there sl5 | exact .there sl6 | exact .there sl7 | exact .there sl8 | exact .there sl9 | exact .there sl10 | exact .there sl11 | exact .there sl12) (.cons (A := slc 2 _ _) (by with_reducible first | exact sl0 | exact .there sl0 | exact .there sl1 | exact .there sl2 | exact .there sl3 | exact .there sl4 | exact .there sl5 | exact .there sl6 | exact .there sl7 | exact .there sl8 | exact .there sl9 | exact .there sl10 | exact .there sl11 | exact .there sl12) (.same _))))
  have h := refI (q := p) (l := []) (s := ⟨none, 0, 0⟩) (byPri := byPri) h
  have h := (Ok.emb (h) (.cons (A := pts b _) (by with_reducible first | exact sl0 | exact .there sl0 | exact .there sl1 | exact .there sl2 | exact .there sl3 | exact .there sl4 | exact .there sl5 | exact .there sl6 | exact .there sl7 | exact .there sl8 | exact .there sl9 | exact .there sl10 | exact .there sl11 | exact .there sl12) (.cons (A := refP p _ _) (by with_reducible first | exact sl0 | exact .there sl0 | exact .there sl1 | exact .there sl2 | exact .there sl3 | exact .there sl4 | exact .there sl5 | exact .there sl6 | exact .there sl7 | exact .there sl8 | exact .there sl9 | exact .there sl10 | exact .there sl11 | exact .there sl12) (.cons (A := slc 1 ⟨none, 0, 0⟩ _) (by with_reducible first | exact sl0 | exact .there sl0 | exact .there sl1 | exact .there sl2 | exact .there sl3 | exact .there sl4 | exact .there sl5 | exact .there sl6 | exact .there sl7 | exact .there sl8 | exact .there sl9 | exact .there sl10 | exact .there sl11 | exact .there sl12) (.cons (A := slc 1 ⟨none, 0, 0⟩ _) (by with_reducible first | exact sl0 | exact .there sl0 | exact .there sl1 | exact .there sl2 | exact .there sl3 | exact .there sl4 | exact .there sl5 | exact .there sl6 | exact .there sl7 | exact .there sl8 | exact .there sl9 | exact .there sl10 | exact .there sl11 | exact .there sl12) (.same _))))))
  exact rpfI (p := p) (q := mp0) (s := ⟨none, 0, 0⟩) (t := ⟨none, 0, 0⟩) h

theorem have_ref18 {e w L b p a n z had s t held x R} (h : Ok e (pts b [p, a, n, z, s, had, vS t] :: slc 1 t (ints held) :: L) w) (hb : held.length ≤ 2 ^ 20) (hup : Up held) (hx : x ∉ held)
    (k : ∀ t' w', Ok e (pts b [p, a, n, z, s, had, vS t'] :: slc 1 t' (ints (insU held x)) :: L) w' → R [.int .i64 x] w') : sh41 (some ⟨b, 0, none⟩) x R w := by
  unfold sh41
  have ht := slc_ints_len h.p1
  have hple := pos_le held x
  refine nn.mk (ldS.mk (by refine Ok.cellS h (by with_reducible first | exact sl0 | exact .there sl0 | exact .there sl1 | exact .there sl2 | exact .there sl3 | exact .there sl4 | exact .there sl5 | exact .there sl6 | exact .there sl7 | exact .there sl8 | exact .there sl9 | exact .there sl10 | exact .there sl11 | exact .there sl12) ?_; rfl) ?_)
  refine lp.mk (fun t1 w' => ∃ m : Nat, t1.1 = (m : Int) ∧ pos held x ≤ m ∧ m ≤ held.length ∧ Ok e (pts b [p, a, n, z, s, had, vS t] :: slc 1 t (ints held) :: L) w') (fun t1 _ => t1.1.toNat) ⟨held.length, by rw [ht], hple, Nat.le_refl _, h⟩ ?_
  clear h
  rintro ⟨i, _⟩ w1 ⟨m, hm, h1, h2, h⟩
  dsimp only at hm
  subst hm
  refine jn.bool (decide (pos held x < m)) (fun J hJ => cs.mk (fun h3 => ?_) (fun h3 => ?_)) ?_
  · have h3 : 0 < m := by have := of_decide_eq_true h3; dsimp only at this; omega
    have hw : w64 ((m : Int) - 1) = ((m - 1 : Nat) : Int) := by rw [w64_in (by omega) (by omega)]; omega
    refine nn.mk (ldS.mk (by refine Ok.cellS h (by with_reducible first | exact sl0 | exact .there sl0 | exact .there sl1 | exact .there sl2 | exact .there sl3 | exact .there sl4 | exact .there sl5 | exact .there sl6 | exact .there sl7 | exact .there sl8 | exact .there sl9 | exact .there sl10 | exact .there sl11 | exact .there sl12) ?_; rfl) ?_)
    dsimp only
    rw [hw]
    refine ix_int h.p1 (Int.natCast_nonneg _) (by show ((m - 1 : Nat) : Int) < (t.len : Int); omega) fun c o y hy hcell => ldI.mk (hcell _ ⟨_, h.p1⟩) ?_
    rw [Int.toNat_natCast] at hy
    have hs := pos_spec (a := x) hup hy
    have hne : y ≠ x := fun he => hx (he ▸ List.mem_of_getElem? hy)
    rw [show decide (pos held x < m) = decide (y > x) from decide_eq_decide.2 (by omega)] at hJ
    exact hJ
  · have h3 : m = 0 := by have := of_decide_eq_false h3; dsimp only at this; omega
    rw [decide_eq_false (by omega)] at hJ
    exact hJ
  refine cs.mk (fun h3 => ?_) (fun h3 => ?_)
  · have h3 := of_decide_eq_true h3
    have hw : w64 ((m : Int) - 1) = ((m - 1 : Nat) : Int) := by rw [w64_in (by omega) (by omega)]; omega
    dsimp only
    rw [hw]
    refine ⟨⟨m - 1, rfl, by omega, by omega, h⟩, ?_⟩
    show Int.toNat ((m - 1 : Nat) : Int) < Int.toNat (m : Int)
    omega
  have h3 := of_decide_eq_false h3
  obtain rfl : m = pos held x := by omega
  dsimp only
  refine al.mk h fun c1 w2 h => ?_
  refine nn.mk (ldS.mk (by refine Ok.cellS h (by with_reducible first | exact sl0 | exact .there sl0 | exact .there sl1 | exact .there sl2 | exact .there sl3 | exact .there sl4 | exact .there sl5 | exact .there sl6 | exact .there sl7 | exact .there sl8 | exact .there sl9 | exact .there sl10 | exact .there sl11 | exact .there sl12) ?_; rfl) ?_)
  refine sb_sub (Ok.emb (h) (.cons (A := slc 1 t _) (by with_reducible first | exact sl0 | exact .there sl0 | exact .there sl1 | exact .there sl2 | exact .there sl3 | exact .there sl4 | exact .there sl5 | exact .there sl6 | exact .there sl7 | exact .there sl8 | exact .there sl9 | exact .there sl10 | exact .there sl11 | exact .there sl12) (.same _))) (Int.le_refl _) (Int.natCast_nonneg _) (by omega) fun x1 hx1 => ?_
  have h := h.slcNew (n := 0) (sz := 1) rfl (by simp)
  refine ef.appendSub slT_int (by decide) (Ok.emb (h) (.cons (A := slc 1 ⟨some ⟨c1, 0, none⟩, 0, 0⟩ _) (by with_reducible first | exact sl0 | exact .there sl0 | exact .there sl1 | exact .there sl2 | exact .there sl3 | exact .there sl4 | exact .there sl5 | exact .there sl6 | exact .there sl7 | exact .there sl8 | exact .there sl9 | exact .there sl10 | exact .there sl11 | exact .there sl12) (.cons (A := slc 1 t _) (by with_reducible first | exact sl0 | exact .there sl0 | exact .there sl1 | exact .there sl2 | exact .there sl3 | exact .there sl4 | exact .there sl5 | exact .there sl6 | exact .there sl7 | exact .there sl8 | exact .there sl9 | exact .there sl10 | exact .there sl11 | exact .there sl12) (.same _)))) hx1 (by omega) (by simp only; omega) fun s1 w3 hl1 h => ?_
  refine al.mk h fun c2 w4 h => ?_
  refine ef.append1 (n := 1) slT_int (by decide) (Ok.emb (h) (.cons (A := pts c2 _) (by with_reducible first | exact sl0 | exact .there sl0 | exact .there sl1 | exact .there sl2 | exact .there sl3 | exact .there sl4 | exact .there sl5 | exact .there sl6 | exact .there sl7 | exact .there sl8 | exact .there sl9 | exact .there sl10 | exact .there sl11 | exact .there sl12) (.cons (A := slc 1 s1 _) (by with_reducible first | exact sl0 | exact .there sl0 | exact .there sl1 | exact .there sl2 | exact .there sl3 | exact .there sl4 | exact .there sl5 | exact .there sl6 | exact .there sl7 | exact .there sl8 | exact .there sl9 | exact .there sl10 | exact .there sl11 | exact .there sl12) (.same _)))) rfl (by intro v hv; simp at hv; subst hv; rfl) (by dsimp only at hl1 ⊢; omega) fun s2 w5 hl2 h => ?_
  refine nn.mk (ldS.mk (by refine Ok.cellS h (by with_reducible first | exact sl0 | exact .there sl0 | exact .there sl1 | exact .there sl2 | exact .there sl3 | exact .there sl4 | exact .there sl5 | exact .there sl6 | exact .there sl7 | exact .there sl8 | exact .there sl9 | exact .there sl10 | exact .there sl11 | exact .there sl12) ?_; rfl) ?_)
  refine sb_sub (Ok.emb (h) (.cons (A := slc 1 t _) (by with_reducible first | exact sl0 | exact .there sl0 | exact .there sl1 | exact .there sl2 | exact .there sl3 | exact .there sl4 | exact .there sl5 | exact .there sl6 | exact .there sl7 | exact .there sl8 | exact .there sl9 | exact .there sl10 | exact .there sl11 | exact .there sl12) (.same _))) (Int.natCast_nonneg _) (by omega) (Int.le_refl _) fun x2 hx2 => ?_
  refine ef.appendSub slT_int (by decide) (Ok.emb (h) (.cons (A := slc 1 s2 _) (by with_reducible first | exact sl0 | exact .there sl0 | exact .there sl1 | exact .there sl2 | exact .there sl3 | exact .there sl4 | exact .there sl5 | exact .there sl6 | exact .there sl7 | exact .there sl8 | exact .there sl9 | exact .there sl10 | exact .there sl11 | exact .there sl12) (.cons (A := slc 1 t _) (by with_reducible first | exact sl0 | exact .there sl0 | exact .there sl1 | exact .there sl2 | exact .there sl3 | exact .there sl4 | exact .there sl5 | exact .there sl6 | exact .there sl7 | exact .there sl8 | exact .there sl9 | exact .there sl10 | exact .there sl11 | exact .there sl12) (.same _)))) hx2 (by omega) (by dsimp only at hl1 hl2 ⊢; omega) fun s3 w6 hl3 h => ?_
  refine nn.mk (st1.mk (Ok.emb (h) (.cons (A := pts b _) (by with_reducible first | exact sl0 | exact .there sl0 | exact .there sl1 | exact .there sl2 | exact .there sl3 | exact .there sl4 | exact .there sl5 | exact .there sl6 | exact .there sl7 | exact .there sl8 | exact .there sl9 | exact .there sl10 | exact .there sl11 | exact .there sl12) (.same _))) (by simp) fun w7 h => k s3 w7 ?_)
  dsimp only [List.set, List.tail_cons, List.tail_nil, List.head?_cons, List.head?_nil, Option.getD_some, Option.getD_none] at h
  have e1 : List.drop (Int.toNat 0 * 1) (List.take (Int.toNat (pos held x : Int) * 1) (ints held)) = ints (held.take (pos held x)) := by simp [ints, List.map_take]
  have e2 : List.drop (Int.toNat (pos held x : Int) * 1) (List.take (Int.toNat (t.len : Int) * 1) (ints held)) = ints (held.drop (pos held x)) := by
    rw [Int.toNat_natCast, Int.toNat_natCast, Nat.mul_one, Nat.mul_one, List.take_of_length_le (by rw [ints_len]; omega)]
    simp [ints, List.map_drop]
  rw [e1, e2, List.nil_append, ints_snoc, ← List.map_append] at h
  unfold insU
  exact (h.emb (by repeat' (first | with_reducible exact Emb.same _ | exact Emb.nil _ | refine Emb.cons (by with_reducible first | exact sl0 | exact .there sl0 | exact .there sl1 | exact .there sl2 | exact .there sl3 | exact .there sl4 | exact .there sl5 | exact .there sl6 | exact .there sl7 | exact .there sl8 | exact .there sl9 | exact .there sl10 | exact .there sl11 | exact .there sl12) ?_ | refine Emb.skip ?_)))

theorem Step_ref18 {e w L b byPri a n z q R} (h : Ok e (rpfP b byPri a n z q :: L) w) (hz : 1 ≤ z ∧ z ≤ 4096) (k : ∀ w', Ok e (rpfP b byPri a n z q :: L) w' → R [.int .i64 (stp z)] w') : sh42 (some ⟨b, 0, none⟩) R w := by
  unfold sh42
  have h0 := h
  obtain ⟨p, s, t, hs, ht, h⟩ := rpfE h
  refine nn.mk (ldI.mk (by refine Ok.cellS h (by with_reducible first | exact sl0 | exact .there sl0 | exact .there sl1 | exact .there sl2 | exact .there sl3 | exact .there sl4 | exact .there sl5 | exact .there sl6 | exact .there sl7 | exact .there sl8 | exact .there sl9 | exact .there sl10 | exact .there sl11 | exact .there sl12) ?_; rfl) ?_)
  exact call39 (Align_ref1 h0 hz fun w1 h => ⟨(stp z, ()), rfl, k w1 h⟩)

theorem Free_ref18 {e w L b byPri a n z q R} (h : Ok e (rpfP b byPri a n z q :: L) w) (ho : MPo a n z q)
    (k : ∀ w', Ok e (rpfP b byPri a n z q :: L) w' → R [.int .i64 (n - q.held.length)] w') : sh25 (some ⟨b, 0, none⟩) R w := by
  unfold sh25
  have hlen := ho.len
  have hhad := ho.had
  have hc := ho.c
  obtain ⟨p, s, t, hs, ht, h⟩ := rpfE h
  (repeat (first | with_reducible refine dr.mk h fun _ h => ?_ | with_reducible refine nn.mk ?_ | ((first | with_reducible apply ldI.mk | with_reducible apply ldB.mk | with_reducible apply ldP.mk | with_reducible apply ldS.mk | with_reducible apply ldM.mk | with_reducible apply ldF.mk | with_reducible apply ldG.mk); (· exact (by refine Ok.cellS h (by with_reducible first | exact sl0 | exact .there sl0 | exact .there sl1 | exact .there sl2 | exact .there sl3 | exact .there sl4 | exact .there sl5 | exact .there sl6 | exact .there sl7 | exact .there sl8 | exact .there sl9 | exact .there sl10 | exact .there sl11 | exact .there sl12) ?_; rfl))) | (refine st1.mk (Ok.bring h (by with_reducible first | exact sl0 | exact .there sl0 | exact .there sl1 | exact .there sl2 | exact .there sl3 | exact .there sl4 | exact .there sl5 | exact .there sl6 | exact .there sl7 | exact .there sl8 | exact .there sl9 | exact .there sl10 | exact .there sl11 | exact .there sl12)) (by simp) fun _ h => ?_; dsimp only [List.set] at h)))
  rw [← ht, w64_in (by omega) (by omega)]
  exact k _ (rpfI (p := p) (s := s) (t := t) h)

set_option maxHeartbeats 1000000 in
theorem Poll_ref18 {e w L b byPri a n z q R} (h : Ok e (rpfP b byPri a n z q :: L) w) (ho : MPo a n z q)
    (k : ∀ w', Ok e (rpfP b byPri a n z (q.poll a n z).2 :: L) w' → R [.int .i64 (q.poll a n z).1.1, .bool (q.poll a n z).1.2] w') : sh18 (some ⟨b, 0, none⟩) R w := by
  unfold sh18
  have hlen := ho.len
  have hhad := ho.had
  have hc := ho.c
  have hd := ho.nodup
  have hz := And.intro hc.2.2.2.2.1 hc.2.2.2.2.2.1
  have hst := stp_mul_bd (n := q.had) hz (by omega)
  unfold MP.poll at k
  obtain ⟨p, s, t, hs, ht, h⟩ := rpfE h
  refine nn.mk (ldS.mk (by refine Ok.cellS h (by with_reducible first | exact sl0 | exact .there sl0 | exact .there sl1 | exact .there sl2 | exact .there sl3 | exact .there sl4 | exact .there sl5 | exact .there sl6 | exact .there sl7 | exact .there sl8 | exact .there sl9 | exact .there sl10 | exact .there sl11 | exact .there sl12) ?_; rfl) ?_)
  cases hb : q.back.getLast? with
  | some x =>
    rw [hb] at k
    dsimp only at k
    have hl := last_app hb
    have hno : x ∉ q.held := fun hm => (List.nodup_append.1 hd).2.2 x (by rw [hl]; simp) x hm rfl
    have hlen2 : q.back.length = q.back.dropLast.length + 1 := by conv => lhs; rw [hl, List.length_append, List.length_singleton]
    have hw : w64 ((s.len : Int) - 1) = ((q.back.dropLast.length : Nat) : Int) := by rw [w64_in (by omega) (by omega)]; omega
    refine cs.yes (decide_eq_true (by omega)) (dr.mk h fun w1 h => ?_)
    refine nn.mk (ldS.mk (by refine Ok.cellS h (by with_reducible first | exact sl0 | exact .there sl0 | exact .there sl1 | exact .there sl2 | exact .there sl3 | exact .there sl4 | exact .there sl5 | exact .there sl6 | exact .there sl7 | exact .there sl8 | exact .there sl9 | exact .there sl10 | exact .there sl11 | exact .there sl12) ?_; rfl) (nn.mk (ldS.mk (by refine Ok.cellS h (by with_reducible first | exact sl0 | exact .there sl0 | exact .there sl1 | exact .there sl2 | exact .there sl3 | exact .there sl4 | exact .there sl5 | exact .there sl6 | exact .there sl7 | exact .there sl8 | exact .there sl9 | exact .there sl10 | exact .there sl11 | exact .there sl12) ?_; rfl) ?_)))
    rw [hw]
    refine ix_int (Ok.emb (h) (.cons (A := slc 1 s _) (by with_reducible first | exact sl0 | exact .there sl0 | exact .there sl1 | exact .there sl2 | exact .there sl3 | exact .there sl4 | exact .there sl5 | exact .there sl6 | exact .there sl7 | exact .there sl8 | exact .there sl9 | exact .there sl10 | exact .there sl11 | exact .there sl12) (.same _))) (Int.natCast_nonneg _) (by omega) fun c o y hy hcell => ldI.mk (hcell _ ⟨_, (Ok.emb (h) (.cons (A := slc 1 s _) (by with_reducible first | exact sl0 | exact .there sl0 | exact .there sl1 | exact .there sl2 | exact .there sl3 | exact .there sl4 | exact .there sl5 | exact .there sl6 | exact .there sl7 | exact .there sl8 | exact .there sl9 | exact .there sl10 | exact .there sl11 | exact .there sl12) (.same _)))⟩) ?_
    rw [Int.toNat_natCast] at hy
    have hy2 : y = x := by
      rw [hl, List.getElem?_append_right (by simp)] at hy
      simpa using hy.symm
    subst hy2
    clear hcell
    refine dr.mk h fun w2 h => nn.mk (ldS.mk (by refine Ok.cellS h (by with_reducible first | exact sl0 | exact .there sl0 | exact .there sl1 | exact .there sl2 | exact .there sl3 | exact .there sl4 | exact .there sl5 | exact .there sl6 | exact .there sl7 | exact .there sl8 | exact .there sl9 | exact .there sl10 | exact .there sl11 | exact .there sl12) ?_; rfl) (nn.mk (ldS.mk (by refine Ok.cellS h (by with_reducible first | exact sl0 | exact .there sl0 | exact .there sl1 | exact .there sl2 | exact .there sl3 | exact .there sl4 | exact .there sl5 | exact .there sl6 | exact .there sl7 | exact .there sl8 | exact .there sl9 | exact .there sl10 | exact .there sl11 | exact .there sl12) ?_; rfl) ?_)))
    rw [hw]
    refine sb_sub (Ok.emb (h) (.cons (A := slc 1 s _) (by with_reducible first | exact sl0 | exact .there sl0 | exact .there sl1 | exact .there sl2 | exact .there sl3 | exact .there sl4 | exact .there sl5 | exact .there sl6 | exact .there sl7 | exact .there sl8 | exact .there sl9 | exact .there sl10 | exact .there sl11 | exact .there sl12) (.same _))) (Int.le_refl _) (Int.natCast_nonneg _) (by omega) fun x1 hx1 => ?_
    refine al.mk h fun c1 w3 h => ⟨(by refine Ok.cellS h (by with_reducible first | exact sl0 | exact .there sl0 | exact .there sl1 | exact .there sl2 | exact .there sl3 | exact .there sl4 | exact .there sl5 | exact .there sl6 | exact .there sl7 | exact .there sl8 | exact .there sl9 | exact .there sl10 | exact .there sl11 | exact .there sl12) ?_; rfl), (by refine Ok.cellS h (by with_reducible first | exact sl0 | exact .there sl0 | exact .there sl1 | exact .there sl2 | exact .there sl3 | exact .there sl4 | exact .there sl5 | exact .there sl6 | exact .there sl7 | exact .there sl8 | exact .there sl9 | exact .there sl10 | exact .there sl11 | exact .there sl12) ?_; rfl), ?_⟩
    have h := h.slcNew (n := 0) (sz := 1) rfl (by simp)
    refine ef.appendSub slT_int (by decide) (Ok.emb (h) (.cons (A := slc 1 ⟨some ⟨c1, 0, none⟩, 0, 0⟩ _) (by with_reducible first | exact sl0 | exact .there sl0 | exact .there sl1 | exact .there sl2 | exact .there sl3 | exact .there sl4 | exact .there sl5 | exact .there sl6 | exact .there sl7 | exact .there sl8 | exact .there sl9 | exact .there sl10 | exact .there sl11 | exact .there sl12) (.cons (A := slc 1 s _) (by with_reducible first | exact sl0 | exact .there sl0 | exact .there sl1 | exact .there sl2 | exact .there sl3 | exact .there sl4 | exact .there sl5 | exact .there sl6 | exact .there sl7 | exact .there sl8 | exact .there sl9 | exact .there sl10 | exact .there sl11 | exact .there sl12) (.same _)))) hx1 (by omega) (by simp only; omega) fun s1 w4 hl1 h => ?_
    refine nn.mk (st1.mk (Ok.emb (h) (.cons (A := pts b _) (by with_reducible first | exact sl0 | exact .there sl0 | exact .there sl1 | exact .there sl2 | exact .there sl3 | exact .there sl4 | exact .there sl5 | exact .there sl6 | exact .there sl7 | exact .there sl8 | exact .there sl9 | exact .there sl10 | exact .there sl11 | exact .there sl12) (.same _))) (by simp) fun w5 h => ?_)
    dsimp only [List.set, List.tail_cons, List.tail_nil, List.head?_cons, List.head?_nil, Option.getD_some, Option.getD_none] at h
    have e1 : List.drop (Int.toNat 0 * 1) (List.take (Int.toNat (q.back.dropLast.length : Int) * 1) (ints q.back)) = ints q.back.dropLast := by
      rw [Int.toNat_natCast, Nat.mul_one, Nat.mul_one, ints_take, show q.back.take q.back.dropLast.length = q.back.dropLast by rw [List.length_dropLast, ← List.dropLast_eq_take]]
      rfl
    rw [e1, List.nil_append] at h
    refine call41 (have_ref18 (Ok.emb (h) (.cons (A := pts b _) (by with_reducible first | exact sl0 | exact .there sl0 | exact .there sl1 | exact .there sl2 | exact .there sl3 | exact .there sl4 | exact .there sl5 | exact .there sl6 | exact .there sl7 | exact .there sl8 | exact .there sl9 | exact .there sl10 | exact .there sl11 | exact .there sl12) (.cons (A := slc 1 t _) (by with_reducible first | exact sl0 | exact .there sl0 | exact .there sl1 | exact .there sl2 | exact .there sl3 | exact .there sl4 | exact .there sl5 | exact .there sl6 | exact .there sl7 | exact .there sl8 | exact .there sl9 | exact .there sl10 | exact .there sl11 | exact .there sl12) (.same _)))) (by omega) ho.up hno fun t' w6 h => ⟨(y, ()), rfl, ?_⟩)
    exact k w6 (rpfI (q := ⟨q.S, q.had, q.back.dropLast, insU q.held y⟩) (p := p) (s := s1) (t := t') (h.emb (by repeat' (first | with_reducible exact Emb.same _ | exact Emb.nil _ | refine Emb.cons (by with_reducible first | exact sl0 | exact .there sl0 | exact .there sl1 | exact .there sl2 | exact .there sl3 | exact .there sl4 | exact .there sl5 | exact .there sl6 | exact .there sl7 | exact .there sl8 | exact .there sl9 | exact .there sl10 | exact .there sl11 | exact .there sl12) ?_ | refine Emb.skip ?_))))
  | none =>
    have hb0 : q.back = [] := List.getLast?_eq_none_iff.1 hb
    rw [hb] at k
    dsimp only at k
    refine cs.no (decide_eq_false (by rw [← hs, hb0]; simp)) ?_
    (repeat (first | with_reducible refine dr.mk h fun _ h => ?_ | with_reducible refine nn.mk ?_ | ((first | with_reducible apply ldI.mk | with_reducible apply ldB.mk | with_reducible apply ldP.mk | with_reducible apply ldS.mk | with_reducible apply ldM.mk | with_reducible apply ldF.mk | with_reducible apply ldG.mk); (· exact (by refine Ok.cellS h (by with_reducible first | exact sl0 | exact .there sl0 | exact .there sl1 | exact .there sl2 | exact .there sl3 | exact .there sl4 | exact .there sl5 | exact .there sl6 | exact .there sl7 | exact .there sl8 | exact .there sl9 | exact .there sl10 | exact .there sl11 | exact .there sl12) ?_; rfl))) | (refine st1.mk (Ok.bring h (by with_reducible first | exact sl0 | exact .there sl0 | exact .there sl1 | exact .there sl2 | exact .there sl3 | exact .there sl4 | exact .there sl5 | exact .there sl6 | exact .there sl7 | exact .there sl8 | exact .there sl9 | exact .there sl10 | exact .there sl11 | exact .there sl12)) (by simp) fun _ h => ?_; dsimp only [List.set] at h)))
    refine cs.mk (fun hlt => ?_) (fun hlt => ?_)
    · have hlt := of_decide_eq_true hlt
      rw [if_pos hlt] at k
      have hno : a + q.had * stp z ∉ q.held := fun hm => ho.new (List.mem_append_right _ hm)
      (repeat (first | with_reducible refine dr.mk h fun _ h => ?_ | with_reducible refine nn.mk ?_ | ((first | with_reducible apply ldI.mk | with_reducible apply ldB.mk | with_reducible apply ldP.mk | with_reducible apply ldS.mk | with_reducible apply ldM.mk | with_reducible apply ldF.mk | with_reducible apply ldG.mk); (· exact (by refine Ok.cellS h (by with_reducible first | exact sl0 | exact .there sl0 | exact .there sl1 | exact .there sl2 | exact .there sl3 | exact .there sl4 | exact .there sl5 | exact .there sl6 | exact .there sl7 | exact .there sl8 | exact .there sl9 | exact .there sl10 | exact .there sl11 | exact .there sl12) ?_; rfl))) | (refine st1.mk (Ok.bring h (by with_reducible first | exact sl0 | exact .there sl0 | exact .there sl1 | exact .there sl2 | exact .there sl3 | exact .there sl4 | exact .there sl5 | exact .there sl6 | exact .there sl7 | exact .there sl8 | exact .there sl9 | exact .there sl10 | exact .there sl11 | exact .there sl12)) (by simp) fun _ h => ?_; dsimp only [List.set] at h)))
      rw [w64_in (x := q.had + 1) (by omega) (by omega)] at h ⊢
      have h := rpfI (q := ⟨q.S, q.had + 1, q.back, q.held⟩) (p := p) (s := s) (t := t) (Ok.emb (h) (.cons (A := pts b _) (by with_reducible first | exact sl0 | exact .there sl0 | exact .there sl1 | exact .there sl2 | exact .there sl3 | exact .there sl4 | exact .there sl5 | exact .there sl6 | exact .there sl7 | exact .there sl8 | exact .there sl9 | exact .there sl10 | exact .there sl11 | exact .there sl12) (.cons (A := refP p _ _) (by with_reducible first | exact sl0 | exact .there sl0 | exact .there sl1 | exact .there sl2 | exact .there sl3 | exact .there sl4 | exact .there sl5 | exact .there sl6 | exact .there sl7 | exact .there sl8 | exact .there sl9 | exact .there sl10 | exact .there sl11 | exact .there sl12) (.cons (A := slc 1 s _) (by with_reducible first | exact sl0 | exact .there sl0 | exact .there sl1 | exact .there sl2 | exact .there sl3 | exact .there sl4 | exact .there sl5 | exact .there sl6 | exact .there sl7 | exact .there sl8 | exact .there sl9 | exact .there sl10 | exact .there sl11 | exact .there sl12) (.cons (A := slc 1 t _) (by with_reducible first | exact sl0 | exact .there sl0 | exact .there sl1 | exact .there sl2 | exact .there sl3 | exact .there sl4 | exact .there sl5 | exact .there sl6 | exact .there sl7 | exact .there sl8 | exact .there sl9 | exact .there sl10 | exact .there sl11 | exact .there sl12) (.same _))))))
      refine call42 (Step_ref18 h hz fun w4 h => ?_)
      obtain ⟨p, s, t, hs, ht, h⟩ := rpfE h
      refine ⟨(stp z, ()), rfl, (by refine Ok.cellS h (by with_reducible first | exact sl0 | exact .there sl0 | exact .there sl1 | exact .there sl2 | exact .there sl3 | exact .there sl4 | exact .there sl5 | exact .there sl6 | exact .there sl7 | exact .there sl8 | exact .there sl9 | exact .there sl10 | exact .there sl11 | exact .there sl12) ?_; rfl), (by refine Ok.cellS h (by with_reducible first | exact sl0 | exact .there sl0 | exact .there sl1 | exact .there sl2 | exact .there sl3 | exact .there sl4 | exact .there sl5 | exact .there sl6 | exact .there sl7 | exact .there sl8 | exact .there sl9 | exact .there sl10 | exact .there sl11 | exact .there sl12) ?_; rfl), ?_⟩
      dsimp only at ht ⊢
      rw [show q.had + 1 - 1 = q.had by omega, w64_in (x := q.had) (by omega) (by omega), w64_in (x := q.had * stp z) (by omega) (by omega), w64_in (x := a + q.had * stp z) (by omega) (by omega)]
      refine call41 (have_ref18 (Ok.emb (h) (.cons (A := pts b _) (by with_reducible first | exact sl0 | exact .there sl0 | exact .there sl1 | exact .there sl2 | exact .there sl3 | exact .there sl4 | exact .there sl5 | exact .there sl6 | exact .there sl7 | exact .there sl8 | exact .there sl9 | exact .there sl10 | exact .there sl11 | exact .there sl12) (.cons (A := slc 1 t _) (by with_reducible first | exact sl0 | exact .there sl0 | exact .there sl1 | exact .there sl2 | exact .there sl3 | exact .there sl4 | exact .there sl5 | exact .there sl6 | exact .there sl7 | exact .there sl8 | exact .there sl9 | exact .there sl10 | exact .there sl11 | exact .there sl12) (.same _)))) (by omega) ho.up hno fun t' w6 h => ⟨(a + q.had * stp z, ()), rfl, ?_⟩)
      exact k w6 (rpfI (q := ⟨q.S, q.had + 1, q.back, insU q.held (a + q.had * stp z)⟩) (p := p) (s := s) (t := t') (h.emb (by repeat' (first | with_reducible exact Emb.same _ | exact Emb.nil _ | refine Emb.cons (by with_reducible first | exact sl0 | exact .there sl0 | exact .there sl1 | exact .there sl2 | exact .there sl3 | exact .there sl4 | exact .there sl5 | exact .there sl6 | exact .there sl7 | exact .there sl8 | exact .there sl9 | exact .there sl10 | exact .there sl11 | exact .there sl12) ?_ | refine Emb.skip ?_))))
    · have hlt := of_decide_eq_false hlt
      rw [if_neg hlt] at k
      exact k _ (rpfI (q := q) (p := p) (s := s) (t := t) (h.emb (by repeat' (first | with_reducible exact Emb.same _ | exact Emb.nil _ | refine Emb.cons (by with_reducible first | exact sl0 | exact .there sl0 | exact .there sl1 | exact .there sl2 | exact .there sl3 | exact .there sl4 | exact .there sl5 | exact .there sl6 | exact .there sl7 | exact .there sl8 | exact .there sl9 | exact .there sl10 | exact .there sl11 | exact .there sl12) ?_ | refine Emb.skip ?_))))

theorem Get_ref18 {e w L b byPri a n z q task pri R} (h : Ok e (rpfP b byPri a n z q :: L) w) (ho : MPo a n z q)
    (k : ∀ w', Ok e (rpfP b byPri a n z (q.get a n z byPri task pri).2 :: L) w' → R [.int .i64 (q.get a n z byPri task pri).1.1, .bool (q.get a n z byPri task pri).1.2.1, .int .i64 (q.get a n z byPri task pri).1.2.2] w') : sh17 (some ⟨b, 0, none⟩) task pri R w := by
  unfold sh17
  unfold MP.get at k
  refine call18 (Poll_ref18 h ho fun w1 h => ⟨((q.poll a n z).1.1, (q.poll a n z).1.2, ()), rfl, ?_⟩)
  dsimp only
  refine cs.mk (fun hc => ?_) (fun hc => ?_)
  · rw [if_pos hc] at k
    exact k w1 h
  rw [if_neg (by rw [hc]; simp)] at k
  have hq : (q.poll a n z).2 = q := by
    unfold MP.poll at hc ⊢
    split at hc
    · cases hc
    · next hx =>
      split at hc
      · cases hc
      · next h5 => simp only [if_neg h5]
  rw [hq] at h
  have l1 := okL_len ho.line
  obtain ⟨p, s, t, hs, ht, h⟩ := rpfE h
  refine nn.mk (ldP.mk (by refine Ok.cellS h (by with_reducible first | exact sl0 | exact .there sl0 | exact .there sl1 | exact .there sl2 | exact .there sl3 | exact .there sl4 | exact .there sl5 | exact .there sl6 | exact .there sl7 | exact .there sl8 | exact .there sl9 | exact .there sl10 | exact .there sl11 | exact .there sl12) ?_; rfl) ?_)
  refine call40 (Add_ref4 (Ok.emb (h) (.cons (A := refP p _ _) (by with_reducible first | exact sl0 | exact .there sl0 | exact .there sl1 | exact .there sl2 | exact .there sl3 | exact .there sl4 | exact .there sl5 | exact .there sl6 | exact .there sl7 | exact .there sl8 | exact .there sl9 | exact .there sl10 | exact .there sl11 | exact .there sl12) (.same _))) (by omega) fun w3 h => ⟨((addL byPri q.S task pri).1, ()), rfl, ?_⟩)
  exact k w3 (rpfI (q := ⟨(addL byPri q.S task pri).2, q.had, q.back, q.held⟩) (p := p) (s := s) (t := t) (h.emb (by repeat' (first | with_reducible exact Emb.same _ | exact Emb.nil _ | refine Emb.cons (by with_reducible first | exact sl0 | exact .there sl0 | exact .there sl1 | exact .there sl2 | exact .there sl3 | exact .there sl4 | exact .there sl5 | exact .there sl6 | exact .there sl7 | exact .there sl8 | exact .there sl9 | exact .there sl10 | exact .there sl11 | exact .there sl12) ?_ | refine Emb.skip ?_))))

end Go.Proofs.Ytbdgglhfmanfbaa.B
