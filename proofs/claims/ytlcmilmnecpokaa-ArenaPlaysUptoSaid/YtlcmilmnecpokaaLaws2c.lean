/- Laws of layer 2: the play. -/
import Derived.Test.YtlcmilmnecpokaaUpto
namespace Go.Proofs.Ytlcmilmnecpokaa.B
open Go
set_option linter.unusedVariables false

theorem unpack4 {e w A B C D L} (h : Ok e (oksH [A, B, C, D] :: L) w) : Ok e (A :: B :: C :: D :: L) w := h.unpack

theorem sub_all {e w L s m} (h : Ok e (slc 1 s (by8 m) :: L) w) : SubOf s 1 0 s.len s := by
  refine ⟨by omega, fun h0 => ?_⟩
  obtain ⟨-, -, hcc, hcase⟩ := h.slcE
  rcases hcase with ⟨h0', h00, _⟩ | ⟨b', post, hb, _⟩
  · omega
  · exact ⟨b', hb, by rw [hb, Nat.zero_mul]⟩

theorem in_2 {w R} {a n : Int} {z : Nat} (hz : z ≤ 65536) (k : R [.bool (decide (inA a n z))] w) : sh16 a n (z : Nat) R w := by
  unfold sh16
  refine jn.bool (decide (0 ≤ a ∧ 0 ≤ n)) (fun J hJ => cs.mk (fun h1 => ?_) (fun h1 => ?_)) ?_
  · have h1 := of_decide_eq_true h1
    rw [show decide (0 ≤ a ∧ 0 ≤ n) = decide (n ≥ 0) from decide_eq_decide.2 (by omega)] at hJ
    exact hJ
  · have h1 := of_decide_eq_false h1
    rw [decide_eq_false (by omega)] at hJ
    exact hJ
  refine jn.bool (decide (0 ≤ a ∧ 0 ≤ n ∧ a ≤ z)) (fun J hJ => cs.mk (fun h1 => ?_) (fun h1 => ?_)) ?_
  · have h1 := of_decide_eq_true h1
    rw [show decide (0 ≤ a ∧ 0 ≤ n ∧ a ≤ z) = decide (a ≤ z) from decide_eq_decide.2 (by omega)] at hJ
    exact hJ
  · have h1 := of_decide_eq_false h1
    rw [decide_eq_false (by omega)] at hJ
    exact hJ
  refine jn.bool (decide (inA a n z)) (fun J hJ => cs.mk (fun h1 => ?_) (fun h1 => ?_)) k
  · have h1 := of_decide_eq_true h1
    rw [w64_in (by omega) (by omega)]
    rw [show decide (inA a n z) = decide (n ≤ (z : Int) - a) from decide_eq_decide.2 (by unfold inA; omega)] at hJ
    exact hJ
  · have h1 := of_decide_eq_false h1
    rw [decide_eq_false (by unfold inA; omega)] at hJ
    exact hJ

set_option maxHeartbeats 8000000 in
theorem ArenaPlays_walk {e : World} {a0 : Int} {a1 : Sl} {vs : List Value} (_ : (Lit.int .i64 a0).wf = true) (ha : ArgZ 1048576 [.i .i64, .i .i64, .i .i64, .s (.s (.i .u8)), .i .u32] e a1 vs) : sh6 a0 a1 (LawEnd e) e := by
  unfold sh6
  refine call8 (known_2 (Ok.start e) fun w1 h => ⟨(true, ()), enc_b rfl, ?_⟩)
  refine cs.no rfl ?_
  refine jn.g (a1.len ≤ 100 ∧ ¬ (2000 < a0 ∧ a0 ≤ 65536)) (fun J hJ => cs.mk (fun h1 => hJ true (fun h => by cases h)) (fun h1 => ?_)) fun c1 hc1 => ?_
  · have h1 := of_decide_eq_false h1
    refine jn.g (¬ (2000 < a0 ∧ a0 ≤ 65536)) (fun J2 hJ2 => cs.mk (fun h2 => hJ2 _ fun h3 => ?_) (fun h2 => hJ2 _ fun _ => ?_)) (fun c hc => hJ _ fun h4 => ⟨by omega, hc h4⟩)
    · have := of_decide_eq_false h3; omega
    · have := of_decide_eq_false h2; omega
  refine cs.mk (fun _ => ⟨rfl, h⟩) (fun h1 => ?_)
  obtain ⟨g1, g2⟩ := hc1 h1
  clear hc1 h1
  have hguard : ∀ {w : World} {rest : TK [kB] → World → Prop}, rest (decide (0 ≤ a0 ∧ a0 ≤ 65536), ()) w → jn [kB] w rest fun J9 w12 => cs (decide ((a0 : Int) ≥ (0 : Int))) (J9 (decide ((a0 : Int) ≤ (65536 : Int)), ()) w12) (J9 (false, ()) w12) := fun hr =>
    jn.bool (decide (0 ≤ a0 ∧ a0 ≤ 65536)) (fun J hJ => cs.mk (fun h1 => by
      have h1 := of_decide_eq_true h1
      rw [show decide (0 ≤ a0 ∧ a0 ≤ 65536) = decide (a0 ≤ 65536) from decide_eq_decide.2 (by omega)] at hJ
      exact hJ) (fun h1 => by
      have h1 := of_decide_eq_false h1
      rw [decide_eq_false (by omega)] at hJ
      exact hJ)) hr
  refine call9 (New_arena h (fun h0 => ⟨(none, (-17 : Int), ()), rfl, ?_⟩) fun h0 b w2 h => ⟨(some ⟨b, 0, none⟩, (0 : Int), ()), rfl, ?_⟩)
  · refine hguard ?_
    rw [decide_eq_false h0]
    refine jn.bool false (fun J hJ => cs.no rfl hJ) ?_
    exact cs.no rfl (cs.yes rfl ⟨rfl, h⟩)
  refine hguard ?_
  rw [decide_eq_true h0]
  refine jn.bool false (fun J hJ => cs.no rfl hJ) ?_
  refine cs.no rfl (cs.no rfl ?_)
  clear hguard
  obtain ⟨z, rfl⟩ := Int.eq_ofNat_of_zero_le h0.1
  refine ef.makeB mkT_b h (by omega) (by omega) fun s w3 hs hsc hsa h => ?_
  rw [Int.toNat_natCast] at h hs
  have hz : z ≤ 2000 := by omega
  let I : TK [kP, kI, kI] → World → Prop := fun t w' => ∃ b m, ∃ n : Nat, t.1 = some ⟨b, 0, none⟩ ∧ t.2.2.1 = (n : Int) ∧ n ≤ a1.len ∧ m.length = z ∧ Ok e [arenaP b t.2.1 m, slc 1 s (by8 m), old e] w'
  refine lp.mk I (fun t _ => a1.len - t.2.2.1.toNat) ⟨b, _, 0, rfl, rfl, Nat.zero_le _, List.length_replicate, h.p1⟩ ?_
  clear h
  rintro ⟨t1, (c : Int), i, _⟩ w3 ⟨b, m, n, ht, hn, hn1, hm, h⟩
  dsimp only at ht hn h
  subst ht hn
  have hdd : ∀ mm : List UInt8, mm.length = z → (mm.drop (0 : Int).toNat).take (z : Int).toNat = mm := fun mm hm => by
    rw [show (0 : Int).toNat = 0 from rfl, List.drop_zero, Int.toNat_natCast, List.take_of_length_le (by omega)]
  refine cs.mk (fun hlt => ?_) (fun hge => ?_)
  rotate_left
  · refine call12 (Read_arena h (by omega) (fun h0 => absurd (by unfold inA; omega) h0) fun _ s2 w4 hs2 h => ⟨(s2, (0 : Int), ()), rfl, ?_⟩)
    rw [hdd m hm] at h
    refine jn.bool true (fun J hJ => cs.yes rfl ?_) ⟨rfl, (h.emb (by repeat' (first | with_reducible exact Emb.same _ | exact Emb.nil _ | refine Emb.cons (by with_reducible first | exact sl0 | exact .there sl0 | exact .there sl1 | exact .there sl2 | exact .there sl3 | exact .there sl4 | exact .there sl5 | exact .there sl6 | exact .there sl7 | exact .there sl8 | exact .there sl9 | exact .there sl10 | exact .there sl11 | exact .there sl12) ?_ | refine Emb.skip ?_)))⟩
    refine tx.mkS bsT h ?_
    refine tx.mkS bsT (Ok.emb (h) (.cons (A := slc 1 s _) (by with_reducible first | exact sl0 | exact .there sl0 | exact .there sl1 | exact .there sl2 | exact .there sl3 | exact .there sl4 | exact .there sl5 | exact .there sl6 | exact .there sl7 | exact .there sl8 | exact .there sl9 | exact .there sl10 | exact .there sl11 | exact .there sl12) (.same _))) ?_
    rw [str_eq]
    exact hJ
  have hlt : n < a1.len := by have := of_decide_eq_true hlt; dsimp only at this; omega
  have hw1 : w64 ((n : Int) + 1) = ((n + 1 : Nat) : Int) := by rw [w64_in (by omega) (by omega)]; rfl
  have hstep : ∀ (b : Nat) (m : List UInt8) (c : Int) (w' : World), m.length = z → Ok e [arenaP b c m, slc 1 s (by8 m), old e] w' → I (some ⟨b, 0, none⟩, c, w64 ((n : Int) + 1), ()) w' ∧ a1.len - (w64 ((n : Int) + 1)).toNat < a1.len - (n : Int).toNat := fun b m c w' hm h => by
    rw [hw1]
    exact ⟨⟨b, m, n + 1, rfl, rfl, hlt, hm, h⟩, by omega⟩
  obtain ⟨_, hv0, ⟨kd, rfl, _⟩, _⟩ := ha.2 n hlt 0 _ rfl
  obtain ⟨_, hv1, ⟨d, rfl, hwd⟩, _⟩ := ha.2 n hlt 1 _ rfl
  obtain ⟨_, hv2, ⟨N, rfl, hwN⟩, _⟩ := ha.2 n hlt 2 _ rfl
  obtain ⟨_, hv3, _, hsz⟩ := ha.2 n hlt 3 _ rfl
  obtain ⟨_, hv4, ⟨W, rfl, hwW⟩, _⟩ := ha.2 n hlt 4 _ rfl
  obtain ⟨sp, pss, rfl, rp, hp1, hp2⟩ := sz_p hsz
  have hWb := wf_u32 hwW
  have hdb := wf_i64 hwd
  have hNb := wf_i64 hwN
  refine ix_args ha.1 (by decide) (by simp) (by simpa using hlt) fun b1 o hh => ?_
  refine ldI.mk (hh 0 _ (by decide) (by simpa using hv0) _ ⟨_, h.p2⟩) ?_
  refine ldI.mk (hh 1 _ (by decide) (by simpa using hv1) _ ⟨_, h.p2⟩) ?_
  refine ldI.mk (hh 2 _ (by decide) (by simpa using hv2) _ ⟨_, h.p2⟩) ?_
  refine ldS.mk (hh 3 _ (by decide) (by simpa using hv3) _ ⟨_, h.p2⟩) ?_
  refine ldI.mk (hh 4 _ (by decide) (by simpa using hv4) _ ⟨_, h.p2⟩) ?_
  clear hh
  refine al.mk h fun bc w4 h => ?_
  have h : Ok e (pts bc [.int .i64 0, .int .i64 0, .int .i64 0, vS ⟨none, 0, 0⟩, .int .u32 0] :: [arenaP b c m, slc 1 s (by8 m), old e]) w4 := h
  (repeat (first | with_reducible refine dr.mk h fun _ h => ?_ | with_reducible refine nn.mk ?_ | ((first | with_reducible apply ldI.mk | with_reducible apply ldB.mk | with_reducible apply ldP.mk | with_reducible apply ldS.mk | with_reducible apply ldM.mk | with_reducible apply ldF.mk | with_reducible apply ldG.mk); (· exact (by refine Ok.cellS h (by with_reducible first | exact sl0 | exact .there sl0 | exact .there sl1 | exact .there sl2 | exact .there sl3 | exact .there sl4 | exact .there sl5 | exact .there sl6 | exact .there sl7 | exact .there sl8 | exact .there sl9 | exact .there sl10 | exact .there sl11 | exact .there sl12) ?_; rfl))) | (refine st1.mk (Ok.bring h (by with_reducible first | exact sl0 | exact .there sl0 | exact .there sl1 | exact .there sl2 | exact .there sl3 | exact .there sl4 | exact .there sl5 | exact .there sl6 | exact .there sl7 | exact .there sl8 | exact .there sl9 | exact .there sl10 | exact .there sl11 | exact .there sl12)) (by simp) fun _ h => ?_; dsimp only [List.set] at h)))
  let G : TK [kP, kI] → World → Prop := fun t w' => ∃ b m, t.1 = some ⟨b, 0, none⟩ ∧ m.length = z ∧ Ok e [arenaP b t.2.1 m, slc 1 s (by8 m), old e] w'
  refine jn.all G (fun J hJ => ?_) (fun t w' hw => ?_)
  rotate_left
  · clear h
    obtain ⟨b, m, ht, hm, h⟩ := hw
    obtain ⟨t1, c, _⟩ := t
    dsimp only at ht h
    subst ht
    refine call11 (Cost_arena h ⟨(c, ()), rfl, ?_⟩)
    refine jn.bool false (fun J hJ => cs.no (bne_self_eq_false _) ?_) ?_
    · refine call18 (Size_arena h ⟨((z : Int), ()), by rw [hm]; rfl, ?_⟩)
      dsimp only
      rw [bne_self_eq_false]
      exact hJ
    exact cs.no rfl (hstep b m c w' hm h)
  refine cs.mk (fun _ => ?_) (fun _ => ?_)
  · -- Read
    (repeat (first | with_reducible refine dr.mk h fun _ h => ?_ | with_reducible refine nn.mk ?_ | ((first | with_reducible apply ldI.mk | with_reducible apply ldB.mk | with_reducible apply ldP.mk | with_reducible apply ldS.mk | with_reducible apply ldM.mk | with_reducible apply ldF.mk | with_reducible apply ldG.mk); (· exact (by refine Ok.cellS h (by with_reducible first | exact sl0 | exact .there sl0 | exact .there sl1 | exact .there sl2 | exact .there sl3 | exact .there sl4 | exact .there sl5 | exact .there sl6 | exact .there sl7 | exact .there sl8 | exact .there sl9 | exact .there sl10 | exact .there sl11 | exact .there sl12) ?_; rfl))) | (refine st1.mk (Ok.bring h (by with_reducible first | exact sl0 | exact .there sl0 | exact .there sl1 | exact .there sl2 | exact .there sl3 | exact .there sl4 | exact .there sl5 | exact .there sl6 | exact .there sl7 | exact .there sl8 | exact .there sl9 | exact .there sl10 | exact .there sl11 | exact .there sl12)) (by simp) fun _ h => ?_; dsimp only [List.set] at h)))
    by_cases hin : inA d N z
    · refine call12 (Read_arena (Ok.emb (h) (.cons (A := arenaP b _ _) (by with_reducible first | exact sl0 | exact .there sl0 | exact .there sl1 | exact .there sl2 | exact .there sl3 | exact .there sl4 | exact .there sl5 | exact .there sl6 | exact .there sl7 | exact .there sl8 | exact .there sl9 | exact .there sl10 | exact .there sl11 | exact .there sl12) (.same _))) (by omega) (fun h0 => absurd (by rw [hm]; exact hin) h0) fun _ s2 w5 hs2 h => ⟨(s2, (0 : Int), ()), rfl, ?_⟩)
      (repeat (first | with_reducible refine dr.mk h fun _ h => ?_ | with_reducible refine nn.mk ?_ | ((first | with_reducible apply ldI.mk | with_reducible apply ldB.mk | with_reducible apply ldP.mk | with_reducible apply ldS.mk | with_reducible apply ldM.mk | with_reducible apply ldF.mk | with_reducible apply ldG.mk); (· exact (by refine Ok.cellS h (by with_reducible first | exact sl0 | exact .there sl0 | exact .there sl1 | exact .there sl2 | exact .there sl3 | exact .there sl4 | exact .there sl5 | exact .there sl6 | exact .there sl7 | exact .there sl8 | exact .there sl9 | exact .there sl10 | exact .there sl11 | exact .there sl12) ?_; rfl))) | (refine st1.mk (Ok.bring h (by with_reducible first | exact sl0 | exact .there sl0 | exact .there sl1 | exact .there sl2 | exact .there sl3 | exact .there sl4 | exact .there sl5 | exact .there sl6 | exact .there sl7 | exact .there sl8 | exact .there sl9 | exact .there sl10 | exact .there sl11 | exact .there sl12)) (by simp) fun _ h => ?_; dsimp only [List.set] at h)))
      refine call16 (in_2 (by omega) ⟨(true, ()), by rw [decide_eq_true hin]; rfl, ?_⟩)
      refine jn.bool false (fun J1 hJ1 => cs.no rfl (jn.bool false (fun J2 hJ2 => cs.no rfl hJ2) hJ1)) ?_
      refine cs.no rfl ?_
      refine jn.at ((w64 (c + N) : Int), ()) (fun w' => Ok e [arenaP b (w64 (c + N)) m, slc 1 s (by8 m), old e] w') (fun J1 hJ1 => ?_) (fun w' h => hJ _ _ ⟨b, m, rfl, hm, h⟩)
      refine cs.yes rfl ?_
      (repeat (first | with_reducible refine dr.mk h fun _ h => ?_ | with_reducible refine nn.mk ?_ | ((first | with_reducible apply ldI.mk | with_reducible apply ldB.mk | with_reducible apply ldP.mk | with_reducible apply ldS.mk | with_reducible apply ldM.mk | with_reducible apply ldF.mk | with_reducible apply ldG.mk); (· exact (by refine Ok.cellS h (by with_reducible first | exact sl0 | exact .there sl0 | exact .there sl1 | exact .there sl2 | exact .there sl3 | exact .there sl4 | exact .there sl5 | exact .there sl6 | exact .there sl7 | exact .there sl8 | exact .there sl9 | exact .there sl10 | exact .there sl11 | exact .there sl12) ?_; rfl))) | (refine st1.mk (Ok.bring h (by with_reducible first | exact sl0 | exact .there sl0 | exact .there sl1 | exact .there sl2 | exact .there sl3 | exact .there sl4 | exact .there sl5 | exact .there sl6 | exact .there sl7 | exact .there sl8 | exact .there sl9 | exact .there sl10 | exact .there sl11 | exact .there sl12)) (by simp) fun _ h => ?_; dsimp only [List.set] at h)))
      refine tx.mkS bsT (Ok.emb (h) (.cons (A := slc 1 s2 _) (by with_reducible first | exact sl0 | exact .there sl0 | exact .there sl1 | exact .there sl2 | exact .there sl3 | exact .there sl4 | exact .there sl5 | exact .there sl6 | exact .there sl7 | exact .there sl8 | exact .there sl9 | exact .there sl10 | exact .there sl11 | exact .there sl12) (.same _))) ?_
      (repeat (first | with_reducible refine dr.mk h fun _ h => ?_ | with_reducible refine nn.mk ?_ | ((first | with_reducible apply ldI.mk | with_reducible apply ldB.mk | with_reducible apply ldP.mk | with_reducible apply ldS.mk | with_reducible apply ldM.mk | with_reducible apply ldF.mk | with_reducible apply ldG.mk); (· exact (by refine Ok.cellS h (by with_reducible first | exact sl0 | exact .there sl0 | exact .there sl1 | exact .there sl2 | exact .there sl3 | exact .there sl4 | exact .there sl5 | exact .there sl6 | exact .there sl7 | exact .there sl8 | exact .there sl9 | exact .there sl10 | exact .there sl11 | exact .there sl12) ?_; rfl))) | (refine st1.mk (Ok.bring h (by with_reducible first | exact sl0 | exact .there sl0 | exact .there sl1 | exact .there sl2 | exact .there sl3 | exact .there sl4 | exact .there sl5 | exact .there sl6 | exact .there sl7 | exact .there sl8 | exact .there sl9 | exact .there sl10 | exact .there sl11 | exact .there sl12)) (by simp) fun _ h => ?_; dsimp only [List.set] at h)))
      unfold inA at hin
      dsimp only
      rw [w64_in (x := d + N) (by omega) (by omega)]
      refine sb_both (Ok.emb (h) (.cons (A := slc 1 s (by8 m)) (by with_reducible first | exact sl0 | exact .there sl0 | exact .there sl1 | exact .there sl2 | exact .there sl3 | exact .there sl4 | exact .there sl5 | exact .there sl6 | exact .there sl7 | exact .there sl8 | exact .there sl9 | exact .there sl10 | exact .there sl11 | exact .there sl12) (.same _))) hin.1 (by omega) (by omega) fun x hx hr => ?_
      refine tx.mk bsT (Ok.emb (h) (.cons (A := slc 1 s (by8 m)) (by with_reducible first | exact sl0 | exact .there sl0 | exact .there sl1 | exact .there sl2 | exact .there sl3 | exact .there sl4 | exact .there sl5 | exact .there sl6 | exact .there sl7 | exact .there sl8 | exact .there sl9 | exact .there sl10 | exact .there sl11 | exact .there sl12) (.same _))) hr ?_
      rw [show (m.take (d + N).toNat).drop d.toNat = (m.drop d.toNat).take N.toNat by rw [List.drop_take, show (d + N).toNat - d.toNat = N.toNat by omega], str_eq]
      exact cs.no rfl (hJ1 _ (h.emb (by repeat' (first | with_reducible exact Emb.same _ | exact Emb.nil _ | refine Emb.cons (by with_reducible first | exact sl0 | exact .there sl0 | exact .there sl1 | exact .there sl2 | exact .there sl3 | exact .there sl4 | exact .there sl5 | exact .there sl6 | exact .there sl7 | exact .there sl8 | exact .there sl9 | exact .there sl10 | exact .there sl11 | exact .there sl12) ?_ | refine Emb.skip ?_))))
    · refine call12 (Read_arena (Ok.emb (h) (.cons (A := arenaP b _ _) (by with_reducible first | exact sl0 | exact .there sl0 | exact .there sl1 | exact .there sl2 | exact .there sl3 | exact .there sl4 | exact .there sl5 | exact .there sl6 | exact .there sl7 | exact .there sl8 | exact .there sl9 | exact .there sl10 | exact .there sl11 | exact .there sl12) (.same _))) (by omega) (fun _ w5 h => ⟨(⟨none, 0, 0⟩, (-17 : Int), ()), rfl, ?_⟩) (fun h0 => absurd (by rw [hm] at h0; exact h0) hin))
      (repeat (first | with_reducible refine dr.mk h fun _ h => ?_ | with_reducible refine nn.mk ?_ | ((first | with_reducible apply ldI.mk | with_reducible apply ldB.mk | with_reducible apply ldP.mk | with_reducible apply ldS.mk | with_reducible apply ldM.mk | with_reducible apply ldF.mk | with_reducible apply ldG.mk); (· exact (by refine Ok.cellS h (by with_reducible first | exact sl0 | exact .there sl0 | exact .there sl1 | exact .there sl2 | exact .there sl3 | exact .there sl4 | exact .there sl5 | exact .there sl6 | exact .there sl7 | exact .there sl8 | exact .there sl9 | exact .there sl10 | exact .there sl11 | exact .there sl12) ?_; rfl))) | (refine st1.mk (Ok.bring h (by with_reducible first | exact sl0 | exact .there sl0 | exact .there sl1 | exact .there sl2 | exact .there sl3 | exact .there sl4 | exact .there sl5 | exact .there sl6 | exact .there sl7 | exact .there sl8 | exact .there sl9 | exact .there sl10 | exact .there sl11 | exact .there sl12)) (by simp) fun _ h => ?_; dsimp only [List.set] at h)))
      refine call16 (in_2 (by omega) ⟨(false, ()), by rw [decide_eq_false hin]; rfl, ?_⟩)
      refine jn.bool false (fun J1 hJ1 => cs.no rfl (jn.bool false (fun J2 hJ2 => cs.yes rfl (jn.bool false (fun J3 hJ3 => cs.no rfl hJ3) hJ2)) hJ1)) ?_
      refine cs.no rfl ?_
      refine jn.at ((c : Int), ()) (fun w' => Ok e [arenaP b c m, slc 1 s (by8 m), old e] w') (fun J1 hJ1 => cs.no rfl (hJ1 _ (h.emb (by repeat' (first | with_reducible exact Emb.same _ | exact Emb.nil _ | refine Emb.cons (by with_reducible first | exact sl0 | exact .there sl0 | exact .there sl1 | exact .there sl2 | exact .there sl3 | exact .there sl4 | exact .there sl5 | exact .there sl6 | exact .there sl7 | exact .there sl8 | exact .there sl9 | exact .there sl10 | exact .there sl11 | exact .there sl12) ?_ | refine Emb.skip ?_))))) (fun w' h => hJ _ _ ⟨b, m, rfl, hm, h⟩)
  refine jn.all G (fun J1 hJ1 => ?_) (fun t w' hw => hJ t w' hw)
  refine cs.mk (fun _ => ?_) (fun _ => ?_)
  · -- Write
    have hl := rp.len
    have hfl : ∀ i : Nat, (pss.take i).flatten.length ≤ pss.flatten.length := fun i => by
      rw [← List.take_append_drop i pss, List.flatten_append]; simp
    have h := (Ok.emb (h) (.cons (A := old e) (by with_reducible first | exact sl0 | exact .there sl0 | exact .there sl1 | exact .there sl2 | exact .there sl3 | exact .there sl4 | exact .there sl5 | exact .there sl6 | exact .there sl7 | exact .there sl8 | exact .there sl9 | exact .there sl10 | exact .there sl11 | exact .there sl12) (.same _)))
    refine lp.mk (fun t w' => ∃ i : Nat, t.2.1 = (i : Int) ∧ i ≤ pss.length ∧ t.1.len = (pss.take i).flatten.length ∧ Ok e [slc 1 t.1 (by8 (pss.take i).flatten), old e, pts bc [.int .i64 kd, .int .i64 d, .int .i64 N, vS sp, .int .u32 W], arenaP b c m, slc 1 s (by8 m)] w') (fun t _ => pss.length - t.2.1.toNat)
      ⟨0, rfl, Nat.zero_le _, rfl, h.slcNil 1⟩ ?_
    clear h
    rintro ⟨(t : Sl), (i' : Int), _⟩ w5 ⟨i, hi, hi1, ht, h⟩
    dsimp only at hi ht h
    subst hi
    have hfi := hfl i
    refine ldS.mk (by refine Ok.cellS h (by with_reducible first | exact sl0 | exact .there sl0 | exact .there sl1 | exact .there sl2 | exact .there sl3 | exact .there sl4 | exact .there sl5 | exact .there sl6 | exact .there sl7 | exact .there sl8 | exact .there sl9 | exact .there sl10 | exact .there sl11 | exact .there sl12) ?_; rfl) ?_
    refine cs.mk (fun hlt2 => ?_) (fun hge => ?_)
    · have hlt2 : i < pss.length := by have := of_decide_eq_true hlt2; dsimp only at this; omega
      obtain ⟨l, hl1⟩ : ∃ l, pss[i]? = some l := ⟨_, List.getElem?_eq_getElem hlt2⟩
      refine ldS.mk (by refine Ok.cellS h (by with_reducible first | exact sl0 | exact .there sl0 | exact .there sl1 | exact .there sl2 | exact .there sl3 | exact .there sl4 | exact .there sl5 | exact .there sl6 | exact .there sl7 | exact .there sl8 | exact .there sl9 | exact .there sl10 | exact .there sl11 | exact .there sl12) ?_; rfl) ?_
      refine ix_rdp rp hl1 fun b2 o2 x hc hr => ldS.mk (hc _ _ h.p1) ?_
      have hx := hr.len
      have e2 : (pss.take (i + 1)).flatten = (pss.take i).flatten ++ l := by
        rw [List.take_add_one, hl1, List.flatten_append]; simp
      have h2 := hfl (i + 1)
      rw [e2, List.length_append] at h2
      refine ef.append slT_b (by decide) h (by rw [by8_len]; omega) (fun ha => by rw [hr.none ha]; rfl) (fun a ha => hr.cells h.p1 ha) by8_one (by simp only; omega) fun s' w6 hl2 h => ?_
      rw [← by8_append, ← e2] at h
      have hw : w64 ((i : Int) + 1) = ((i + 1 : Nat) : Int) := by rw [w64_in (by omega) (by omega)]; rfl
      dsimp only at hl2 ⊢
      rw [hw]
      refine ⟨⟨i + 1, rfl, hlt2, ?_, h⟩, ?_⟩
      · rw [e2, List.length_append]; omega
      · show pss.length - Int.toNat ((i + 1 : Nat) : Int) < pss.length - Int.toNat (i : Int)
        omega
    have hge : ¬ i < pss.length := by have := of_decide_eq_false hge; dsimp only at this; omega
    have e3 : pss.take i = pss := List.take_of_length_le (by omega)
    rw [e3] at h ht
    refine cs.mk (fun _ => ⟨rfl, (h.emb (by repeat' (first | with_reducible exact Emb.same _ | exact Emb.nil _ | refine Emb.cons (by with_reducible first | exact sl0 | exact .there sl0 | exact .there sl1 | exact .there sl2 | exact .there sl3 | exact .there sl4 | exact .there sl5 | exact .there sl6 | exact .there sl7 | exact .there sl8 | exact .there sl9 | exact .there sl10 | exact .there sl11 | exact .there sl12) ?_ | refine Emb.skip ?_)))⟩) (fun hbig => ?_)
    have hbig := of_decide_eq_false hbig
    have hrt := slc_rdB h
    (repeat (first | with_reducible refine dr.mk h fun _ h => ?_ | with_reducible refine nn.mk ?_ | ((first | with_reducible apply ldI.mk | with_reducible apply ldB.mk | with_reducible apply ldP.mk | with_reducible apply ldS.mk | with_reducible apply ldM.mk | with_reducible apply ldF.mk | with_reducible apply ldG.mk); (· exact (by refine Ok.cellS h (by with_reducible first | exact sl0 | exact .there sl0 | exact .there sl1 | exact .there sl2 | exact .there sl3 | exact .there sl4 | exact .there sl5 | exact .there sl6 | exact .there sl7 | exact .there sl8 | exact .there sl9 | exact .there sl10 | exact .there sl11 | exact .there sl12) ?_; rfl))) | (refine st1.mk (Ok.bring h (by with_reducible first | exact sl0 | exact .there sl0 | exact .there sl1 | exact .there sl2 | exact .there sl3 | exact .there sl4 | exact .there sl5 | exact .there sl6 | exact .there sl7 | exact .there sl8 | exact .there sl9 | exact .there sl10 | exact .there sl11 | exact .there sl12)) (by simp) fun _ h => ?_; dsimp only [List.set] at h)))
    have h := (Ok.emb (h) (.cons (A := arenaP b _ _) (by with_reducible first | exact sl0 | exact .there sl0 | exact .there sl1 | exact .there sl2 | exact .there sl3 | exact .there sl4 | exact .there sl5 | exact .there sl6 | exact .there sl7 | exact .there sl8 | exact .there sl9 | exact .there sl10 | exact .there sl11 | exact .there sl12) (.cons (A := old e) (by with_reducible first | exact sl0 | exact .there sl0 | exact .there sl1 | exact .there sl2 | exact .there sl3 | exact .there sl4 | exact .there sl5 | exact .there sl6 | exact .there sl7 | exact .there sl8 | exact .there sl9 | exact .there sl10 | exact .there sl11 | exact .there sl12) (.same _))))
    dsimp only
    rw [ht]
    dsimp only at hbig
    rw [ht] at hbig
    by_cases hin : inA d (pss.flatten.length : Nat) z
    · refine call10 (Write_arena h (by omega) rp (by omega) (by omega) (fun h0 => absurd (by rw [hm]; exact hin) h0) fun _ w6 h => ⟨((0 : Int), ()), rfl, ?_⟩)
      (repeat (first | with_reducible refine dr.mk h fun _ h => ?_ | with_reducible refine nn.mk ?_ | ((first | with_reducible apply ldI.mk | with_reducible apply ldB.mk | with_reducible apply ldP.mk | with_reducible apply ldS.mk | with_reducible apply ldM.mk | with_reducible apply ldF.mk | with_reducible apply ldG.mk); (· exact (by refine Ok.cellS h (by with_reducible first | exact sl0 | exact .there sl0 | exact .there sl1 | exact .there sl2 | exact .there sl3 | exact .there sl4 | exact .there sl5 | exact .there sl6 | exact .there sl7 | exact .there sl8 | exact .there sl9 | exact .there sl10 | exact .there sl11 | exact .there sl12) ?_; rfl))) | (refine st1.mk (Ok.bring h (by with_reducible first | exact sl0 | exact .there sl0 | exact .there sl1 | exact .there sl2 | exact .there sl3 | exact .there sl4 | exact .there sl5 | exact .there sl6 | exact .there sl7 | exact .there sl8 | exact .there sl9 | exact .there sl10 | exact .there sl11 | exact .there sl12)) (by simp) fun _ h => ?_; dsimp only [List.set] at h)))
      refine call16 (in_2 (by omega) ⟨(true, ()), by rw [decide_eq_true hin]; rfl, ?_⟩)
      refine cs.no rfl ?_
      unfold inA at hin
      obtain ⟨at0, rfl⟩ := Int.eq_ofNat_of_zero_le hin.1
      rw [Int.toNat_natCast] at h
      generalize hA : pss.flatten = A at *
      have hm2 : (wrA m at0 A).length = z := by rw [wrA_len (by omega)]; exact hm
      refine jn.at ((w64 (c + (A.length : Nat)) : Int), ()) (fun w' => Ok e [arenaP b (w64 (c + (A.length : Nat))) (wrA m at0 A), slc 1 s (by8 (wrA m at0 A)), old e] w') (fun J2 hJ2 => cs.yes rfl ?_) (fun w' h => hJ1 _ _ ⟨b, _, rfl, hm2, h⟩)
      refine lp.mk (fun t' w' => ∃ k : Nat, t'.1 = (k : Int) ∧ k ≤ A.length ∧ Ok e [slc 1 s (by8 (wrA m at0 (A.take k))), slc 1 t (by8 A), pts bc [.int .i64 kd, .int .i64 at0, .int .i64 N, vS sp, .int .u32 W], arenaP b (w64 (c + (A.length : Nat))) (wrA m at0 A), old e] w') (fun t' _ => A.length - t'.1.toNat)
        ⟨0, rfl, Nat.zero_le _, by rw [List.take_zero, wrA_nil]; exact (h.emb (by repeat' (first | with_reducible exact Emb.same _ | exact Emb.nil _ | refine Emb.cons (by with_reducible first | exact sl0 | exact .there sl0 | exact .there sl1 | exact .there sl2 | exact .there sl3 | exact .there sl4 | exact .there sl5 | exact .there sl6 | exact .there sl7 | exact .there sl8 | exact .there sl9 | exact .there sl10 | exact .there sl11 | exact .there sl12) ?_ | refine Emb.skip ?_)))⟩ ?_
      clear h
      rintro ⟨(k' : Int), _⟩ w7 ⟨k, hk, hk1, h⟩
      dsimp only at hk
      subst hk
      refine cs.mk (fun hlt2 => ?_) (fun hge => ?_)
      · have hlt2 : k < A.length := by have := of_decide_eq_true hlt2; dsimp only at this; omega
        refine dr.mk h fun w8 h => ?_
        refine ldI.mk (by refine Ok.cellS h (by with_reducible first | exact sl0 | exact .there sl0 | exact .there sl1 | exact .there sl2 | exact .there sl3 | exact .there sl4 | exact .there sl5 | exact .there sl6 | exact .there sl7 | exact .there sl8 | exact .there sl9 | exact .there sl10 | exact .there sl11 | exact .there sl12) ?_; rfl) ?_
        refine ix_rdb hrt (Int.natCast_nonneg _) (by dsimp only; omega) fun b2 o2 y hy hcell => ldI.mk (hcell _ _ (Ok.emb (h) (.cons (A := slc 1 t _) (by with_reducible first | exact sl0 | exact .there sl0 | exact .there sl1 | exact .there sl2 | exact .there sl3 | exact .there sl4 | exact .there sl5 | exact .there sl6 | exact .there sl7 | exact .there sl8 | exact .there sl9 | exact .there sl10 | exact .there sl11 | exact .there sl12) (.same _)))) ?_
        dsimp only at hy
        rw [Int.toNat_natCast] at hy
        have e4 : w64 ((at0 : Int) + (k : Int)) = ((0 + (at0 + k) : Nat) : Int) := by rw [w64_in (by omega) (by omega)]; omega
        have hml : (wrA m at0 (A.take k)).length = z := by rw [wrA_len (by rw [List.length_take]; omega)]; exact hm
        dsimp only
        rw [e4, Nat.zero_add]
        refine st_sub h (sub_all h) (Nat.le_refl _) (by omega) (x := y) rfl fun w9 h => ?_
        rw [Nat.zero_add, wrA_step (l := A) (by omega) hy] at h
        have hw : w64 ((k : Int) + 1) = ((k + 1 : Nat) : Int) := by rw [w64_in (by omega) (by omega)]; rfl
        rw [hw]
        refine ⟨⟨k + 1, rfl, hlt2, h⟩, ?_⟩
        show A.length - Int.toNat ((k + 1 : Nat) : Int) < A.length - Int.toNat (k : Int)
        omega
      · have hge : ¬ k < A.length := by have := of_decide_eq_false hge; dsimp only at this; omega
        rw [List.take_of_length_le (by omega)] at h
        exact hJ2 _ (h.emb (by repeat' (first | with_reducible exact Emb.same _ | exact Emb.nil _ | refine Emb.cons (by with_reducible first | exact sl0 | exact .there sl0 | exact .there sl1 | exact .there sl2 | exact .there sl3 | exact .there sl4 | exact .there sl5 | exact .there sl6 | exact .there sl7 | exact .there sl8 | exact .there sl9 | exact .there sl10 | exact .there sl11 | exact .there sl12) ?_ | refine Emb.skip ?_)))
    · refine call10 (Write_arena h (by omega) rp (by omega) (by omega) (fun _ w6 h => ⟨((-17 : Int), ()), rfl, ?_⟩) (fun h0 => absurd (by rw [hm] at h0; exact h0) hin))
      (repeat (first | with_reducible refine dr.mk h fun _ h => ?_ | with_reducible refine nn.mk ?_ | ((first | with_reducible apply ldI.mk | with_reducible apply ldB.mk | with_reducible apply ldP.mk | with_reducible apply ldS.mk | with_reducible apply ldM.mk | with_reducible apply ldF.mk | with_reducible apply ldG.mk); (· exact (by refine Ok.cellS h (by with_reducible first | exact sl0 | exact .there sl0 | exact .there sl1 | exact .there sl2 | exact .there sl3 | exact .there sl4 | exact .there sl5 | exact .there sl6 | exact .there sl7 | exact .there sl8 | exact .there sl9 | exact .there sl10 | exact .there sl11 | exact .there sl12) ?_; rfl))) | (refine st1.mk (Ok.bring h (by with_reducible first | exact sl0 | exact .there sl0 | exact .there sl1 | exact .there sl2 | exact .there sl3 | exact .there sl4 | exact .there sl5 | exact .there sl6 | exact .there sl7 | exact .there sl8 | exact .there sl9 | exact .there sl10 | exact .there sl11 | exact .there sl12)) (by simp) fun _ h => ?_; dsimp only [List.set] at h)))
      refine call16 (in_2 (by omega) ⟨(false, ()), by rw [decide_eq_false hin]; rfl, ?_⟩)
      refine cs.no rfl ?_
      refine jn.at ((c : Int), ()) (fun w' => Ok e [arenaP b c m, slc 1 s (by8 m), old e] w') (fun J2 hJ2 => cs.no rfl (hJ2 _ (h.emb (by repeat' (first | with_reducible exact Emb.same _ | exact Emb.nil _ | refine Emb.cons (by with_reducible first | exact sl0 | exact .there sl0 | exact .there sl1 | exact .there sl2 | exact .there sl3 | exact .there sl4 | exact .there sl5 | exact .there sl6 | exact .there sl7 | exact .there sl8 | exact .there sl9 | exact .there sl10 | exact .there sl11 | exact .there sl12) ?_ | refine Emb.skip ?_))))) (fun w' h => hJ1 _ _ ⟨b, m, rfl, hm, h⟩)
  refine jn.bool (decide (kd = 3 ∨ kd = 4)) (fun J2 hJ2 => cs.mk (fun h1 => ?_) (fun h1 => ?_)) ?_
  · have h1 : kd = 3 := by simpa using h1
    rw [decide_eq_true (.inl h1)] at hJ2
    exact hJ2
  · have h1 : ¬ kd = 3 := by simpa using h1
    rw [show decide (kd = 3 ∨ kd = 4) = (kd == 4) by rw [Bool.eq_iff_iff, decide_eq_true_iff, beq_iff_eq]; omega] at hJ2
    exact hJ2
  refine jn.all G (fun J2 hJ2 => ?_) (fun t w' hw => hJ1 t w' hw)
  refine cs.mk (fun hk34 => ?_) (fun _ => ?_)
  · -- words
    have hk34 : kd = 3 ∨ kd = 4 := of_decide_eq_true hk34
    (repeat (first | with_reducible refine dr.mk h fun _ h => ?_ | with_reducible refine nn.mk ?_ | ((first | with_reducible apply ldI.mk | with_reducible apply ldB.mk | with_reducible apply ldP.mk | with_reducible apply ldS.mk | with_reducible apply ldM.mk | with_reducible apply ldF.mk | with_reducible apply ldG.mk); (· exact (by refine Ok.cellS h (by with_reducible first | exact sl0 | exact .there sl0 | exact .there sl1 | exact .there sl2 | exact .there sl3 | exact .there sl4 | exact .there sl5 | exact .there sl6 | exact .there sl7 | exact .there sl8 | exact .there sl9 | exact .there sl10 | exact .there sl11 | exact .there sl12) ?_; rfl))) | (refine st1.mk (Ok.bring h (by with_reducible first | exact sl0 | exact .there sl0 | exact .there sl1 | exact .there sl2 | exact .there sl3 | exact .there sl4 | exact .there sl5 | exact .there sl6 | exact .there sl7 | exact .there sl8 | exact .there sl9 | exact .there sl10 | exact .there sl11 | exact .there sl12)) (by simp) fun _ h => ?_; dsimp only [List.set] at h)))
    refine call16 (in_2 (by omega) ⟨(decide (inA d 4 z), ()), rfl, ?_⟩)
    refine jn.bool (decide (inA d 4 z ∧ d % 4 = 0)) (fun J3 hJ3 => cs.mk (fun h1 => ldI.mk (by refine Ok.cellS h (by with_reducible first | exact sl0 | exact .there sl0 | exact .there sl1 | exact .there sl2 | exact .there sl3 | exact .there sl4 | exact .there sl5 | exact .there sl6 | exact .there sl7 | exact .there sl8 | exact .there sl9 | exact .there sl10 | exact .there sl11 | exact .there sl12) ?_; rfl) ?_) (fun h1 => ?_)) ?_
    · have h1 : inA d 4 z := of_decide_eq_true h1
      have h2 := h1
      unfold inA at h2
      rw [Int.tmod_eq_emod_of_nonneg h2.1]
      rw [show decide (inA d 4 z ∧ d % 4 = 0) = (d % 4 == 0) by rw [Bool.eq_iff_iff, decide_eq_true_iff, beq_iff_eq]; exact ⟨fun h => h.2, fun h => ⟨h1, h⟩⟩] at hJ3
      exact hJ3
    · have h1 : ¬ inA d 4 z := of_decide_eq_false h1
      rw [decide_eq_false (fun h => h1 h.1)] at hJ3
      exact hJ3
    (repeat (first | with_reducible refine dr.mk h fun _ h => ?_ | with_reducible refine nn.mk ?_ | ((first | with_reducible apply ldI.mk | with_reducible apply ldB.mk | with_reducible apply ldP.mk | with_reducible apply ldS.mk | with_reducible apply ldM.mk | with_reducible apply ldF.mk | with_reducible apply ldG.mk); (· exact (by refine Ok.cellS h (by with_reducible first | exact sl0 | exact .there sl0 | exact .there sl1 | exact .there sl2 | exact .there sl3 | exact .there sl4 | exact .there sl5 | exact .there sl6 | exact .there sl7 | exact .there sl8 | exact .there sl9 | exact .there sl10 | exact .there sl11 | exact .there sl12) ?_; rfl))) | (refine st1.mk (Ok.bring h (by with_reducible first | exact sl0 | exact .there sl0 | exact .there sl1 | exact .there sl2 | exact .there sl3 | exact .there sl4 | exact .there sl5 | exact .there sl6 | exact .there sl7 | exact .there sl8 | exact .there sl9 | exact .there sl10 | exact .there sl11 | exact .there sl12)) (by simp) fun _ h => ?_; dsimp only [List.set] at h)))
    by_cases hok : inA d 4 z ∧ d % 4 = 0
    · rw [decide_eq_true hok]
      have h2 := hok.1
      unfold inA at h2
      obtain ⟨at0, rfl⟩ := Int.eq_ofNat_of_zero_le h2.1
      by_cases hk3 : kd = 3
      · refine jn.at (wordOf ((m.drop at0).take 4), (0 : Int), ()) (fun w' => Ok e [arenaP b (w64 (c + 4)) m, pts bc [.int .i64 kd, .int .i64 at0, .int .i64 N, vS sp, .int .u32 W], slc 1 s (by8 m), old e] w') (fun J4 hJ4 => cs.yes (by simp [hk3]) ?_) (fun w5 h => ?_)
        · (repeat (first | with_reducible refine dr.mk h fun _ h => ?_ | with_reducible refine nn.mk ?_ | ((first | with_reducible apply ldI.mk | with_reducible apply ldB.mk | with_reducible apply ldP.mk | with_reducible apply ldS.mk | with_reducible apply ldM.mk | with_reducible apply ldF.mk | with_reducible apply ldG.mk); (· exact (by refine Ok.cellS h (by with_reducible first | exact sl0 | exact .there sl0 | exact .there sl1 | exact .there sl2 | exact .there sl3 | exact .there sl4 | exact .there sl5 | exact .there sl6 | exact .there sl7 | exact .there sl8 | exact .there sl9 | exact .there sl10 | exact .there sl11 | exact .there sl12) ?_; rfl))) | (refine st1.mk (Ok.bring h (by with_reducible first | exact sl0 | exact .there sl0 | exact .there sl1 | exact .there sl2 | exact .there sl3 | exact .there sl4 | exact .there sl5 | exact .there sl6 | exact .there sl7 | exact .there sl8 | exact .there sl9 | exact .there sl10 | exact .there sl11 | exact .there sl12)) (by simp) fun _ h => ?_; dsimp only [List.set] at h)))
          refine call14 (Word_arena (Ok.emb (h) (.cons (A := arenaP b _ _) (by with_reducible first | exact sl0 | exact .there sl0 | exact .there sl1 | exact .there sl2 | exact .there sl3 | exact .there sl4 | exact .there sl5 | exact .there sl6 | exact .there sl7 | exact .there sl8 | exact .there sl9 | exact .there sl10 | exact .there sl11 | exact .there sl12) (.same _))) (by omega) (fun h0 => absurd (by rw [hm]; exact hok) h0) fun _ _ w6 h => ⟨(wordOf ((m.drop at0).take 4), (0 : Int), ()), rfl, hJ4 _ h⟩)
        refine jn.bool false (fun J4 hJ4 => cs.no rfl (jn.bool false (fun J5 hJ5 => cs.no rfl hJ5) hJ4)) ?_
        refine cs.no rfl (cs.no rfl ?_)
        (repeat (first | with_reducible refine dr.mk h fun _ h => ?_ | with_reducible refine nn.mk ?_ | ((first | with_reducible apply ldI.mk | with_reducible apply ldB.mk | with_reducible apply ldP.mk | with_reducible apply ldS.mk | with_reducible apply ldM.mk | with_reducible apply ldF.mk | with_reducible apply ldG.mk); (· exact (by refine Ok.cellS h (by with_reducible first | exact sl0 | exact .there sl0 | exact .there sl1 | exact .there sl2 | exact .there sl3 | exact .there sl4 | exact .there sl5 | exact .there sl6 | exact .there sl7 | exact .there sl8 | exact .there sl9 | exact .there sl10 | exact .there sl11 | exact .there sl12) ?_; rfl))) | (refine st1.mk (Ok.bring h (by with_reducible first | exact sl0 | exact .there sl0 | exact .there sl1 | exact .there sl2 | exact .there sl3 | exact .there sl4 | exact .there sl5 | exact .there sl6 | exact .there sl7 | exact .there sl8 | exact .there sl9 | exact .there sl10 | exact .there sl11 | exact .there sl12)) (by simp) fun _ h => ?_; dsimp only [List.set] at h)))
        refine jn.at () (fun w' => Ok e [arenaP b (w64 (c + 4)) m, slc 1 s (by8 m), old e] w') (fun J4 hJ4 => cs.no (by simp [hk3]) ?_) (fun w' h => hJ2 _ _ ⟨b, m, rfl, hm, h⟩)
        refine dr.mk h fun w6 h => ?_
        have hr := slc_rdB (Ok.emb (h) (.cons (A := slc 1 s _) (by with_reducible first | exact sl0 | exact .there sl0 | exact .there sl1 | exact .there sl2 | exact .there sl3 | exact .there sl4 | exact .there sl5 | exact .there sl6 | exact .there sl7 | exact .there sl8 | exact .there sl9 | exact .there sl10 | exact .there sl11 | exact .there sl12) (.same _)))
        have hsl := (Ok.emb (h) (.cons (A := slc 1 s (by8 m)) (by with_reducible first | exact sl0 | exact .there sl0 | exact .there sl1 | exact .there sl2 | exact .there sl3 | exact .there sl4 | exact .there sl5 | exact .there sl6 | exact .there sl7 | exact .there sl8 | exact .there sl9 | exact .there sl10 | exact .there sl11 | exact .there sl12) (.same _)))
        have hD : ∀ (i : Nat) (x : UInt8), m[at0 + i]? = some x → i < 4 → ((m.drop at0).take 4).getD i 0 = x := fun i x hx hi => by
          rw [List.getD_eq_getElem?_getD, List.getElem?_take_of_lt hi, List.getElem?_drop, hx]; rfl
        have ew : ∀ i : Nat, i < 4 → w64 ((at0 : Int) + (i : Int)) = ((at0 + i : Nat) : Int) := fun i hi => by rw [w64_in (by omega) (by omega)]; omega
        refine ldI.mk (by refine Ok.cellS h (by with_reducible first | exact sl0 | exact .there sl0 | exact .there sl1 | exact .there sl2 | exact .there sl3 | exact .there sl4 | exact .there sl5 | exact .there sl6 | exact .there sl7 | exact .there sl8 | exact .there sl9 | exact .there sl10 | exact .there sl11 | exact .there sl12) ?_; rfl) ?_
        refine ix_rdb hr (Int.natCast_nonneg _) (by dsimp only; omega) fun b2 o2 y0 hy0 c0 => ldI.mk (c0 _ _ hsl) ?_
        refine ldI.mk (by refine Ok.cellS h (by with_reducible first | exact sl0 | exact .there sl0 | exact .there sl1 | exact .there sl2 | exact .there sl3 | exact .there sl4 | exact .there sl5 | exact .there sl6 | exact .there sl7 | exact .there sl8 | exact .there sl9 | exact .there sl10 | exact .there sl11 | exact .there sl12) ?_; rfl) ?_
        have e1 := ew 1 (by decide)
        have e2 := ew 2 (by decide)
        have e3 := ew 3 (by decide)
        rw [show (at0 : Int) + 1 = (at0 : Int) + ((1 : Nat) : Int) from rfl, e1]
        refine ix_rdb hr (Int.natCast_nonneg _) (by dsimp only; omega) fun b3 o3 y1 hy1 c1 => ldI.mk (c1 _ _ hsl) ?_
        refine ldI.mk (by refine Ok.cellS h (by with_reducible first | exact sl0 | exact .there sl0 | exact .there sl1 | exact .there sl2 | exact .there sl3 | exact .there sl4 | exact .there sl5 | exact .there sl6 | exact .there sl7 | exact .there sl8 | exact .there sl9 | exact .there sl10 | exact .there sl11 | exact .there sl12) ?_; rfl) ?_
        rw [show (at0 : Int) + 2 = (at0 : Int) + ((2 : Nat) : Int) from rfl, e2]
        refine ix_rdb hr (Int.natCast_nonneg _) (by dsimp only; omega) fun b4 o4 y2 hy2 c2 => ldI.mk (c2 _ _ hsl) ?_
        refine ldI.mk (by refine Ok.cellS h (by with_reducible first | exact sl0 | exact .there sl0 | exact .there sl1 | exact .there sl2 | exact .there sl3 | exact .there sl4 | exact .there sl5 | exact .there sl6 | exact .there sl7 | exact .there sl8 | exact .there sl9 | exact .there sl10 | exact .there sl11 | exact .there sl12) ?_; rfl) ?_
        rw [show (at0 : Int) + 3 = (at0 : Int) + ((3 : Nat) : Int) from rfl, e3]
        refine ix_rdb hr (Int.natCast_nonneg _) (by dsimp only; omega) fun b5 o5 y3 hy3 c3 => ldI.mk (c3 _ _ hsl) ?_
        refine cs.no ?_ (hJ4 _ (h.emb (by repeat' (first | with_reducible exact Emb.same _ | exact Emb.nil _ | refine Emb.cons (by with_reducible first | exact sl0 | exact .there sl0 | exact .there sl1 | exact .there sl2 | exact .there sl3 | exact .there sl4 | exact .there sl5 | exact .there sl6 | exact .there sl7 | exact .there sl8 | exact .there sl9 | exact .there sl10 | exact .there sl11 | exact .there sl12) ?_ | refine Emb.skip ?_))))
        rw [Int.toNat_natCast] at hy0 hy1 hy2 hy3
        unfold wordOf
        rw [hD 0 y0 hy0 (by decide), hD 1 y1 hy1 (by decide), hD 2 y2 hy2 (by decide), hD 3 y3 hy3 (by decide)]
        exact bne_self_eq_false _
      · have hk4 : kd = 4 := by omega
        have hm2 : (wrA m at0 (wB W)).length = z := by rw [wrA_len (by rw [wB_len]; omega)]; exact hm
        refine jn.at ((0 : Int), (0 : Int), ()) (fun w' => Ok e [arenaP b (w64 (c + 4)) (wrA m at0 (wB W)), pts bc [.int .i64 kd, .int .i64 at0, .int .i64 N, vS sp, .int .u32 W], slc 1 s (by8 m), old e] w') (fun J4 hJ4 => cs.no (by simp [hk3]) ?_) (fun w5 h => ?_)
        · (repeat (first | with_reducible refine dr.mk h fun _ h => ?_ | with_reducible refine nn.mk ?_ | ((first | with_reducible apply ldI.mk | with_reducible apply ldB.mk | with_reducible apply ldP.mk | with_reducible apply ldS.mk | with_reducible apply ldM.mk | with_reducible apply ldF.mk | with_reducible apply ldG.mk); (· exact (by refine Ok.cellS h (by with_reducible first | exact sl0 | exact .there sl0 | exact .there sl1 | exact .there sl2 | exact .there sl3 | exact .there sl4 | exact .there sl5 | exact .there sl6 | exact .there sl7 | exact .there sl8 | exact .there sl9 | exact .there sl10 | exact .there sl11 | exact .there sl12) ?_; rfl))) | (refine st1.mk (Ok.bring h (by with_reducible first | exact sl0 | exact .there sl0 | exact .there sl1 | exact .there sl2 | exact .there sl3 | exact .there sl4 | exact .there sl5 | exact .there sl6 | exact .there sl7 | exact .there sl8 | exact .there sl9 | exact .there sl10 | exact .there sl11 | exact .there sl12)) (by simp) fun _ h => ?_; dsimp only [List.set] at h)))
          refine call13 (PutWord_arena (Ok.emb (h) (.cons (A := arenaP b _ _) (by with_reducible first | exact sl0 | exact .there sl0 | exact .there sl1 | exact .there sl2 | exact .there sl3 | exact .there sl4 | exact .there sl5 | exact .there sl6 | exact .there sl7 | exact .there sl8 | exact .there sl9 | exact .there sl10 | exact .there sl11 | exact .there sl12) (.same _))) (by omega) hWb.1 (fun h0 => absurd (by rw [hm]; exact hok) h0) fun _ _ w6 h => ⟨((0 : Int), ()), rfl, hJ4 _ h⟩)
        refine jn.bool false (fun J4 hJ4 => cs.no rfl (jn.bool false (fun J5 hJ5 => cs.no rfl hJ5) hJ4)) ?_
        refine cs.no rfl (cs.no rfl ?_)
        (repeat (first | with_reducible refine dr.mk h fun _ h => ?_ | with_reducible refine nn.mk ?_ | ((first | with_reducible apply ldI.mk | with_reducible apply ldB.mk | with_reducible apply ldP.mk | with_reducible apply ldS.mk | with_reducible apply ldM.mk | with_reducible apply ldF.mk | with_reducible apply ldG.mk); (· exact (by refine Ok.cellS h (by with_reducible first | exact sl0 | exact .there sl0 | exact .there sl1 | exact .there sl2 | exact .there sl3 | exact .there sl4 | exact .there sl5 | exact .there sl6 | exact .there sl7 | exact .there sl8 | exact .there sl9 | exact .there sl10 | exact .there sl11 | exact .there sl12) ?_; rfl))) | (refine st1.mk (Ok.bring h (by with_reducible first | exact sl0 | exact .there sl0 | exact .there sl1 | exact .there sl2 | exact .there sl3 | exact .there sl4 | exact .there sl5 | exact .there sl6 | exact .there sl7 | exact .there sl8 | exact .there sl9 | exact .there sl10 | exact .there sl11 | exact .there sl12)) (by simp) fun _ h => ?_; dsimp only [List.set] at h)))
        refine jn.at () (fun w' => Ok e [arenaP b (w64 (c + 4)) (wrA m at0 (wB W)), slc 1 s (by8 (wrA m at0 (wB W))), old e] w') (fun J4 hJ4 => cs.yes (by simp [hk4]) ?_) (fun w' h => hJ2 _ _ ⟨b, _, rfl, hm2, h⟩)
        refine lp.mk (fun t' w' => ∃ k : Nat, t'.1 = (k : Int) ∧ k ≤ 4 ∧ Ok e [slc 1 s (by8 (wrA m at0 ((wB W).take k))), pts bc [.int .i64 kd, .int .i64 at0, .int .i64 N, vS sp, .int .u32 W], arenaP b (w64 (c + 4)) (wrA m at0 (wB W)), old e] w') (fun t' _ => 4 - t'.1.toNat)
          ⟨0, rfl, Nat.zero_le _, by rw [List.take_zero, wrA_nil]; exact (h.emb (by repeat' (first | with_reducible exact Emb.same _ | exact Emb.nil _ | refine Emb.cons (by with_reducible first | exact sl0 | exact .there sl0 | exact .there sl1 | exact .there sl2 | exact .there sl3 | exact .there sl4 | exact .there sl5 | exact .there sl6 | exact .there sl7 | exact .there sl8 | exact .there sl9 | exact .there sl10 | exact .there sl11 | exact .there sl12) ?_ | refine Emb.skip ?_)))⟩ ?_
        clear h
        rintro ⟨(k' : Int), _⟩ w7 ⟨k, hk, hk1, h⟩
        dsimp only at hk
        subst hk
        refine cs.mk (fun hlt2 => ?_) (fun hge => ?_)
        · have hlt2 : k < 4 := by have := of_decide_eq_true hlt2; dsimp only at this; omega
          (repeat (first | with_reducible refine dr.mk h fun _ h => ?_ | with_reducible refine nn.mk ?_ | ((first | with_reducible apply ldI.mk | with_reducible apply ldB.mk | with_reducible apply ldP.mk | with_reducible apply ldS.mk | with_reducible apply ldM.mk | with_reducible apply ldF.mk | with_reducible apply ldG.mk); (· exact (by refine Ok.cellS h (by with_reducible first | exact sl0 | exact .there sl0 | exact .there sl1 | exact .there sl2 | exact .there sl3 | exact .there sl4 | exact .there sl5 | exact .there sl6 | exact .there sl7 | exact .there sl8 | exact .there sl9 | exact .there sl10 | exact .there sl11 | exact .there sl12) ?_; rfl))) | (refine st1.mk (Ok.bring h (by with_reducible first | exact sl0 | exact .there sl0 | exact .there sl1 | exact .there sl2 | exact .there sl3 | exact .there sl4 | exact .there sl5 | exact .there sl6 | exact .there sl7 | exact .there sl8 | exact .there sl9 | exact .there sl10 | exact .there sl11 | exact .there sl12)) (by simp) fun _ h => ?_; dsimp only [List.set] at h)))
          have e4 : IntKind.u64.wrap (w64 (8 * (k : Int))) = ((8 * k : Nat) : Int) := by
            rw [w64_in (by omega) (by omega), IntWalk.u64_in _ ⟨by omega, by omega⟩]; omega
          have hmin : min ((8 * k : Nat) : Int).toNat 32 = 8 * k := by rw [Int.toNat_natCast]; omega
          dsimp only
          rw [e4, hmin]
          refine ob.mk (Int.natCast_nonneg _) ?_
          obtain ⟨y, hy, hy2⟩ := wB_get (x := W) hWb.1 hlt2
          have e5 : w64 ((at0 : Int) + (k : Int)) = ((0 + (at0 + k) : Nat) : Int) := by rw [w64_in (by omega) (by omega)]; omega
          have hml : (wrA m at0 ((wB W).take k)).length = z := by rw [wrA_len (by rw [List.length_take, wB_len]; omega)]; exact hm
          rw [e5, Nat.zero_add]
          refine st_sub h (sub_all h) (Nat.le_refl _) (by omega) (x := y) (by rw [v8, hy2]) fun w9 h => ?_
          rw [Nat.zero_add, wrA_step (l := wB W) (by rw [wB_len]; omega) hy] at h
          have hw : w64 ((k : Int) + 1) = ((k + 1 : Nat) : Int) := by rw [w64_in (by omega) (by omega)]; rfl
          rw [hw]
          refine ⟨⟨k + 1, rfl, hlt2, h⟩, ?_⟩
          show 4 - Int.toNat ((k + 1 : Nat) : Int) < 4 - Int.toNat (k : Int)
          omega
        · have hge : ¬ k < 4 := by have := of_decide_eq_false hge; dsimp only at this; omega
          rw [List.take_of_length_le (by rw [wB_len]; omega)] at h
          exact hJ4 _ (h.emb (by repeat' (first | with_reducible exact Emb.same _ | exact Emb.nil _ | refine Emb.cons (by with_reducible first | exact sl0 | exact .there sl0 | exact .there sl1 | exact .there sl2 | exact .there sl3 | exact .there sl4 | exact .there sl5 | exact .there sl6 | exact .there sl7 | exact .there sl8 | exact .there sl9 | exact .there sl10 | exact .there sl11 | exact .there sl12) ?_ | refine Emb.skip ?_)))
    · rw [decide_eq_false hok]
      refine jn.at ((0 : Int), (-17 : Int), ()) (fun w' => Ok e [arenaP b c m, slc 1 s (by8 m), old e] w') (fun J4 hJ4 => cs.mk (fun h1 => ?_) (fun h1 => ?_)) (fun w5 h => ?_)
      · (repeat (first | with_reducible refine dr.mk h fun _ h => ?_ | with_reducible refine nn.mk ?_ | ((first | with_reducible apply ldI.mk | with_reducible apply ldB.mk | with_reducible apply ldP.mk | with_reducible apply ldS.mk | with_reducible apply ldM.mk | with_reducible apply ldF.mk | with_reducible apply ldG.mk); (· exact (by refine Ok.cellS h (by with_reducible first | exact sl0 | exact .there sl0 | exact .there sl1 | exact .there sl2 | exact .there sl3 | exact .there sl4 | exact .there sl5 | exact .there sl6 | exact .there sl7 | exact .there sl8 | exact .there sl9 | exact .there sl10 | exact .there sl11 | exact .there sl12) ?_; rfl))) | (refine st1.mk (Ok.bring h (by with_reducible first | exact sl0 | exact .there sl0 | exact .there sl1 | exact .there sl2 | exact .there sl3 | exact .there sl4 | exact .there sl5 | exact .there sl6 | exact .there sl7 | exact .there sl8 | exact .there sl9 | exact .there sl10 | exact .there sl11 | exact .there sl12)) (by simp) fun _ h => ?_; dsimp only [List.set] at h)))
        refine call14 (Word_arena (Ok.emb (h) (.cons (A := arenaP b _ _) (by with_reducible first | exact sl0 | exact .there sl0 | exact .there sl1 | exact .there sl2 | exact .there sl3 | exact .there sl4 | exact .there sl5 | exact .there sl6 | exact .there sl7 | exact .there sl8 | exact .there sl9 | exact .there sl10 | exact .there sl11 | exact .there sl12) (.same _))) (by omega) (fun _ w6 h => ⟨((0 : Int), (-17 : Int), ()), rfl, hJ4 _ (h.emb (by repeat' (first | with_reducible exact Emb.same _ | exact Emb.nil _ | refine Emb.cons (by with_reducible first | exact sl0 | exact .there sl0 | exact .there sl1 | exact .there sl2 | exact .there sl3 | exact .there sl4 | exact .there sl5 | exact .there sl6 | exact .there sl7 | exact .there sl8 | exact .there sl9 | exact .there sl10 | exact .there sl11 | exact .there sl12) ?_ | refine Emb.skip ?_)))⟩) (fun h0 h4 => absurd ⟨by rw [hm] at h0; exact h0, h4⟩ hok))
      · (repeat (first | with_reducible refine dr.mk h fun _ h => ?_ | with_reducible refine nn.mk ?_ | ((first | with_reducible apply ldI.mk | with_reducible apply ldB.mk | with_reducible apply ldP.mk | with_reducible apply ldS.mk | with_reducible apply ldM.mk | with_reducible apply ldF.mk | with_reducible apply ldG.mk); (· exact (by refine Ok.cellS h (by with_reducible first | exact sl0 | exact .there sl0 | exact .there sl1 | exact .there sl2 | exact .there sl3 | exact .there sl4 | exact .there sl5 | exact .there sl6 | exact .there sl7 | exact .there sl8 | exact .there sl9 | exact .there sl10 | exact .there sl11 | exact .there sl12) ?_; rfl))) | (refine st1.mk (Ok.bring h (by with_reducible first | exact sl0 | exact .there sl0 | exact .there sl1 | exact .there sl2 | exact .there sl3 | exact .there sl4 | exact .there sl5 | exact .there sl6 | exact .there sl7 | exact .there sl8 | exact .there sl9 | exact .there sl10 | exact .there sl11 | exact .there sl12)) (by simp) fun _ h => ?_; dsimp only [List.set] at h)))
        refine call13 (PutWord_arena (Ok.emb (h) (.cons (A := arenaP b _ _) (by with_reducible first | exact sl0 | exact .there sl0 | exact .there sl1 | exact .there sl2 | exact .there sl3 | exact .there sl4 | exact .there sl5 | exact .there sl6 | exact .there sl7 | exact .there sl8 | exact .there sl9 | exact .there sl10 | exact .there sl11 | exact .there sl12) (.same _))) (by omega) hWb.1 (fun _ w6 h => ⟨((-17 : Int), ()), rfl, hJ4 _ (h.emb (by repeat' (first | with_reducible exact Emb.same _ | exact Emb.nil _ | refine Emb.cons (by with_reducible first | exact sl0 | exact .there sl0 | exact .there sl1 | exact .there sl2 | exact .there sl3 | exact .there sl4 | exact .there sl5 | exact .there sl6 | exact .there sl7 | exact .there sl8 | exact .there sl9 | exact .there sl10 | exact .there sl11 | exact .there sl12) ?_ | refine Emb.skip ?_)))⟩) (fun h0 h4 => absurd ⟨by rw [hm] at h0; exact h0, h4⟩ hok))
      refine jn.bool false (fun J4 hJ4 => cs.no rfl (jn.bool false (fun J5 hJ5 => cs.yes rfl hJ5) hJ4)) ?_
      exact cs.no rfl (cs.yes rfl (hstep b m c w5 hm h))
  refine jn.all G (fun J3 hJ3 => ?_) (fun t w' hw => hJ2 t w' hw)
  refine cs.mk (fun _ => ?_) (fun _ => ?_)
  · -- Fill
    (repeat (first | with_reducible refine dr.mk h fun _ h => ?_ | with_reducible refine nn.mk ?_ | ((first | with_reducible apply ldI.mk | with_reducible apply ldB.mk | with_reducible apply ldP.mk | with_reducible apply ldS.mk | with_reducible apply ldM.mk | with_reducible apply ldF.mk | with_reducible apply ldG.mk); (· exact (by refine Ok.cellS h (by with_reducible first | exact sl0 | exact .there sl0 | exact .there sl1 | exact .there sl2 | exact .there sl3 | exact .there sl4 | exact .there sl5 | exact .there sl6 | exact .there sl7 | exact .there sl8 | exact .there sl9 | exact .there sl10 | exact .there sl11 | exact .there sl12) ?_; rfl))) | (refine st1.mk (Ok.bring h (by with_reducible first | exact sl0 | exact .there sl0 | exact .there sl1 | exact .there sl2 | exact .there sl3 | exact .there sl4 | exact .there sl5 | exact .there sl6 | exact .there sl7 | exact .there sl8 | exact .there sl9 | exact .there sl10 | exact .there sl11 | exact .there sl12)) (by simp) fun _ h => ?_; dsimp only [List.set] at h)))
    obtain ⟨x, hx⟩ : ∃ x : UInt8, IntKind.u8.wrap W = (x.toNat : Int) := ⟨_, wrap_u8 W⟩
    rw [hx]
    by_cases hin : inA d N z
    · refine call15 (Fill_arena (x := x) (Ok.emb (h) (.cons (A := arenaP b _ _) (by with_reducible first | exact sl0 | exact .there sl0 | exact .there sl1 | exact .there sl2 | exact .there sl3 | exact .there sl4 | exact .there sl5 | exact .there sl6 | exact .there sl7 | exact .there sl8 | exact .there sl9 | exact .there sl10 | exact .there sl11 | exact .there sl12) (.same _))) (by omega) (fun h0 => absurd (by rw [hm]; exact hin) h0) fun _ w5 h => ⟨((0 : Int), ()), rfl, ?_⟩)
      (repeat (first | with_reducible refine dr.mk h fun _ h => ?_ | with_reducible refine nn.mk ?_ | ((first | with_reducible apply ldI.mk | with_reducible apply ldB.mk | with_reducible apply ldP.mk | with_reducible apply ldS.mk | with_reducible apply ldM.mk | with_reducible apply ldF.mk | with_reducible apply ldG.mk); (· exact (by refine Ok.cellS h (by with_reducible first | exact sl0 | exact .there sl0 | exact .there sl1 | exact .there sl2 | exact .there sl3 | exact .there sl4 | exact .there sl5 | exact .there sl6 | exact .there sl7 | exact .there sl8 | exact .there sl9 | exact .there sl10 | exact .there sl11 | exact .there sl12) ?_; rfl))) | (refine st1.mk (Ok.bring h (by with_reducible first | exact sl0 | exact .there sl0 | exact .there sl1 | exact .there sl2 | exact .there sl3 | exact .there sl4 | exact .there sl5 | exact .there sl6 | exact .there sl7 | exact .there sl8 | exact .there sl9 | exact .there sl10 | exact .there sl11 | exact .there sl12)) (by simp) fun _ h => ?_; dsimp only [List.set] at h)))
      refine call16 (in_2 (by omega) ⟨(true, ()), by rw [decide_eq_true hin]; rfl, ?_⟩)
      refine cs.no rfl ?_
      unfold inA at hin
      obtain ⟨at0, rfl⟩ := Int.eq_ofNat_of_zero_le hin.1
      obtain ⟨N0, rfl⟩ := Int.eq_ofNat_of_zero_le hin.2.1
      rw [Int.toNat_natCast, Int.toNat_natCast] at h
      have hlr : (List.replicate N0 x).length = N0 := List.length_replicate
      have hm2 : (wrA m at0 (List.replicate N0 x)).length = z := by rw [wrA_len (by omega)]; exact hm
      refine lp.mk (fun t' w' => ∃ k : Nat, t'.1 = (k : Int) ∧ k ≤ N0 ∧ Ok e [slc 1 s (by8 (wrA m at0 ((List.replicate N0 x).take k))), pts bc [.int .i64 kd, .int .i64 at0, .int .i64 N0, vS sp, .int .u32 W], arenaP b (w64 (c + N0)) (wrA m at0 (List.replicate N0 x)), old e] w') (fun t' _ => N0 - t'.1.toNat)
        ⟨0, rfl, Nat.zero_le _, by rw [List.take_zero, wrA_nil]; exact (h.emb (by repeat' (first | with_reducible exact Emb.same _ | exact Emb.nil _ | refine Emb.cons (by with_reducible first | exact sl0 | exact .there sl0 | exact .there sl1 | exact .there sl2 | exact .there sl3 | exact .there sl4 | exact .there sl5 | exact .there sl6 | exact .there sl7 | exact .there sl8 | exact .there sl9 | exact .there sl10 | exact .there sl11 | exact .there sl12) ?_ | refine Emb.skip ?_)))⟩ ?_
      clear h
      rintro ⟨(k' : Int), _⟩ w7 ⟨k, hk, hk1, h⟩
      dsimp only at hk
      subst hk
      (repeat (first | with_reducible refine dr.mk h fun _ h => ?_ | with_reducible refine nn.mk ?_ | ((first | with_reducible apply ldI.mk | with_reducible apply ldB.mk | with_reducible apply ldP.mk | with_reducible apply ldS.mk | with_reducible apply ldM.mk | with_reducible apply ldF.mk | with_reducible apply ldG.mk); (· exact (by refine Ok.cellS h (by with_reducible first | exact sl0 | exact .there sl0 | exact .there sl1 | exact .there sl2 | exact .there sl3 | exact .there sl4 | exact .there sl5 | exact .there sl6 | exact .there sl7 | exact .there sl8 | exact .there sl9 | exact .there sl10 | exact .there sl11 | exact .there sl12) ?_; rfl))) | (refine st1.mk (Ok.bring h (by with_reducible first | exact sl0 | exact .there sl0 | exact .there sl1 | exact .there sl2 | exact .there sl3 | exact .there sl4 | exact .there sl5 | exact .there sl6 | exact .there sl7 | exact .there sl8 | exact .there sl9 | exact .there sl10 | exact .there sl11 | exact .there sl12)) (by simp) fun _ h => ?_; dsimp only [List.set] at h)))
      refine jn.bool (decide (k < N0)) (fun J4 hJ4 => cs.mk (fun h1 => ?_) (fun h1 => ?_)) ?_
      · have h1 := of_decide_eq_true h1
        dsimp only at h1
        rw [decide_eq_true (by omega)] at hJ4
        exact hJ4
      · have h1 := of_decide_eq_false h1
        dsimp only at h1
        rw [decide_eq_false (by omega)] at hJ4
        exact hJ4
      refine cs.mk (fun hlt2 => ?_) (fun hge => ?_)
      · have hlt2 : k < N0 := of_decide_eq_true hlt2
        (repeat (first | with_reducible refine dr.mk h fun _ h => ?_ | with_reducible refine nn.mk ?_ | ((first | with_reducible apply ldI.mk | with_reducible apply ldB.mk | with_reducible apply ldP.mk | with_reducible apply ldS.mk | with_reducible apply ldM.mk | with_reducible apply ldF.mk | with_reducible apply ldG.mk); (· exact (by refine Ok.cellS h (by with_reducible first | exact sl0 | exact .there sl0 | exact .there sl1 | exact .there sl2 | exact .there sl3 | exact .there sl4 | exact .there sl5 | exact .there sl6 | exact .there sl7 | exact .there sl8 | exact .there sl9 | exact .there sl10 | exact .there sl11 | exact .there sl12) ?_; rfl))) | (refine st1.mk (Ok.bring h (by with_reducible first | exact sl0 | exact .there sl0 | exact .there sl1 | exact .there sl2 | exact .there sl3 | exact .there sl4 | exact .there sl5 | exact .there sl6 | exact .there sl7 | exact .there sl8 | exact .there sl9 | exact .there sl10 | exact .there sl11 | exact .there sl12)) (by simp) fun _ h => ?_; dsimp only [List.set] at h)))
        have e5 : w64 ((at0 : Int) + (k : Int)) = ((0 + (at0 + k) : Nat) : Int) := by rw [w64_in (by omega) (by omega)]; omega
        have hml : (wrA m at0 ((List.replicate N0 x).take k)).length = z := by rw [wrA_len (by rw [List.length_take]; omega)]; exact hm
        dsimp only
        rw [e5, Nat.zero_add]
        refine st_sub h (sub_all h) (Nat.le_refl _) (by omega) (x := x) (by rw [v8, hx]) fun w9 h => ?_
        rw [Nat.zero_add, wrA_step (l := List.replicate N0 x) (by omega) (by simp [hlt2])] at h
        have hw : w64 ((k : Int) + 1) = ((k + 1 : Nat) : Int) := by rw [w64_in (by omega) (by omega)]; rfl
        rw [hw]
        refine ⟨⟨k + 1, rfl, hlt2, h⟩, ?_⟩
        show N0 - Int.toNat ((k + 1 : Nat) : Int) < N0 - Int.toNat (k : Int)
        omega
      · have hge : ¬ k < N0 := of_decide_eq_false hge
        rw [List.take_of_length_le (by omega)] at h
        refine jn.at ((w64 (c + N0) : Int), ()) (fun w' => Ok e [arenaP b (w64 (c + N0)) (wrA m at0 (List.replicate N0 x)), slc 1 s (by8 (wrA m at0 (List.replicate N0 x))), old e] w') (fun J4 hJ4 => cs.yes rfl ?_) (fun w' h => hJ3 _ _ ⟨b, _, rfl, hm2, h⟩)
        (repeat (first | with_reducible refine dr.mk h fun _ h => ?_ | with_reducible refine nn.mk ?_ | ((first | with_reducible apply ldI.mk | with_reducible apply ldB.mk | with_reducible apply ldP.mk | with_reducible apply ldS.mk | with_reducible apply ldM.mk | with_reducible apply ldF.mk | with_reducible apply ldG.mk); (· exact (by refine Ok.cellS h (by with_reducible first | exact sl0 | exact .there sl0 | exact .there sl1 | exact .there sl2 | exact .there sl3 | exact .there sl4 | exact .there sl5 | exact .there sl6 | exact .there sl7 | exact .there sl8 | exact .there sl9 | exact .there sl10 | exact .there sl11 | exact .there sl12) ?_; rfl))) | (refine st1.mk (Ok.bring h (by with_reducible first | exact sl0 | exact .there sl0 | exact .there sl1 | exact .there sl2 | exact .there sl3 | exact .there sl4 | exact .there sl5 | exact .there sl6 | exact .there sl7 | exact .there sl8 | exact .there sl9 | exact .there sl10 | exact .there sl11 | exact .there sl12)) (by simp) fun _ h => ?_; dsimp only [List.set] at h)))
        exact hJ4 _ (h.emb (by repeat' (first | with_reducible exact Emb.same _ | exact Emb.nil _ | refine Emb.cons (by with_reducible first | exact sl0 | exact .there sl0 | exact .there sl1 | exact .there sl2 | exact .there sl3 | exact .there sl4 | exact .there sl5 | exact .there sl6 | exact .there sl7 | exact .there sl8 | exact .there sl9 | exact .there sl10 | exact .there sl11 | exact .there sl12) ?_ | refine Emb.skip ?_)))
    · refine call15 (Fill_arena (x := x) (Ok.emb (h) (.cons (A := arenaP b _ _) (by with_reducible first | exact sl0 | exact .there sl0 | exact .there sl1 | exact .there sl2 | exact .there sl3 | exact .there sl4 | exact .there sl5 | exact .there sl6 | exact .there sl7 | exact .there sl8 | exact .there sl9 | exact .there sl10 | exact .there sl11 | exact .there sl12) (.same _))) (by omega) (fun _ w5 h => ⟨((-17 : Int), ()), rfl, ?_⟩) (fun h0 => absurd (by rw [hm] at h0; exact h0) hin))
      (repeat (first | with_reducible refine dr.mk h fun _ h => ?_ | with_reducible refine nn.mk ?_ | ((first | with_reducible apply ldI.mk | with_reducible apply ldB.mk | with_reducible apply ldP.mk | with_reducible apply ldS.mk | with_reducible apply ldM.mk | with_reducible apply ldF.mk | with_reducible apply ldG.mk); (· exact (by refine Ok.cellS h (by with_reducible first | exact sl0 | exact .there sl0 | exact .there sl1 | exact .there sl2 | exact .there sl3 | exact .there sl4 | exact .there sl5 | exact .there sl6 | exact .there sl7 | exact .there sl8 | exact .there sl9 | exact .there sl10 | exact .there sl11 | exact .there sl12) ?_; rfl))) | (refine st1.mk (Ok.bring h (by with_reducible first | exact sl0 | exact .there sl0 | exact .there sl1 | exact .there sl2 | exact .there sl3 | exact .there sl4 | exact .there sl5 | exact .there sl6 | exact .there sl7 | exact .there sl8 | exact .there sl9 | exact .there sl10 | exact .there sl11 | exact .there sl12)) (by simp) fun _ h => ?_; dsimp only [List.set] at h)))
      refine call16 (in_2 (by omega) ⟨(false, ()), by rw [decide_eq_false hin]; rfl, ?_⟩)
      refine cs.no rfl ?_
      refine lp.mk (fun t' w' => Ok e [pts bc [.int .i64 kd, .int .i64 d, .int .i64 N, vS sp, .int .u32 W], arenaP b c m, slc 1 s (by8 m), old e] w') (fun t' _ => 0) (h.emb (by repeat' (first | with_reducible exact Emb.same _ | exact Emb.nil _ | refine Emb.cons (by with_reducible first | exact sl0 | exact .there sl0 | exact .there sl1 | exact .there sl2 | exact .there sl3 | exact .there sl4 | exact .there sl5 | exact .there sl6 | exact .there sl7 | exact .there sl8 | exact .there sl9 | exact .there sl10 | exact .there sl11 | exact .there sl12) ?_ | refine Emb.skip ?_))) ?_
      clear h
      rintro ⟨(k : Int), _⟩ w7 h
      (repeat (first | with_reducible refine dr.mk h fun _ h => ?_ | with_reducible refine nn.mk ?_ | ((first | with_reducible apply ldI.mk | with_reducible apply ldB.mk | with_reducible apply ldP.mk | with_reducible apply ldS.mk | with_reducible apply ldM.mk | with_reducible apply ldF.mk | with_reducible apply ldG.mk); (· exact (by refine Ok.cellS h (by with_reducible first | exact sl0 | exact .there sl0 | exact .there sl1 | exact .there sl2 | exact .there sl3 | exact .there sl4 | exact .there sl5 | exact .there sl6 | exact .there sl7 | exact .there sl8 | exact .there sl9 | exact .there sl10 | exact .there sl11 | exact .there sl12) ?_; rfl))) | (refine st1.mk (Ok.bring h (by with_reducible first | exact sl0 | exact .there sl0 | exact .there sl1 | exact .there sl2 | exact .there sl3 | exact .there sl4 | exact .there sl5 | exact .there sl6 | exact .there sl7 | exact .there sl8 | exact .there sl9 | exact .there sl10 | exact .there sl11 | exact .there sl12)) (by simp) fun _ h => ?_; dsimp only [List.set] at h)))
      refine jn.bool false (fun J4 hJ4 => cs.mk (fun h1 => hJ4) (fun h1 => hJ4)) ?_
      refine cs.no rfl ?_
      refine jn.at ((c : Int), ()) (fun w' => Ok e [arenaP b c m, slc 1 s (by8 m), old e] w') (fun J4 hJ4 => cs.no rfl (hJ4 _ (h.emb (by repeat' (first | with_reducible exact Emb.same _ | exact Emb.nil _ | refine Emb.cons (by with_reducible first | exact sl0 | exact .there sl0 | exact .there sl1 | exact .there sl2 | exact .there sl3 | exact .there sl4 | exact .there sl5 | exact .there sl6 | exact .there sl7 | exact .there sl8 | exact .there sl9 | exact .there sl10 | exact .there sl11 | exact .there sl12) ?_ | refine Emb.skip ?_))))) (fun w' h => hJ3 _ _ ⟨b, m, rfl, hm, h⟩)
  refine jn.all (fun (t : TK [kP]) w' => ∃ b, t.1 = some ⟨b, 0, none⟩ ∧ Ok e [arenaP b c m, slc 1 s (by8 m), old e] w') (fun J4 hJ4 => ?_) (fun t w' hw => ?_)
  · refine cs.mk (fun _ => ?_) (fun _ => hJ4 _ _ ⟨b, rfl, (h.emb (by repeat' (first | with_reducible exact Emb.same _ | exact Emb.nil _ | refine Emb.cons (by with_reducible first | exact sl0 | exact .there sl0 | exact .there sl1 | exact .there sl2 | exact .there sl3 | exact .there sl4 | exact .there sl5 | exact .there sl6 | exact .there sl7 | exact .there sl8 | exact .there sl9 | exact .there sl10 | exact .there sl11 | exact .there sl12) ?_ | refine Emb.skip ?_)))⟩)
    refine call17 (Twin_arena (Ok.emb (h) (.cons (A := arenaP b _ _) (by with_reducible first | exact sl0 | exact .there sl0 | exact .there sl1 | exact .there sl2 | exact .there sl3 | exact .there sl4 | exact .there sl5 | exact .there sl6 | exact .there sl7 | exact .there sl8 | exact .there sl9 | exact .there sl10 | exact .there sl11 | exact .there sl12) (.same _))) (by omega) fun b2 w5 h => ⟨(some ⟨b2, 0, none⟩, ()), rfl, ?_⟩)
    refine cs.no rfl ?_
    refine call15 (Fill_arena (x := 99) h.p1 (by omega) (fun h0 => absurd (by unfold inA; omega) h0) fun _ w6 h => ⟨((0 : Int), ()), rfl, ?_⟩)
    exact hJ4 _ _ ⟨b2, rfl, (h.emb (by repeat' (first | with_reducible exact Emb.same _ | exact Emb.nil _ | refine Emb.cons (by with_reducible first | exact sl0 | exact .there sl0 | exact .there sl1 | exact .there sl2 | exact .there sl3 | exact .there sl4 | exact .there sl5 | exact .there sl6 | exact .there sl7 | exact .there sl8 | exact .there sl9 | exact .there sl10 | exact .there sl11 | exact .there sl12) ?_ | refine Emb.skip ?_)))⟩
  · obtain ⟨b2, ht, h⟩ := hw
    obtain ⟨t1, _⟩ := t
    dsimp only at ht
    subst ht
    exact hJ3 _ _ ⟨b2, m, rfl, hm, h⟩

end Go.Proofs.Ytlcmilmnecpokaa.B
