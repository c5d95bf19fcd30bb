/- Laws of layer 13: how much has room; forced data. -/
import Derived.Test.YtadnjjnnkhofdaaLaws13
import Derived.Test.YtadnjjnnkhofdaaSameRd
namespace Go.Proofs.Ytadnjjnnkhofdaa.B
open Go
set_option linter.unusedVariables false

theorem DataFull_walk {e : World} {a0 : Int} (_ : (Lit.int .i64 a0).wf = true) : sh4 a0 (LawEnd e) e := by
  unfold sh4
  refine call9 (known_13 (Ok.start e) fun w1 h => ⟨(true, ()), enc_b rfl, ?_⟩)
  refine cs.no rfl ?_
  refine call10 (New_dtq h (fun h0 => ⟨(none, (-17 : Int), ()), rfl, ?_⟩) fun h0 b w2 h => ⟨(some ⟨b, 0, none⟩, (0 : Int), ()), rfl, ?_⟩)
  · refine jn.bool (true) (fun J hJ => ?_) ?_
    · refine cs.mk (fun _ => hJ) (fun h1 => ?_)
      have h1 := of_decide_eq_false h1
      rw [decide_eq_true (by omega)]
      exact hJ
    refine cs.yes rfl ?_
    refine jn.bool true (fun J hJ => cs.yes (by first | rfl | simp) (by (repeat (first | with_reducible refine dr.mk h fun _ h => ?_ | with_reducible refine nn.mk ?_ | ((first | with_reducible apply ldI.mk | with_reducible apply ldB.mk | with_reducible apply ldP.mk | with_reducible apply ldS.mk | with_reducible apply ldM.mk | with_reducible apply ldF.mk | with_reducible apply ldG.mk); (· exact (by refine Ok.cellS h (by with_reducible first | exact sl0 | exact .there sl0 | exact .there sl1 | exact .there sl2 | exact .there sl3 | exact .there sl4 | exact .there sl5 | exact .there sl6 | exact .there sl7 | exact .there sl8 | exact .there sl9 | exact .there sl10 | exact .there sl11 | exact .there sl12) ?_; rfl))) | (refine st1.mk (Ok.bring h (by with_reducible first | exact sl0 | exact .there sl0 | exact .there sl1 | exact .there sl2 | exact .there sl3 | exact .there sl4 | exact .there sl5 | exact .there sl6 | exact .there sl7 | exact .there sl8 | exact .there sl9 | exact .there sl10 | exact .there sl11 | exact .there sl12)) (by simp) fun _ h => ?_; dsimp only [List.set] at h))); exact hJ)) ?_
    exact ⟨rfl, h⟩
  refine jn.bool (false) (fun J hJ => ?_) ?_
  · refine cs.no (by simp; omega) ?_
    rw [decide_eq_false (by omega)]
    exact hJ
  refine cs.no rfl ?_
  refine lp.mk (fun t w' => ∃ (n : Nat) (D : List Int), t.1 = (n : Int) ∧ (n : Int) ≤ a0 ∧ D.length = n ∧ Ok e [dtqP b true a0 ⟨[], [], D, fun _ => 0⟩, old e] w')
    (fun t _ => a0.toNat - t.1.toNat) ⟨0, [], rfl, h0.1, rfl, h⟩ ?_
  clear h
  rintro ⟨i, _⟩ w3 ⟨n, D, hn, hn1, hD, h⟩
  dsimp only at hn
  subst hn
  have ho : DQ.ok a0 ⟨[], [], D, fun _ => 0⟩ := ⟨okL_nil, okL_nil, by show (D.length : Int) ≤ a0; omega, h0.2⟩
  refine cs.mk (fun hlt => ?_) (fun hge => ?_)
  · have hlt : (n : Int) < a0 := of_decide_eq_true hlt
    have ht : DQ.trySend a0 ⟨[], [], D, fun _ => 0⟩ (n : Int) = ((true, 0), ⟨[], [], D ++ [(n : Int)], fun _ => 0⟩) := by
      unfold DQ.trySend
      exact if_neg (by show ¬ (D.length : Int) ≥ a0; omega)
    refine call11 (TrySend_dtq h ho fun w4 h => ⟨(true, (0 : Int), ()), by rw [ht]; rfl, ?_⟩)
    rw [ht] at h
    refine jn.bool false (fun J hJ => cs.no rfl hJ) ?_
    have hw : w64 ((n : Int) + 1) = ((n + 1 : Nat) : Int) := by rw [w64_in (by omega) (by omega)]; rfl
    refine cs.no rfl ?_
    dsimp only
    rw [hw]
    refine ⟨⟨n + 1, D ++ [(n : Int)], rfl, by omega, by simp [hD], h⟩, ?_⟩
    show a0.toNat - Int.toNat ((n + 1 : Nat) : Int) < a0.toNat - Int.toNat (n : Int)
    omega
  have hge : a0 ≤ n := by have := of_decide_eq_false hge; dsimp only at this; omega
  have ht : DQ.trySend a0 ⟨[], [], D, fun _ => 0⟩ 99 = ((false, 0), ⟨[], [], D, fun _ => 0⟩) := by
    unfold DQ.trySend
    exact if_pos (by show (D.length : Int) ≥ a0; omega)
  refine call11 (TrySend_dtq h ho fun w4 h => ⟨(false, (0 : Int), ()), by rw [ht]; rfl, ?_⟩)
  rw [ht] at h
  refine jn.bool true (fun J hJ => cs.yes (by first | rfl | simp) (by (repeat (first | with_reducible refine dr.mk h fun _ h => ?_ | with_reducible refine nn.mk ?_ | ((first | with_reducible apply ldI.mk | with_reducible apply ldB.mk | with_reducible apply ldP.mk | with_reducible apply ldS.mk | with_reducible apply ldM.mk | with_reducible apply ldF.mk | with_reducible apply ldG.mk); (· exact (by refine Ok.cellS h (by with_reducible first | exact sl0 | exact .there sl0 | exact .there sl1 | exact .there sl2 | exact .there sl3 | exact .there sl4 | exact .there sl5 | exact .there sl6 | exact .there sl7 | exact .there sl8 | exact .there sl9 | exact .there sl10 | exact .there sl11 | exact .there sl12) ?_; rfl))) | (refine st1.mk (Ok.bring h (by with_reducible first | exact sl0 | exact .there sl0 | exact .there sl1 | exact .there sl2 | exact .there sl3 | exact .there sl4 | exact .there sl5 | exact .there sl6 | exact .there sl7 | exact .there sl8 | exact .there sl9 | exact .there sl10 | exact .there sl11 | exact .there sl12)) (by simp) fun _ h => ?_; dsimp only [List.set] at h))); exact hJ)) ?_
  refine jn.bool true (fun J hJ => cs.yes (by first | rfl | simp) (by (repeat (first | with_reducible refine dr.mk h fun _ h => ?_ | with_reducible refine nn.mk ?_ | ((first | with_reducible apply ldI.mk | with_reducible apply ldB.mk | with_reducible apply ldP.mk | with_reducible apply ldS.mk | with_reducible apply ldM.mk | with_reducible apply ldF.mk | with_reducible apply ldG.mk); (· exact (by refine Ok.cellS h (by with_reducible first | exact sl0 | exact .there sl0 | exact .there sl1 | exact .there sl2 | exact .there sl3 | exact .there sl4 | exact .there sl5 | exact .there sl6 | exact .there sl7 | exact .there sl8 | exact .there sl9 | exact .there sl10 | exact .there sl11 | exact .there sl12) ?_; rfl))) | (refine st1.mk (Ok.bring h (by with_reducible first | exact sl0 | exact .there sl0 | exact .there sl1 | exact .there sl2 | exact .there sl3 | exact .there sl4 | exact .there sl5 | exact .there sl6 | exact .there sl7 | exact .there sl8 | exact .there sl9 | exact .there sl10 | exact .there sl11 | exact .there sl12)) (by simp) fun _ h => ?_; dsimp only [List.set] at h))); exact hJ)) ?_
  refine jn.at (true, ()) (fun w' => Ok e [old e] w') (fun J hJ => cs.yes rfl ?_) (fun w' h => ⟨rfl, h⟩)
  refine call16 (Data_dtq h ho fun s w5 hs h => ⟨(s, ()), rfl, ?_⟩)
  dsimp only at hs ⊢
  rw [show (((s.len : Int) : Int) == a0) = true by simp; omega]
  exact hJ _ (h.emb (by repeat' (first | with_reducible exact Emb.same _ | exact Emb.nil _ | refine Emb.cons (by with_reducible first | exact sl0 | exact .there sl0 | exact .there sl1 | exact .there sl2 | exact .there sl3 | exact .there sl4 | exact .there sl5 | exact .there sl6 | exact .there sl7 | exact .there sl8 | exact .there sl9 | exact .there sl10 | exact .there sl11 | exact .there sl12) ?_ | refine Emb.skip ?_)))

theorem force_step {xs : List Int} {N i : Nat} {x : Int} {g : Int → Int} (hx : xs[i]? = some x) (hN : 0 < N) : DQ.force (N : Int) ⟨[], [], (xs.take i).drop (i - N), g⟩ x = ((0, 0), ⟨[], [], (xs.take (i + 1)).drop (i + 1 - N), g⟩) := by
  have hlt := (List.getElem?_eq_some_iff.1 hx).1
  have hl : ((xs.take i).drop (i - N)).length = i - (i - N) := by rw [List.length_drop, List.length_take]; omega
  unfold DQ.force
  rw [if_neg (by omega)]
  by_cases hi : i < N
  · have ht : DQ.trySend (N : Int) ⟨[], [], (xs.take i).drop (i - N), g⟩ x = ((true, 0), ⟨[], [], (xs.take i).drop (i - N) ++ [x], g⟩) := by
      unfold DQ.trySend
      exact if_neg (by show ¬ (((xs.take i).drop (i - N)).length : Int) ≥ (N : Int); rw [hl]; omega)
    rw [ht]
    simp only [if_true]
    rw [show i - N = 0 by omega, show i + 1 - N = 0 by omega, List.take_add_one, hx]
    rfl
  · have ht : DQ.trySend (N : Int) ⟨[], [], (xs.take i).drop (i - N), g⟩ x = ((false, 0), ⟨[], [], (xs.take i).drop (i - N), g⟩) := by
      unfold DQ.trySend
      exact if_pos (by show (((xs.take i).drop (i - N)).length : Int) ≥ (N : Int); rw [hl]; omega)
    rw [ht]
    simp only [Bool.false_eq_true, if_false]
    rw [List.tail_drop, List.take_add_one, hx, show i + 1 - N = i - N + 1 by omega, List.drop_append_of_le_length (by rw [List.length_take]; omega)]
    rfl

theorem DataForces_walk {e : World} {a0 : Int} {a1 : Sl} {xs : List Int} (w0 : (Lit.int .u8 a0).wf = true) (ha : ArgI .i64 e a1 xs) : sh7 a0 a1 (LawEnd e) e := by
  unfold sh7
  have h8 := wf_u8 w0
  obtain ⟨N, hN, hN64⟩ : ∃ N : Nat, w64 (Int.tmod a0 65) = (N : Int) ∧ N ≤ 64 := by
    refine ⟨(a0 % 65).toNat, ?_, by omega⟩
    rw [Int.tmod_eq_emod_of_nonneg h8.1, w64_in (by omega) (by omega)]
    omega
  rw [hN]
  have hr := rd_arg ha
  refine call9 (known_13 (Ok.start e) fun w1 h => ⟨(true, ()), enc_b rfl, ?_⟩)
  refine cs.no rfl ?_
  refine cs.mk (fun _ => ⟨rfl, h⟩) (fun hc => ?_)
  have hle : a1.len ≤ 150 := by have := of_decide_eq_false hc; omega
  refine call10 (New_dtq h (fun h0 => absurd (by omega) h0) fun h0 b w2 h => ⟨(some ⟨b, 0, none⟩, (0 : Int), ()), rfl, ?_⟩)
  refine lp.mk (fun t w' => ∃ n : Nat, t.1 = (n : Int) ∧ n ≤ a1.len ∧ Ok e [dtqP b false N ⟨[], [], (xs.take n).drop (n - N), fun _ => 0⟩, old e] w')
    (fun t _ => a1.len - t.1.toNat) ⟨0, rfl, Nat.zero_le _, by rw [List.take_zero, List.drop_nil]; exact h⟩ ?_
  clear h
  rintro ⟨i, _⟩ w3 ⟨n, hn, hn1, h⟩
  dsimp only at hn
  subst hn
  have hl : ((xs.take n).drop (n - N)).length = n - (n - N) := by rw [List.length_drop, List.length_take, hr.1]; omega
  have ho : DQ.ok N ⟨[], [], (xs.take n).drop (n - N), fun _ => 0⟩ := ⟨okL_nil, okL_nil, by show (((xs.take n).drop (n - N)).length : Int) ≤ (N : Int); rw [hl]; omega, by omega⟩
  have hw : n < a1.len → w64 ((n : Int) + 1) = ((n + 1 : Nat) : Int) := fun _ => by rw [w64_in (by omega) (by omega)]; rfl
  refine cs.mk (fun hlt => ?_) (fun hge => ?_)
  · have hlt : n < a1.len := by have := of_decide_eq_true hlt; dsimp only at this; omega
    have hw := hw hlt
    have hmu : a1.len - Int.toNat ((n + 1 : Nat) : Int) < a1.len - Int.toNat (n : Int) := by omega
    refine ix_rd hr (by simp) (by simpa using hlt) fun c o x hx hc => ldI.mk (hc _ _ h.p1) ?_
    rw [Int.toNat_natCast] at hx
    dsimp only
    rw [hw]
    by_cases h0 : N = 0
    · subst h0
      have he : DQ.force ((0 : Nat) : Int) ⟨[], [], (xs.take n).drop (n - 0), fun _ => 0⟩ x = ((0, -28), ⟨[], [], (xs.take (n + 1)).drop (n + 1 - 0), fun _ => 0⟩) := by
        unfold DQ.force
        rw [if_pos (show ((0 : Nat) : Int) = 0 from rfl), List.drop_eq_nil_of_le (by rw [List.length_take]; omega), List.drop_eq_nil_of_le (by rw [List.length_take]; omega)]
      refine call21 (Force_dtq h ho fun w4 h => ⟨((0 : Int), (-28 : Int), ()), by rw [he]; rfl, ?_⟩)
      rw [he] at h
      refine cs.yes rfl ?_
      refine jn.bool false (fun J hJ => cs.no rfl hJ) ?_
      exact cs.no rfl ⟨⟨n + 1, rfl, hlt, h⟩, hmu⟩
    · have he := force_step (g := fun _ => 0) hx (Nat.pos_of_ne_zero h0)
      refine call21 (Force_dtq h ho fun w4 h => ⟨((0 : Int), (0 : Int), ()), by rw [he]; rfl, ?_⟩)
      rw [he] at h
      refine cs.no (by simpa using h0) ?_
      refine jn.bool false (fun J hJ => cs.no rfl hJ) ?_
      exact cs.no rfl ⟨⟨n + 1, rfl, hlt, h⟩, hmu⟩
  have hge : n = a1.len := by have := of_decide_eq_false hge; dsimp only at this; omega
  refine jn.at (((n - N : Nat) : Int), ()) (fun w' => w3 = w') (fun J hJ => cs.mk (fun h1 => ?_) (fun h1 => ?_)) (fun w' hw' => ?_)
  · have h1 := of_decide_eq_true h1
    rw [w64_in (by omega) (by omega), show (a1.len : Int) - (N : Int) = ((n - N : Nat) : Int) by omega]
    exact hJ _ rfl
  · have h1 := of_decide_eq_false h1
    rw [show ((n - N : Nat) : Int) = 0 by omega] at hJ
    exact hJ _ rfl
  subst hw'
  refine dr.mk h fun w4 h => ?_
  refine jn.at (true, ()) (fun w' => Ok e [old e] w') (fun J hJ => ?_) (fun w' h => ⟨rfl, h⟩)
  have hcap := ha.cap
  refine sb_rd hr (by simp) (by dsimp only; omega) (Int.le_refl _) (by omega) (Int.le_refl _) fun x hxl hxc hx => ?_
  refine call16 (Data_dtq h ho fun s w5 hs h => ⟨(s, ()), rfl, ?_⟩)
  have hsr := rd_slc (k := .i64) (xs := (xs.take n).drop (n - N)) h
  dsimp only at hs
  rw [hl] at hs
  refine call15 (Same_rd (Ok.emb (h) (.cons (A := slc 1 s _) (by with_reducible first | exact sl0 | exact .there sl0 | exact .there sl1 | exact .there sl2 | exact .there sl3 | exact .there sl4 | exact .there sl5 | exact .there sl6 | exact .there sl7 | exact .there sl8 | exact .there sl9 | exact .there sl10 | exact .there sl11 | exact .there sl12) (.cons (A := old e) (by with_reducible first | exact sl0 | exact .there sl0 | exact .there sl1 | exact .there sl2 | exact .there sl3 | exact .there sl4 | exact .there sl5 | exact .there sl6 | exact .there sl7 | exact .there sl8 | exact .there sl9 | exact .there sl10 | exact .there sl11 | exact .there sl12) (.same _)))) hsr hx (by dsimp only; omega) fun w6 h => ⟨(true, ()), ?_, ?_⟩)
  · rw [show ((xs.take n).drop (n - N) == (List.take (Int.toNat (a1.len : Int)) xs).drop (Int.toNat (((n - N : Nat) : Int), ()).1)) = true by
      simp only [Int.toNat_natCast, ← hge]
      simp]
    rfl
  refine cs.yes rfl ?_
  refine call19 (Senders_dtq (Ok.emb (h) (.cons (A := dtqP b _ _ _) (by with_reducible first | exact sl0 | exact .there sl0 | exact .there sl1 | exact .there sl2 | exact .there sl3 | exact .there sl4 | exact .there sl5 | exact .there sl6 | exact .there sl7 | exact .there sl8 | exact .there sl9 | exact .there sl10 | exact .there sl11 | exact .there sl12) (.same _))) ho fun s1 w7 hs1 h => ⟨(s1, ()), rfl, ?_⟩)
  refine call20 (Receivers_dtq (Ok.emb (h) (.cons (A := dtqP b _ _ _) (by with_reducible first | exact sl0 | exact .there sl0 | exact .there sl1 | exact .there sl2 | exact .there sl3 | exact .there sl4 | exact .there sl5 | exact .there sl6 | exact .there sl7 | exact .there sl8 | exact .there sl9 | exact .there sl10 | exact .there sl11 | exact .there sl12) (.same _))) ho fun s2 w8 hs2 h => ⟨(s2, ()), rfl, ?_⟩)
  dsimp only at hs1 hs2 ⊢
  rw [hs1, hs2]
  exact hJ _ (h.emb (by repeat' (first | with_reducible exact Emb.same _ | exact Emb.nil _ | refine Emb.cons (by with_reducible first | exact sl0 | exact .there sl0 | exact .there sl1 | exact .there sl2 | exact .there sl3 | exact .there sl4 | exact .there sl5 | exact .there sl6 | exact .there sl7 | exact .there sl8 | exact .there sl9 | exact .there sl10 | exact .there sl11 | exact .there sl12) ?_ | refine Emb.skip ?_)))

end Go.Proofs.Ytadnjjnnkhofdaa.B
