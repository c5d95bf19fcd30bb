/- Laws of layer 6. -/
import Derived.Test.YtffjogadjimfpaaRef6
import Derived.Test.YtffjogadjimfpaaRow
namespace Go.Proofs.Ytffjogadjimfpaa.B
open Go
set_option linter.unusedVariables false

/-- what a law ends with -/
abbrev LawEnd (e : World) : List Value → World → Prop := fun vs w' => vs = [.bool true] ∧ Ok e [old e] w'

/-- a guard: what is known where it doesn't hold -/
theorem jn.g {w : World} {rest : TK [kB] → World → Prop} {body : (TK [kB] → World → Prop) → World → Prop} (p : Prop) (hb : ∀ J : TK [kB] → World → Prop, (∀ c : Bool, (c = false → p) → J (c, ()) w) → body J w)
    (hr : ∀ c : Bool, (c = false → p) → rest (c, ()) w) : jn [kB] w rest body := fun J hJ => hb J fun c hc => hJ _ _ (hr c hc)

theorem str_eq (l : List UInt8) : ((bs l).toList == (bs l).toList) = true := by simp

theorem rg_facts {e w L b z M} (h : Ok e (ringP b z M :: L) w) : szR M ≤ z ∧ z ≤ 65536 ∧ ∀ l ∈ M, l.length ≤ 1024 := by
  obtain ⟨ba, c, m, f, ho, h⟩ := rgE h
  exact ⟨ho.us, ho.zb, ho.ms⟩

/-- the ring's size, by way of its arena -/
theorem Size_ring {e w L b z M J} (h : Ok e (ringP b z M :: L) w) (k : ∀ w', Ok e (ringP b z M :: L) w' → J ((z : Int), ()) w') :
    nn (some ⟨b, 0, none⟩) fun b1 o1 => ldP w b1 o1 fun p => cl Pg 20 [.pointer p] [kI] w J := by
  obtain ⟨ba, c, m, f, ho, h⟩ := rgE h
  (repeat (first | with_reducible refine dr.mk h fun _ h => ?_ | with_reducible refine nn.mk ?_ | ((first | with_reducible apply ldI.mk | with_reducible apply ldB.mk | with_reducible apply ldP.mk | with_reducible apply ldS.mk | with_reducible apply ldM.mk | with_reducible apply ldF.mk | with_reducible apply ldG.mk); (· exact (by refine Ok.cellS h (by with_reducible first | exact sl0 | exact .there sl0 | exact .there sl1 | exact .there sl2 | exact .there sl3 | exact .there sl4 | exact .there sl5 | exact .there sl6 | exact .there sl7 | exact .there sl8 | exact .there sl9 | exact .there sl10 | exact .there sl11 | exact .there sl12) ?_; rfl))) | (refine st1.mk (Ok.bring h (by with_reducible first | exact sl0 | exact .there sl0 | exact .there sl1 | exact .there sl2 | exact .there sl3 | exact .there sl4 | exact .there sl5 | exact .there sl6 | exact .there sl7 | exact .there sl8 | exact .there sl9 | exact .there sl10 | exact .there sl11 | exact .there sl12)) (by simp) fun _ h => ?_; dsimp only [List.set] at h)))
  refine call20 (Size_arena h.p1 ⟨((z : Int), ()), by rw [ho.len]; rfl, ?_⟩)
  exact k _ (rgI ho h)

set_option maxHeartbeats 1000000 in
theorem known_6 {e w L R} (h : Ok e L w) (k : ∀ w', Ok e L w' → R [.bool true] w') : sh7 R w := by
  unfold sh7
  refine call8 (New_ring h (fun h0 => absurd (by decide) h0) fun _ b w1 h => ⟨(some ⟨b, 0, none⟩, (0 : Int), ()), rfl, ?_⟩)
  have h : Ok e (ringP b 24 [] :: L) w1 := h
  refine jn.bool false (fun J hJ => cs.no rfl hJ) ?_
  refine cs.no rfl ?_
  refine al.mk h fun b1 w2 h => ?_
  have h : Ok e (pts b1 (by8 [104, 101, 108, 108, 111]) :: ringP b 24 [] :: L) w2 := h
  refine ef.mark mkB h rfl fun w3 h => ?_
  refine call9 (Put_ring h.p1 (rdb_rd h) (by decide) fun w4 h => ⟨(true, ()), rfl, ?_⟩)
  have h : Ok e (ringP b 24 [[104, 101, 108, 108, 111]] :: L) w4 := h.p1.drop
  refine al.mk h fun b2 w5 h => ?_
  have h : Ok e (pts b2 (by8 [120]) :: ringP b 24 [[104, 101, 108, 108, 111]] :: L) w5 := h
  refine ef.mark mkB h rfl fun w6 h => ?_
  refine call9 (Put_ring h.p1 (rdb_rd h) (by decide) fun w7 h => ⟨(true, ()), rfl, ?_⟩)
  have h : Ok e (ringP b 24 [[104, 101, 108, 108, 111], [120]] :: L) w7 := h.p1.drop
  refine al.mk h fun b3 w8 h => ?_
  have h : Ok e (pts b3 (by8 [121]) :: ringP b 24 [[104, 101, 108, 108, 111], [120]] :: L) w8 := h
  refine ef.mark mkB h rfl fun w9 h => ?_
  refine call9 (Put_ring h.p1 (rdb_rd h) (by decide) fun w10 h => ⟨(false, ()), rfl, ?_⟩)
  have h : Ok e (ringP b 24 [[104, 101, 108, 108, 111], [120]] :: L) w10 := h.p1.drop
  refine call12 (Get_ring h (fun h0 => by cases h0) fun l M' he s w11 hs h => ⟨(s, true, ()), rfl, ?_⟩)
  cases he
  refine jn.bool true (fun J hJ => cs.yes rfl hJ) ?_
  refine jn.bool true (fun J hJ => cs.yes rfl hJ) ?_
  refine jn.bool true (fun J hJ => cs.yes rfl ?_) ?_
  · refine tx.mkS bsT h ?_
    rw [str_eq]
    exact hJ
  refine jn.bool true (fun J hJ => cs.yes rfl hJ) ?_
  have h := h.drop
  refine jn.at (true, ()) (fun w' => Ok e (ringP b 24 [[120]] :: L) w') (fun J hJ => cs.yes rfl ?_) (fun w12 h => ?_)
  · exact call10 (Len_ring h ⟨((1 : Int), ()), rfl, hJ _ h⟩)
  refine jn.at (true, ()) (fun w' => Ok e (ringP b 24 [[120]] :: L) w') (fun J hJ => cs.yes rfl ?_) (fun w12 h => ?_)
  · exact call11 (Free_ring h fun w13 h => ⟨((16 : Int), ()), rfl, hJ _ h⟩)
  refine jn.at (true, ()) (fun w' => Ok e (ringP b 24 [[120]] :: L) w') (fun J hJ => cs.yes rfl ?_) (fun w12 h => ?_)
  · exact call18 (Fits_ring h fun w13 h => ⟨(true, ()), rfl, hJ _ h⟩)
  refine jn.at (true, ()) (fun w' => Ok e (ringP b 24 [[120]] :: L) w') (fun J hJ => cs.yes rfl ?_) (fun w12 h => ?_)
  · exact call18 (Fits_ring h fun w13 h => ⟨(false, ()), rfl, hJ _ h⟩)
  refine jn.at (true, ()) (fun w' => Ok e (ringP b 24 [[120]] :: L) w') (fun J hJ => cs.yes rfl ?_) (fun w12 h => ?_)
  · exact Size_ring h fun w13 h => hJ _ h
  exact k _ h.drop

theorem szR_rep (l : List UInt8) : ∀ n : Nat, szR (List.replicate n l) = n * tk l.length
  | 0 => by simp [szR]
  | n + 1 => by rw [List.replicate_succ, szR_cons, szR_rep l n, Nat.add_mul]; omega

set_option maxHeartbeats 1000000 in
theorem RingEmpty_walk {e : World} {a0 : Int} (_ : (Lit.int .i64 a0).wf = true) : sh5 a0 (LawEnd e) e := by
  unfold sh5
  refine call7 (known_6 (Ok.start e) fun w1 h => ⟨(true, ()), enc_b rfl, ?_⟩)
  refine cs.no rfl ?_
  refine jn.g (0 ≤ a0 ∧ a0 ≤ 100) (fun J hJ => cs.mk (fun h1 => hJ true (fun h => by cases h)) (fun h1 => hJ _ fun h2 => ?_)) fun c1 hc1 => ?_
  · have := of_decide_eq_false h1; have := of_decide_eq_false h2; omega
  refine cs.mk (fun _ => ⟨rfl, h⟩) (fun h1 => ?_)
  obtain ⟨g1, g2⟩ := hc1 h1
  clear hc1 h1
  obtain ⟨n, rfl⟩ := Int.eq_ofNat_of_zero_le g1
  have e1 : w64 (4 * (n : Int)) = ((4 * n : Nat) : Int) := by rw [w64_in (by omega) (by omega)]; omega
  rw [e1]
  refine call8 (New_ring h (fun h0 => absurd (by omega) h0) fun _ b w2 h => ⟨(some ⟨b, 0, none⟩, (0 : Int), ()), rfl, ?_⟩)
  rw [Int.toNat_natCast] at h
  have hsz : ∀ i, szR (List.replicate i ([] : List UInt8)) = i * 4 := fun i => szR_rep [] i
  have hft : ∀ i, fitR (4 * n) (List.replicate i ([] : List UInt8)) (([] : List UInt8).length : Nat) = decide (i < n) := fun i => decide_eq_decide.2 (by
    rw [hsz, show tk ((([] : List UInt8).length : Nat) : Int).toNat = 4 from rfl]
    simp only [List.length_nil]
    omega)
  refine lp.mk (fun t w' => ∃ i : Nat, t.1 = (i : Int) ∧ i ≤ n ∧ Ok e [ringP b (4 * n) (List.replicate i []), old e] w') (fun t _ => n - t.1.toNat) ⟨0, rfl, Nat.zero_le _, h⟩ ?_
  clear h
  rintro ⟨(i' : Int), _⟩ w3 ⟨i, hi, hi1, h⟩
  dsimp only at hi
  subst hi
  refine cs.mk (fun hlt => ?_) (fun hge => ?_)
  · have hlt : i < n := by have := of_decide_eq_true hlt; dsimp only at this; omega
    refine call9 (a0 := some ⟨b, 0, none⟩) (a1 := ⟨none, 0, 0⟩) (Put_ring h (RdB.nil (A := old e) rfl) (by decide) fun w4 h => ⟨(true, ()), by rw [hft, decide_eq_true hlt]; rfl, ?_⟩)
    rw [hft, decide_eq_true hlt, if_pos rfl, show List.replicate i ([] : List UInt8) ++ [[]] = List.replicate (i + 1) [] from List.replicate_succ'.symm] at h
    have hw : w64 ((i : Int) + 1) = ((i + 1 : Nat) : Int) := by rw [w64_in (by omega) (by omega)]; rfl
    refine cs.no rfl ?_
    dsimp only
    rw [hw]
    refine ⟨⟨i + 1, rfl, hlt, h⟩, ?_⟩
    show n - Int.toNat ((i + 1 : Nat) : Int) < n - Int.toNat (i : Int)
    omega
  have hge : ¬ i < n := by have := of_decide_eq_false hge; dsimp only at this; omega
  have hin : i = n := by omega
  subst hin
  clear hi1 hge
  refine call9 (a0 := some ⟨b, 0, none⟩) (a1 := ⟨none, 0, 0⟩) (Put_ring h (RdB.nil (A := old e) rfl) (by decide) fun w4 h => ⟨(false, ()), by rw [hft, decide_eq_false (Nat.lt_irrefl _)]; rfl, ?_⟩)
  rw [hft, decide_eq_false (Nat.lt_irrefl _), if_neg (by decide)] at h
  refine jn.bool false (fun J hJ => cs.no rfl ?_) ?_
  · refine call10 (Len_ring h ⟨((i : Int), ()), by rw [List.length_replicate]; rfl, ?_⟩)
    rw [bne_self_eq_false]
    exact hJ
  refine jn.at (false, ()) (fun w' => Ok e [ringP b (4 * i) (List.replicate i []), old e] w') (fun J hJ => cs.no rfl ?_) (fun w5 h => ?_)
  · refine call11 (Free_ring h fun w13 h => ⟨((0 : Int), ()), ?_, hJ _ h⟩)
    rw [hsz, show ((4 * i : Nat) : Int) - ((i * 4 : Nat) : Int) = 0 by omega]; rfl
  refine cs.no rfl ?_
  refine lp.mk (fun t w' => ∃ j : Nat, t.1 = (j : Int) ∧ j ≤ i ∧ Ok e [ringP b (4 * i) (List.replicate (i - j) []), old e] w') (fun t _ => i - t.1.toNat) ⟨0, rfl, Nat.zero_le _, h⟩ ?_
  clear h
  rintro ⟨(i' : Int), _⟩ w3 ⟨j, hi, hi1, h⟩
  dsimp only at hi
  subst hi
  refine cs.mk (fun hlt => ?_) (fun hge => ?_)
  · have hlt : j < i := by have := of_decide_eq_true hlt; dsimp only at this; omega
    have e2 : i - j = (i - (j + 1)) + 1 := by omega
    rw [e2, List.replicate_succ] at h
    refine call12 (Get_ring h (fun h0 => by cases h0) fun l M' he s w4 hs h => ⟨(s, true, ()), rfl, ?_⟩)
    cases he
    refine jn.bool false (fun J hJ => cs.no rfl ?_) ?_
    · have hs : s.len = 0 := hs
      dsimp only
      rw [hs]
      exact hJ
    have hw : w64 ((j : Int) + 1) = ((j + 1 : Nat) : Int) := by rw [w64_in (by omega) (by omega)]; rfl
    refine cs.no rfl ?_
    dsimp only
    rw [hw]
    refine ⟨⟨j + 1, rfl, hlt, h.drop⟩, ?_⟩
    show i - Int.toNat ((j + 1 : Nat) : Int) < i - Int.toNat (j : Int)
    omega
  have hge : ¬ j < i := by have := of_decide_eq_false hge; dsimp only at this; omega
  rw [show i - j = 0 by omega] at h
  refine call12 (Get_ring h (fun _ w4 h => ⟨(⟨none, 0, 0⟩, false, ()), rfl, ⟨rfl, h.drop⟩⟩) fun l M' he => by cases he)

set_option maxHeartbeats 2000000 in
theorem RingFills_walk {e : World} {a0 a1 a2 : Int} (_ : (Lit.int .i64 a0).wf = true) (_ : (Lit.int .i64 a1).wf = true) (_ : (Lit.int .i64 a2).wf = true) : sh3 a0 a1 a2 (LawEnd e) e := by
  unfold sh3
  refine call7 (known_6 (Ok.start e) fun w1 h => ⟨(true, ()), enc_b rfl, ?_⟩)
  refine cs.no rfl ?_
  refine jn.g (0 ≤ a0 ∧ a0 ≤ 400) (fun J hJ => cs.mk (fun h1 => hJ true (fun h => by cases h)) (fun h1 => hJ _ fun h2 => ?_)) fun c1 hc1 => ?_
  · have := of_decide_eq_false h1; have := of_decide_eq_false h2; omega
  refine jn.g (0 ≤ a0 ∧ a0 ≤ 400 ∧ a0 % 4 = 0) (fun J hJ => cs.mk (fun h1 => hJ true (fun h => by cases h)) (fun h1 => hJ _ fun h2 => ?_)) fun c2 hc2 => ?_
  · have := hc1 h1
    rw [Int.tmod_eq_emod_of_nonneg (by omega)] at h2
    simp at h2
    omega
  refine jn.g (0 ≤ a0 ∧ a0 ≤ 400 ∧ a0 % 4 = 0 ∧ 0 ≤ a1) (fun J hJ => cs.mk (fun h1 => hJ true (fun h => by cases h)) (fun h1 => hJ _ fun h2 => ?_)) fun c3 hc3 => ?_
  · have := hc2 h1; have := of_decide_eq_false h2; omega
  refine jn.g (0 ≤ a0 ∧ a0 ≤ 400 ∧ a0 % 4 = 0 ∧ 0 ≤ a1 ∧ a1 ≤ 300) (fun J hJ => cs.mk (fun h1 => hJ true (fun h => by cases h)) (fun h1 => hJ _ fun h2 => ?_)) fun c4 hc4 => ?_
  · have := hc3 h1; have := of_decide_eq_false h2; omega
  refine jn.g (0 ≤ a0 ∧ a0 ≤ 400 ∧ a0 % 4 = 0 ∧ 0 ≤ a1 ∧ a1 ≤ 300 ∧ 0 ≤ a2) (fun J hJ => cs.mk (fun h1 => hJ true (fun h => by cases h)) (fun h1 => hJ _ fun h2 => ?_)) fun c5 hc5 => ?_
  · have := hc4 h1; have := of_decide_eq_false h2; omega
  refine jn.g (0 ≤ a0 ∧ a0 ≤ 400 ∧ a0 % 4 = 0 ∧ 0 ≤ a1 ∧ a1 ≤ 300 ∧ 0 ≤ a2 ∧ a2 ≤ 30) (fun J hJ => cs.mk (fun h1 => hJ true (fun h => by cases h)) (fun h1 => hJ _ fun h2 => ?_)) fun c6 hc6 => ?_
  · have := hc5 h1; have := of_decide_eq_false h2; omega
  refine cs.mk (fun _ => ⟨rfl, h⟩) (fun h1 => ?_)
  obtain ⟨g1, g2, g3, g4, g5, g6, g7⟩ := hc6 h1
  clear hc1 hc2 hc3 hc4 hc5 hc6 h1
  obtain ⟨z, rfl⟩ := Int.eq_ofNat_of_zero_le g1
  obtain ⟨n, rfl⟩ := Int.eq_ofNat_of_zero_le g4
  obtain ⟨tn, rfl⟩ := Int.eq_ofNat_of_zero_le g6
  have htk : tk n = 4 + (n + 3) / 4 * 4 := rfl
  have e1 : w64 (4 + w64 (w64 (Int.tdiv (w64 ((n : Int) + 3)) 4) * 4)) = (tk n : Int) := by
    rw [w64_in (x := (n : Int) + 3) (by omega) (by omega), Int.tdiv_eq_ediv_of_nonneg (by omega), w64_in (x := ((n : Int) + 3) / 4) (by omega) (by omega), w64_in (x := ((n : Int) + 3) / 4 * 4) (by omega) (by omega), w64_in (by omega) (by omega)]
    omega
  rw [e1]
  generalize hq : z / tk n = q
  have hq1 : q * tk n ≤ z := by rw [← hq]; exact Nat.div_mul_le_self z (tk n)
  have hq2 : z < (q + 1) * tk n := by
    have h1 := Nat.div_add_mod z (tk n)
    have h2 := Nat.mod_lt z (show 0 < tk n by omega)
    rw [hq] at h1
    rw [Nat.add_mul, Nat.mul_comm q]
    omega
  have hqz : q ≤ z := by rw [← hq]; exact Nat.div_le_self z (tk n)
  have e2 : w64 (Int.tdiv (z : Int) (tk n : Int)) = (q : Int) := by
    rw [Int.tdiv_eq_ediv_of_nonneg (by omega), ← Int.natCast_ediv, hq, w64_in (by omega) (by omega)]
  have e3 : w64 ((z : Int) - w64 ((q : Int) * (tk n : Int))) = (z : Int) - ((q * tk n : Nat) : Int) := by
    rw [show (q : Int) * (tk n : Int) = ((q * tk n : Nat) : Int) by push_cast; rfl, w64_in (x := ((q * tk n : Nat) : Int)) (by omega) (by omega), w64_in (by omega) (by omega)]
  rw [e2, e3]
  refine call8 (New_ring h (fun h0 => absurd (by omega) h0) fun _ b w2 h => ⟨(some ⟨b, 0, none⟩, (0 : Int), ()), rfl, ?_⟩)
  refine cs.no rfl (ob.mk (by omega) ?_)
  rw [Int.toNat_natCast] at h
  refine ef.makeB mkT_b h (by omega) (by omega) fun s w3 hs hsc hsa h => ?_
  rw [Int.toNat_natCast] at h hs
  have hln : (List.replicate n (0 : UInt8)).length = n := List.length_replicate
  generalize hB : List.replicate n (0 : UInt8) = B at h hln
  have hr := slc_rdB h
  have hsz : ∀ i, szR (List.replicate i B) = i * tk n := fun i => by rw [szR_rep, hln]
  have hft : ∀ i, fitR z (List.replicate i B) (B.length : Nat) = decide ((i + 1) * tk n ≤ z) := fun i => decide_eq_decide.2 (by
    rw [hsz, hln, Int.toNat_natCast, Nat.add_mul]
    omega)
  have hft1 : ∀ i, i < q → fitR z (List.replicate i B) (B.length : Nat) = true := fun i hi => by
    rw [hft]
    exact decide_eq_true (Nat.le_trans (Nat.mul_le_mul_right _ hi) hq1)
  have hft2 : fitR z (List.replicate q B) (B.length : Nat) = false := by
    rw [hft]
    exact decide_eq_false (by omega)
  refine lp.mk (fun t w' => ∃ i : Nat, t.1 = (i : Int) ∧ i ≤ q ∧ Ok e [ringP b z (List.replicate i B), slc 1 s (by8 B), old e] w') (fun t _ => q - t.1.toNat) ⟨0, rfl, Nat.zero_le _, h.p1⟩ ?_
  clear h
  rintro ⟨(i' : Int), _⟩ w4 ⟨i, hi, hi1, h⟩
  dsimp only at hi
  subst hi
  refine cs.mk (fun hlt => ?_) (fun hge => ?_)
  · have hlt : i < q := by have := of_decide_eq_true hlt; dsimp only at this; omega
    refine call9 (Put_ring h hr (by omega) fun w5 h => ⟨(true, ()), by rw [hft1 i hlt]; rfl, ?_⟩)
    rw [hft1 i hlt, if_pos rfl, show List.replicate i B ++ [B] = List.replicate (i + 1) B from List.replicate_succ'.symm] at h
    have hw : w64 ((i : Int) + 1) = ((i + 1 : Nat) : Int) := by rw [w64_in (by omega) (by omega)]; rfl
    refine cs.no rfl ?_
    dsimp only
    rw [hw]
    refine ⟨⟨i + 1, rfl, hlt, h⟩, ?_⟩
    show q - Int.toNat ((i + 1 : Nat) : Int) < q - Int.toNat (i : Int)
    omega
  have hge : ¬ i < q := by have := of_decide_eq_false hge; dsimp only at this; omega
  have hin : i = q := by omega
  subst hin
  clear hi1 hge
  refine call9 (Put_ring h hr (by omega) fun w5 h => ⟨(false, ()), by rw [hft2]; rfl, ?_⟩)
  rw [hft2, if_neg (by decide)] at h
  refine jn.bool false (fun J hJ => cs.no rfl ?_) ?_
  · refine call10 (Len_ring h ⟨((i : Int), ()), by rw [List.length_replicate]; rfl, ?_⟩)
    rw [bne_self_eq_false]
    exact hJ
  refine jn.at (false, ()) (fun w' => Ok e [ringP b z (List.replicate i B), slc 1 s (by8 B), old e] w') (fun J hJ => cs.no rfl ?_) (fun w5 h => ?_)
  · refine call11 (Free_ring h fun w13 h => ⟨(((z : Int) - ((i * tk n : Nat) : Int) : Int), ()), by rw [hsz]; rfl, ?_⟩)
    rw [bne_self_eq_false]
    exact hJ _ h
  refine cs.no rfl ?_
  refine lp.mk (fun t w' => ∃ j : Nat, t.1 = (j : Int) ∧ j ≤ tn ∧ Ok e [ringP b z (List.replicate i B), slc 1 s (by8 B), old e] w') (fun t _ => tn - t.1.toNat) ⟨0, rfl, Nat.zero_le _, h⟩ ?_
  clear h
  rintro ⟨(i' : Int), _⟩ w6 ⟨j, hi, hi1, h⟩
  dsimp only at hi
  subst hi
  refine jn.bool (decide (j < tn ∧ 0 < i)) (fun J hJ => cs.mk (fun h1 => ?_) (fun h1 => ?_)) ?_
  · have h1 := of_decide_eq_true h1
    dsimp only at h1
    rw [show decide (j < tn ∧ 0 < i) = decide ((i : Int) > 0) from decide_eq_decide.2 (by omega)] at hJ
    exact hJ
  · have h1 := of_decide_eq_false h1
    dsimp only at h1
    rw [decide_eq_false (by omega)] at hJ
    exact hJ
  refine cs.mk (fun hlt => ?_) (fun hge => ⟨rfl, h.drop.drop⟩)
  have hlt : j < tn ∧ 0 < i := of_decide_eq_true hlt
  obtain ⟨i, rfl⟩ : ∃ i', i = i' + 1 := ⟨i - 1, by omega⟩
  rw [List.replicate_succ] at h
  refine call12 (Get_ring h (fun h0 => by cases h0) fun l M' he s2 w7 hs2 h => ⟨(s2, true, ()), rfl, ?_⟩)
  cases he
  refine jn.bool false (fun J hJ => cs.no rfl ?_) ?_
  · dsimp only
    rw [hs2, hln, bne_self_eq_false]
    exact hJ
  have h := h.drop
  refine jn.at (false, ()) (fun w' => Ok e [ringP b z (List.replicate (i + 1) B), slc 1 s (by8 B), old e] w') (fun J hJ => cs.no rfl ?_) (fun w8 h => ?_)
  · refine call9 (Put_ring h hr (by omega) fun w8 h => ⟨(true, ()), by rw [hft1 i (by omega)]; rfl, ?_⟩)
    rw [hft1 i (by omega), if_pos rfl, show List.replicate i B ++ [B] = List.replicate (i + 1) B from List.replicate_succ'.symm] at h
    exact hJ _ h
  refine jn.at (false, ()) (fun w' => Ok e [ringP b z (List.replicate (i + 1) B), slc 1 s (by8 B), old e] w') (fun J hJ => cs.no rfl ?_) (fun w9 h => ?_)
  · refine call9 (Put_ring h hr (by omega) fun w8 h => ⟨(false, ()), by rw [hft2]; rfl, ?_⟩)
    rw [hft2, if_neg (by decide)] at h
    exact hJ _ h
  have hw : w64 ((j : Int) + 1) = ((j + 1 : Nat) : Int) := by rw [w64_in (by omega) (by omega)]; rfl
  refine cs.no rfl ?_
  dsimp only
  rw [hw]
  refine ⟨⟨j + 1, rfl, hlt.1, h⟩, ?_⟩
  show tn - Int.toNat ((j + 1 : Nat) : Int) < tn - Int.toNat (j : Int)
  omega

end Go.Proofs.Ytffjogadjimfpaa.B
