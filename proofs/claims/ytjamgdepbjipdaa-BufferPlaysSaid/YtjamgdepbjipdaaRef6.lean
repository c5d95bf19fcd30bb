/- Contracts of the document's ring. -/
import Derived.Test.YtjamgdepbjipdaaRing
namespace Go.Proofs.Ytjamgdepbjipdaa.B
open Go
set_option linter.unusedVariables false

theorem ldG.mk {w : World} {b o : Nat} {f : ByteArray → Prop} {x : ByteArray} (h : w.cell? ⟨b, o, none⟩ = some (.string x)) (hf : f x) : ldG w b o f := ⟨x, h, hf⟩

def strs (M : List (List UInt8)) : List Value := M.map fun l => .string (bs l)

theorem strs_len {M : List (List UInt8)} : (strs M).length = M.length := by simp [strs]

theorem strs_one {M : List (List UInt8)} : ∀ v ∈ strs M, v.oneCell' = true := by
  intro v hv
  obtain ⟨x, _, rfl⟩ := List.mem_map.1 hv
  rfl

theorem strs_get {M : List (List UInt8)} {i : Nat} {l : List UInt8} (h : M[i]? = some l) : (strs M)[i]? = some (.string (bs l)) := by simp [strs, h]

theorem slT_s : SlT Pg 69 1 := .of (by kernel_rfl)

theorem Align4_ref1 {e w L n R} (h : Ok e L w) (hn : n ≤ 65536) (k : R [.int .i64 ((n + 3) / 4 * 4 : Nat)] w) : sh80 (n : Nat) 4 R w := by
  unfold sh80
  refine jn.bool (false) (fun J hJ => ?_) ?_
  · refine cs.no (decide_eq_false (by omega)) ?_
    rw [decide_eq_false (show ¬ ((n : Int) > 1073741824) by omega)]
    exact hJ
  refine jn.bool (false) (fun J hJ => ?_) ?_
  · exact cs.no rfl hJ
  refine jn.bool (false) (fun J hJ => ?_) ?_
  · exact cs.no rfl hJ
  refine jn.bool (decide (n % 4 = 0)) (fun J hJ => ?_) ?_
  · refine cs.no rfl (ob.mk (by decide) ?_)
    rw [Int.tmod_eq_emod_of_nonneg (by omega), show ((n : Int) % 4 == 0) = decide (n % 4 = 0) by rw [Bool.eq_iff_iff, beq_iff_eq, decide_eq_true_iff]; omega]
    exact hJ
  refine cs.mk (fun h1 => ?_) (fun h1 => ob.mk (by decide) ?_)
  · have h1 := of_decide_eq_true h1
    rw [show (n + 3) / 4 * 4 = n by omega] at k
    exact k
  · have h1 := of_decide_eq_false h1
    rw [Int.tmod_eq_emod_of_nonneg (by omega), w64_in (x := (n : Int) + 4) (by omega) (by omega), w64_in (by omega) (by omega)]
    rw [show (((n + 3) / 4 * 4 : Nat) : Int) = (n : Int) + 4 - (n : Int) % 4 by omega] at k
    exact k

theorem takes_ref6 {e w L n R} (h : Ok e L w) (hn : n ≤ 65536) (k : R [.int .i64 (tk n : Nat)] w) : sh60 (n : Nat) R w := by
  unfold sh60
  refine call80 (Align4_ref1 h hn ⟨((((n + 3) / 4 * 4 : Nat) : Int), ()), rfl, ?_⟩)
  dsimp only
  rw [w64_in (by omega) (by omega), show (4 : Int) + (((n + 3) / 4 * 4 : Nat) : Int) = (tk n : Int) by unfold tk; omega]
  exact k

def rr6P (u : Nat) (z : Nat) (M : List (List UInt8)) : SP := fun h => ∃ s, oksH [pts u [.int .i64 (z : Nat), vS s], slc 1 s (strs M)] h

theorem rr6E {e w L u z M} (h : Ok e (rr6P u z M :: L) w) : ∃ s, s.len = M.length ∧ Ok e (pts u [.int .i64 (z : Nat), vS s] :: slc 1 s (strs M) :: L) w := by
  obtain ⟨s, h⟩ := h.exE
  have h := h.unpack
  have := h.p1.slc_len
  rw [strs_len] at this
  exact ⟨s, by omega, h⟩

theorem rr6I {e w L u z M s} (h : Ok e (pts u [.int .i64 (z : Nat), vS s] :: slc 1 s (strs M) :: L) w) : Ok e (rr6P u z M :: L) w :=
  (Ok.pack (M := [pts u [.int .i64 (z : Nat), vS s], slc 1 s (strs M)]) h).imp fun k hk => ⟨s, hk⟩

theorem New_ref6 {e w L n R} (h : Ok e L w) (k0 : ¬ (0 ≤ n ∧ n ≤ 65536 ∧ n % 4 = 0) → R [.pointer none, .int .i64 (-17)] w)
    (k1 : (0 ≤ n ∧ n ≤ 65536 ∧ n % 4 = 0) → ∀ b w', Ok e (rr6P b n.toNat [] :: L) w' → R [.pointer (some ⟨b, 0, none⟩), .int .i64 0] w') : sh45 n R w := by
  unfold sh45
  refine jn.bool (decide (¬ (0 ≤ n ∧ n ≤ 65536))) (fun J hJ => cs.mk (fun h1 => ?_) (fun h1 => ?_)) ?_
  · have h1 := of_decide_eq_true h1
    rw [decide_eq_true (by omega)] at hJ
    exact hJ
  · have h1 := of_decide_eq_false h1
    rw [show decide (¬ (0 ≤ n ∧ n ≤ 65536)) = decide (n > 65536) from decide_eq_decide.2 (by omega)] at hJ
    exact hJ
  refine jn.bool (decide (¬ (0 ≤ n ∧ n ≤ 65536 ∧ n % 4 = 0))) (fun J hJ => cs.mk (fun h1 => ?_) (fun h1 => ?_)) ?_
  · have h1 := of_decide_eq_true h1
    rw [decide_eq_true (by omega)] at hJ
    exact hJ
  · have h1 := of_decide_eq_false h1
    rw [Int.tmod_eq_emod_of_nonneg (by omega)]
    rw [show decide (¬ (0 ≤ n ∧ n ≤ 65536 ∧ n % 4 = 0)) = (n % 4 != 0) by rw [Bool.eq_iff_iff, decide_eq_true_iff, bne_iff_ne]; omega] at hJ
    exact hJ
  refine cs.mk (fun h1 => k0 (of_decide_eq_true h1)) (fun h1 => ?_)
  have h1 : 0 ≤ n ∧ n ≤ 65536 ∧ n % 4 = 0 := Decidable.not_not.1 (of_decide_eq_false h1)
  refine al.mk h fun b w1 h => ?_
  obtain ⟨z, rfl⟩ := Int.eq_ofNat_of_zero_le h1.1
  exact k1 h1 b w1 (rr6I (s := ⟨none, 0, 0⟩) (M := []) (h.slcNil 1).p1)

theorem szR_append {L K : List (List UInt8)} : szR (L ++ K) = szR L + szR K := by simp [szR]

theorem Free_ref6 {e w L u z M R} (h : Ok e (rr6P u z M :: L) w) (hz : z ≤ 65536) (hs : szR M ≤ z) (hm : ∀ l ∈ M, l.length ≤ 1024) (k : ∀ w', Ok e (rr6P u z M :: L) w' → R [.int .i64 ((z : Int) - szR M)] w') : sh30 (some ⟨u, 0, none⟩) R w := by
  unfold sh30
  obtain ⟨s, hsl, h⟩ := rr6E h
  have hML := szR_len (L := M)
  (repeat (first | with_reducible refine dr.mk h fun _ h => ?_ | with_reducible refine nn.mk ?_ | ((first | with_reducible apply ldI.mk | with_reducible apply ldB.mk | with_reducible apply ldP.mk | with_reducible apply ldS.mk | with_reducible apply ldM.mk | with_reducible apply ldF.mk | with_reducible apply ldG.mk); (· exact (by refine Ok.cellS h (by with_reducible first | exact sl0 | exact .there sl0 | exact .there sl1 | exact .there sl2 | exact .there sl3 | exact .there sl4 | exact .there sl5 | exact .there sl6 | exact .there sl7 | exact .there sl8 | exact .there sl9 | exact .there sl10 | exact .there sl11 | exact .there sl12) ?_; rfl))) | (refine st1.mk (Ok.bring h (by with_reducible first | exact sl0 | exact .there sl0 | exact .there sl1 | exact .there sl2 | exact .there sl3 | exact .there sl4 | exact .there sl5 | exact .there sl6 | exact .there sl7 | exact .there sl8 | exact .there sl9 | exact .there sl10 | exact .there sl11 | exact .there sl12)) (by simp) fun _ h => ?_; dsimp only [List.set] at h)))
  have hta : ∀ i, szR (M.take i) + szR (M.drop i) = szR M := fun i => by
    have := congrArg szR (List.take_append_drop i M)
    rw [szR_append] at this
    exact this
  refine lp.mk (fun t w' => ∃ i : Nat, t.2.1 = (i : Int) ∧ i ≤ M.length ∧ @Eq Int t.1 ((z : Int) - szR (M.take i)) ∧ Ok e (pts u [.int .i64 (z : Nat), vS s] :: slc 1 s (strs M) :: L) w') (fun t _ => M.length - t.2.1.toNat) ⟨0, rfl, Nat.zero_le _, by simp [szR], h⟩ ?_
  clear h
  rintro ⟨(n : Int), (i' : Int), _⟩ w1 ⟨i, hi, hi1, hn, h⟩
  dsimp only at hi hn
  subst hi hn
  have := hta i
  (repeat (first | with_reducible refine dr.mk h fun _ h => ?_ | with_reducible refine nn.mk ?_ | ((first | with_reducible apply ldI.mk | with_reducible apply ldB.mk | with_reducible apply ldP.mk | with_reducible apply ldS.mk | with_reducible apply ldM.mk | with_reducible apply ldF.mk | with_reducible apply ldG.mk); (· exact (by refine Ok.cellS h (by with_reducible first | exact sl0 | exact .there sl0 | exact .there sl1 | exact .there sl2 | exact .there sl3 | exact .there sl4 | exact .there sl5 | exact .there sl6 | exact .there sl7 | exact .there sl8 | exact .there sl9 | exact .there sl10 | exact .there sl11 | exact .there sl12) ?_; rfl))) | (refine st1.mk (Ok.bring h (by with_reducible first | exact sl0 | exact .there sl0 | exact .there sl1 | exact .there sl2 | exact .there sl3 | exact .there sl4 | exact .there sl5 | exact .there sl6 | exact .there sl7 | exact .there sl8 | exact .there sl9 | exact .there sl10 | exact .there sl11 | exact .there sl12)) (by simp) fun _ h => ?_; dsimp only [List.set] at h)))
  refine cs.mk (fun hlt => ?_) (fun hge => ?_)
  · have hlt : i < M.length := by have := of_decide_eq_true hlt; dsimp only at this; omega
    obtain ⟨l, hl⟩ : ∃ l, M[i]? = some l := ⟨_, List.getElem?_eq_getElem hlt⟩
    have hl2 := hm l (List.mem_of_getElem? hl)
    (repeat (first | with_reducible refine dr.mk h fun _ h => ?_ | with_reducible refine nn.mk ?_ | ((first | with_reducible apply ldI.mk | with_reducible apply ldB.mk | with_reducible apply ldP.mk | with_reducible apply ldS.mk | with_reducible apply ldM.mk | with_reducible apply ldF.mk | with_reducible apply ldG.mk); (· exact (by refine Ok.cellS h (by with_reducible first | exact sl0 | exact .there sl0 | exact .there sl1 | exact .there sl2 | exact .there sl3 | exact .there sl4 | exact .there sl5 | exact .there sl6 | exact .there sl7 | exact .there sl8 | exact .there sl9 | exact .there sl10 | exact .there sl11 | exact .there sl12) ?_; rfl))) | (refine st1.mk (Ok.bring h (by with_reducible first | exact sl0 | exact .there sl0 | exact .there sl1 | exact .there sl2 | exact .there sl3 | exact .there sl4 | exact .there sl5 | exact .there sl6 | exact .there sl7 | exact .there sl8 | exact .there sl9 | exact .there sl10 | exact .there sl11 | exact .there sl12)) (by simp) fun _ h => ?_; dsimp only [List.set] at h)))
    refine ix_slc h.p1 (Int.natCast_nonneg _) (by dsimp only; omega) fun b2 hc => ?_
    have hc := hc 0 (by decide)
    dsimp only at hc ⊢
    rw [Int.toNat_natCast, Nat.mul_one, Nat.add_zero, strs_get hl] at hc
    refine ldG.mk (x := bs l) (by rw [Int.toNat_natCast, Nat.mul_one, Nat.zero_add]; exact hc) ?_
    rw [bs_size]
    refine call60 (takes_ref6 h (by omega) ⟨((tk l.length : Int), ()), rfl, ?_⟩)
    have e1 : szR (M.take (i + 1)) = szR (M.take i) + tk l.length := by
      rw [List.take_add_one, hl]; exact szR_snoc
    have h3 := hta (i + 1)
    have hw : w64 ((i : Int) + 1) = ((i + 1 : Nat) : Int) := by rw [w64_in (by omega) (by omega)]; rfl
    dsimp only
    rw [hw, w64_in (by omega) (by omega)]
    refine ⟨⟨i + 1, rfl, hlt, by rw [e1]; omega, h⟩, ?_⟩
    show M.length - Int.toNat ((i + 1 : Nat) : Int) < M.length - Int.toNat (i : Int)
    omega
  · have hge : ¬ i < M.length := by have := of_decide_eq_false hge; dsimp only at this; omega
    rw [List.take_of_length_le (by omega)]
    exact k w1 (rr6I h)

theorem Fits_ref6 {e w L u z M n R} (h : Ok e (rr6P u z M :: L) w) (hz : z ≤ 65536) (hs : szR M ≤ z) (hm : ∀ l ∈ M, l.length ≤ 1024) (k : ∀ w', Ok e (rr6P u z M :: L) w' → R [.bool (fitR z M n)] w') : sh75 (some ⟨u, 0, none⟩) n R w := by
  unfold sh75
  refine jn.bool (decide (0 ≤ n ∧ n ≤ 1024)) (fun J hJ => cs.mk (fun h1 => ?_) (fun h1 => ?_)) ?_
  · have h1 := of_decide_eq_true h1
    rw [show decide (0 ≤ n ∧ n ≤ 1024) = decide (n ≤ 1024) from decide_eq_decide.2 (by omega)] at hJ
    exact hJ
  · have h1 := of_decide_eq_false h1
    rw [decide_eq_false (by omega)] at hJ
    exact hJ
  refine jn.at (fitR z M n, ()) (fun w' => Ok e (rr6P u z M :: L) w') (fun J hJ => cs.mk (fun h1 => ?_) (fun h1 => ?_)) (fun w' h => k w' h)
  · have h1 := of_decide_eq_true h1
    obtain ⟨q, rfl⟩ := Int.eq_ofNat_of_zero_le h1.1
    refine call60 (takes_ref6 h (by omega) ⟨((tk q : Int), ()), rfl, ?_⟩)
    refine call30 (Free_ref6 h hz hs hm fun w1 h => ⟨(((z : Int) - (szR M : Int) : Int), ()), rfl, ?_⟩)
    have := hJ w1 h
    rw [show fitR z M (q : Int) = decide ((tk q : Int) ≤ (z : Int) - szR M) from decide_eq_decide.2 (by rw [Int.toNat_natCast]; omega)] at this
    exact this
  · have h1 : ¬ (0 ≤ n ∧ n ≤ 1024) := of_decide_eq_false h1
    have := hJ w h
    rw [show fitR z M n = false from decide_eq_false fun h => h1 ⟨h.1, h.2.1⟩] at this
    exact this

set_option maxHeartbeats 1000000 in
theorem Put_ref6 {e w A L u z M x l R} (h : Ok e (rr6P u z M :: A :: L) w) (hz : z ≤ 65536) (hs : szR M ≤ z) (hm : ∀ l ∈ M, l.length ≤ 1024) (r : RdB e A x l)
    (k : ∀ w', Ok e (rr6P u z (if fitR z M (l.length : Nat) then M ++ [l] else M) :: A :: L) w' → R [.bool (fitR z M (l.length : Nat))] w') : sh50 (some ⟨u, 0, none⟩) x R w := by
  unfold sh50
  rw [← r.len]
  refine call75 (Fits_ref6 h hz hs hm fun w1 h => ⟨(fitR z M (l.length : Nat), ()), rfl, ?_⟩)
  dsimp only
  refine cs.mk (fun h1 => ?_) (fun h1 => ?_)
  · have h1 : fitR z M (l.length : Nat) = false := by simpa using h1
    rw [h1] at k
    exact k w1 h
  have h1 : fitR z M (l.length : Nat) = true := by simpa using h1
  rw [h1, if_pos rfl] at k
  clear h1
  have hML := szR_len (L := M)
  obtain ⟨s, hsl, h⟩ := rr6E h
  (repeat (first | with_reducible refine dr.mk h fun _ h => ?_ | with_reducible refine nn.mk ?_ | ((first | with_reducible apply ldI.mk | with_reducible apply ldB.mk | with_reducible apply ldP.mk | with_reducible apply ldS.mk | with_reducible apply ldM.mk | with_reducible apply ldF.mk | with_reducible apply ldG.mk); (· exact (by refine Ok.cellS h (by with_reducible first | exact sl0 | exact .there sl0 | exact .there sl1 | exact .there sl2 | exact .there sl3 | exact .there sl4 | exact .there sl5 | exact .there sl6 | exact .there sl7 | exact .there sl8 | exact .there sl9 | exact .there sl10 | exact .there sl11 | exact .there sl12) ?_; rfl))) | (refine st1.mk (Ok.bring h (by with_reducible first | exact sl0 | exact .there sl0 | exact .there sl1 | exact .there sl2 | exact .there sl3 | exact .there sl4 | exact .there sl5 | exact .there sl6 | exact .there sl7 | exact .there sl8 | exact .there sl9 | exact .there sl10 | exact .there sl11 | exact .there sl12)) (by simp) fun _ h => ?_; dsimp only [List.set] at h)))
  refine tx.mk bsT (Ok.emb (h) (.cons (A := A) (by with_reducible first | exact sl0 | exact .there sl0 | exact .there sl1 | exact .there sl2 | exact .there sl3 | exact .there sl4 | exact .there sl5 | exact .there sl6 | exact .there sl7 | exact .there sl8 | exact .there sl9 | exact .there sl10 | exact .there sl11 | exact .there sl12) (.same _))) r ?_
  have fin : ∀ {w' : World} {s' : Sl} {Z : List SP}, Ok e (slc 1 s' (strs M ++ [.string (bs l)]) :: pts u [.int .i64 (z : Nat), vS s] :: A :: L) w' → st1 w' u (0 + 1) (vS s') fun w'' => R [.bool true] w'' := fun {w' s' Z} h => by
    refine st1.mk h.p1 (by simp) fun w'' h => ?_
    have h := rr6I (u := u) (z := z) (M := M ++ [l]) (s := s') (by
      have e1 : strs (M ++ [l]) = strs M ++ [.string (bs l)] := by simp [strs]
      rw [e1]; exact h)
    exact k w'' h
  refine ⟨?_, ?_⟩
  · refine al.mk h fun b1 w2 h => ⟨tx.run bsT (Ok.emb (h) (.cons (A := A) (by with_reducible first | exact sl0 | exact .there sl0 | exact .there sl1 | exact .there sl2 | exact .there sl3 | exact .there sl4 | exact .there sl5 | exact .there sl6 | exact .there sl7 | exact .there sl8 | exact .there sl9 | exact .there sl10 | exact .there sl11 | exact .there sl12) (.same _))) r, (by refine Ok.cellS h (by with_reducible first | exact sl0 | exact .there sl0 | exact .there sl1 | exact .there sl2 | exact .there sl3 | exact .there sl4 | exact .there sl5 | exact .there sl6 | exact .there sl7 | exact .there sl8 | exact .there sl9 | exact .there sl10 | exact .there sl11 | exact .there sl12) ?_; rfl), ?_, ?_⟩
    · have h := (Ok.emb (h) (.cons (A := pts b1 _) (by with_reducible first | exact sl0 | exact .there sl0 | exact .there sl1 | exact .there sl2 | exact .there sl3 | exact .there sl4 | exact .there sl5 | exact .there sl6 | exact .there sl7 | exact .there sl8 | exact .there sl9 | exact .there sl10 | exact .there sl11 | exact .there sl12) (.same _)))
      have h := h.slcNew (n := 0) (sz := 1) rfl (by simp)
      have h := (Ok.emb (h) (.cons (A := slc 1 _ []) (by with_reducible first | exact sl0 | exact .there sl0 | exact .there sl1 | exact .there sl2 | exact .there sl3 | exact .there sl4 | exact .there sl5 | exact .there sl6 | exact .there sl7 | exact .there sl8 | exact .there sl9 | exact .there sl10 | exact .there sl11 | exact .there sl12) (.cons (A := slc 1 s _) (by with_reducible first | exact sl0 | exact .there sl0 | exact .there sl1 | exact .there sl2 | exact .there sl3 | exact .there sl4 | exact .there sl5 | exact .there sl6 | exact .there sl7 | exact .there sl8 | exact .there sl9 | exact .there sl10 | exact .there sl11 | exact .there sl12) (.same _))))
      refine ef.append2 slT_s (by decide) h (by dsimp only; omega) fun s2 w3 hl2 h => ⟨tx.run bsT (Ok.emb (h) (.cons (A := A) (by with_reducible first | exact sl0 | exact .there sl0 | exact .there sl1 | exact .there sl2 | exact .there sl3 | exact .there sl4 | exact .there sl5 | exact .there sl6 | exact .there sl7 | exact .there sl8 | exact .there sl9 | exact .there sl10 | exact .there sl11 | exact .there sl12) (.same _))) r, ?_⟩
      refine al.mk h fun b2 w4 h => ⟨(by refine Ok.cellS h (by with_reducible first | exact sl0 | exact .there sl0 | exact .there sl1 | exact .there sl2 | exact .there sl3 | exact .there sl4 | exact .there sl5 | exact .there sl6 | exact .there sl7 | exact .there sl8 | exact .there sl9 | exact .there sl10 | exact .there sl11 | exact .there sl12) ?_; rfl), ?_⟩
      have h := (Ok.emb (h) (.cons (A := pts b2 _) (by with_reducible first | exact sl0 | exact .there sl0 | exact .there sl1 | exact .there sl2 | exact .there sl3 | exact .there sl4 | exact .there sl5 | exact .there sl6 | exact .there sl7 | exact .there sl8 | exact .there sl9 | exact .there sl10 | exact .there sl11 | exact .there sl12) (.cons (A := slc 1 s2 _) (by with_reducible first | exact sl0 | exact .there sl0 | exact .there sl1 | exact .there sl2 | exact .there sl3 | exact .there sl4 | exact .there sl5 | exact .there sl6 | exact .there sl7 | exact .there sl8 | exact .there sl9 | exact .there sl10 | exact .there sl11 | exact .there sl12) (.same _))))
      refine ef.append1 slT_s (by decide) h rfl (by simp [Value.oneCell']) (by dsimp only at hl2 ⊢; omega) fun s3 w5 hl3 h => ?_
      refine nn.mk ?_
      have h := ((Ok.emb (h) (.cons (A := slc 1 s _) (by with_reducible first | exact sl0 | exact .there sl0 | exact .there sl1 | exact .there sl2 | exact .there sl3 | exact .there sl4 | exact .there sl5 | exact .there sl6 | exact .there sl7 | exact .there sl8 | exact .there sl9 | exact .there sl10 | exact .there sl11 | exact .there sl12) (.cons (A := slc 1 s3 _) (by with_reducible first | exact sl0 | exact .there sl0 | exact .there sl1 | exact .there sl2 | exact .there sl3 | exact .there sl4 | exact .there sl5 | exact .there sl6 | exact .there sl7 | exact .there sl8 | exact .there sl9 | exact .there sl10 | exact .there sl11 | exact .there sl12) (.cons (A := pts u _) (by with_reducible first | exact sl0 | exact .there sl0 | exact .there sl1 | exact .there sl2 | exact .there sl3 | exact .there sl4 | exact .there sl5 | exact .there sl6 | exact .there sl7 | exact .there sl8 | exact .there sl9 | exact .there sl10 | exact .there sl11 | exact .there sl12) (.cons (A := A) (by with_reducible first | exact sl0 | exact .there sl0 | exact .there sl1 | exact .there sl2 | exact .there sl3 | exact .there sl4 | exact .there sl5 | exact .there sl6 | exact .there sl7 | exact .there sl8 | exact .there sl9 | exact .there sl10 | exact .there sl11 | exact .there sl12) (.same _))))))).drop
      exact fin (Z := []) h
    · refine al.mk h fun b2 w3 h => ⟨(by refine Ok.cellS h (by with_reducible first | exact sl0 | exact .there sl0 | exact .there sl1 | exact .there sl2 | exact .there sl3 | exact .there sl4 | exact .there sl5 | exact .there sl6 | exact .there sl7 | exact .there sl8 | exact .there sl9 | exact .there sl10 | exact .there sl11 | exact .there sl12) ?_; rfl), ?_⟩
      have h := (Ok.emb (h) (.cons (A := pts b1 _) (by with_reducible first | exact sl0 | exact .there sl0 | exact .there sl1 | exact .there sl2 | exact .there sl3 | exact .there sl4 | exact .there sl5 | exact .there sl6 | exact .there sl7 | exact .there sl8 | exact .there sl9 | exact .there sl10 | exact .there sl11 | exact .there sl12) (.same _)))
      have h := h.slcNew (n := 0) (sz := 1) rfl (by simp)
      have h := (Ok.emb (h) (.cons (A := slc 1 _ []) (by with_reducible first | exact sl0 | exact .there sl0 | exact .there sl1 | exact .there sl2 | exact .there sl3 | exact .there sl4 | exact .there sl5 | exact .there sl6 | exact .there sl7 | exact .there sl8 | exact .there sl9 | exact .there sl10 | exact .there sl11 | exact .there sl12) (.cons (A := slc 1 s _) (by with_reducible first | exact sl0 | exact .there sl0 | exact .there sl1 | exact .there sl2 | exact .there sl3 | exact .there sl4 | exact .there sl5 | exact .there sl6 | exact .there sl7 | exact .there sl8 | exact .there sl9 | exact .there sl10 | exact .there sl11 | exact .there sl12) (.same _))))
      refine ef.append2 slT_s (by decide) h (by dsimp only; omega) fun s2 w4 hl2 h => ⟨tx.run bsT (Ok.emb (h) (.cons (A := A) (by with_reducible first | exact sl0 | exact .there sl0 | exact .there sl1 | exact .there sl2 | exact .there sl3 | exact .there sl4 | exact .there sl5 | exact .there sl6 | exact .there sl7 | exact .there sl8 | exact .there sl9 | exact .there sl10 | exact .there sl11 | exact .there sl12) (.same _))) r, ?_⟩
      have h := (Ok.emb (h) (.cons (A := pts b2 _) (by with_reducible first | exact sl0 | exact .there sl0 | exact .there sl1 | exact .there sl2 | exact .there sl3 | exact .there sl4 | exact .there sl5 | exact .there sl6 | exact .there sl7 | exact .there sl8 | exact .there sl9 | exact .there sl10 | exact .there sl11 | exact .there sl12) (.cons (A := slc 1 s2 _) (by with_reducible first | exact sl0 | exact .there sl0 | exact .there sl1 | exact .there sl2 | exact .there sl3 | exact .there sl4 | exact .there sl5 | exact .there sl6 | exact .there sl7 | exact .there sl8 | exact .there sl9 | exact .there sl10 | exact .there sl11 | exact .there sl12) (.same _))))
      refine ef.append1 slT_s (by decide) h rfl (by simp [Value.oneCell']) (by dsimp only at hl2 ⊢; omega) fun s3 w5 hl3 h => ?_
      refine nn.mk ?_
      have h := ((Ok.emb (h) (.cons (A := slc 1 s _) (by with_reducible first | exact sl0 | exact .there sl0 | exact .there sl1 | exact .there sl2 | exact .there sl3 | exact .there sl4 | exact .there sl5 | exact .there sl6 | exact .there sl7 | exact .there sl8 | exact .there sl9 | exact .there sl10 | exact .there sl11 | exact .there sl12) (.cons (A := slc 1 s3 _) (by with_reducible first | exact sl0 | exact .there sl0 | exact .there sl1 | exact .there sl2 | exact .there sl3 | exact .there sl4 | exact .there sl5 | exact .there sl6 | exact .there sl7 | exact .there sl8 | exact .there sl9 | exact .there sl10 | exact .there sl11 | exact .there sl12) (.cons (A := pts u _) (by with_reducible first | exact sl0 | exact .there sl0 | exact .there sl1 | exact .there sl2 | exact .there sl3 | exact .there sl4 | exact .there sl5 | exact .there sl6 | exact .there sl7 | exact .there sl8 | exact .there sl9 | exact .there sl10 | exact .there sl11 | exact .there sl12) (.cons (A := A) (by with_reducible first | exact sl0 | exact .there sl0 | exact .there sl1 | exact .there sl2 | exact .there sl3 | exact .there sl4 | exact .there sl5 | exact .there sl6 | exact .there sl7 | exact .there sl8 | exact .there sl9 | exact .there sl10 | exact .there sl11 | exact .there sl12) (.same _))))))).drop
      exact fin (Z := []) h
  · refine al.mk h fun b2 w2 h => ⟨(by refine Ok.cellS h (by with_reducible first | exact sl0 | exact .there sl0 | exact .there sl1 | exact .there sl2 | exact .there sl3 | exact .there sl4 | exact .there sl5 | exact .there sl6 | exact .there sl7 | exact .there sl8 | exact .there sl9 | exact .there sl10 | exact .there sl11 | exact .there sl12) ?_; rfl), ?_⟩
    refine al.mk h fun b1 w3 h => ⟨tx.run bsT (Ok.emb (h) (.cons (A := A) (by with_reducible first | exact sl0 | exact .there sl0 | exact .there sl1 | exact .there sl2 | exact .there sl3 | exact .there sl4 | exact .there sl5 | exact .there sl6 | exact .there sl7 | exact .there sl8 | exact .there sl9 | exact .there sl10 | exact .there sl11 | exact .there sl12) (.same _))) r, (by refine Ok.cellS h (by with_reducible first | exact sl0 | exact .there sl0 | exact .there sl1 | exact .there sl2 | exact .there sl3 | exact .there sl4 | exact .there sl5 | exact .there sl6 | exact .there sl7 | exact .there sl8 | exact .there sl9 | exact .there sl10 | exact .there sl11 | exact .there sl12) ?_; rfl), ?_⟩
    have h := (Ok.emb (h) (.cons (A := pts b1 _) (by with_reducible first | exact sl0 | exact .there sl0 | exact .there sl1 | exact .there sl2 | exact .there sl3 | exact .there sl4 | exact .there sl5 | exact .there sl6 | exact .there sl7 | exact .there sl8 | exact .there sl9 | exact .there sl10 | exact .there sl11 | exact .there sl12) (.same _)))
    have h := h.slcNew (n := 0) (sz := 1) rfl (by simp)
    have h := (Ok.emb (h) (.cons (A := slc 1 _ []) (by with_reducible first | exact sl0 | exact .there sl0 | exact .there sl1 | exact .there sl2 | exact .there sl3 | exact .there sl4 | exact .there sl5 | exact .there sl6 | exact .there sl7 | exact .there sl8 | exact .there sl9 | exact .there sl10 | exact .there sl11 | exact .there sl12) (.cons (A := slc 1 s _) (by with_reducible first | exact sl0 | exact .there sl0 | exact .there sl1 | exact .there sl2 | exact .there sl3 | exact .there sl4 | exact .there sl5 | exact .there sl6 | exact .there sl7 | exact .there sl8 | exact .there sl9 | exact .there sl10 | exact .there sl11 | exact .there sl12) (.same _))))
    refine ef.append2 slT_s (by decide) h (by dsimp only; omega) fun s2 w4 hl2 h => ⟨tx.run bsT (Ok.emb (h) (.cons (A := A) (by with_reducible first | exact sl0 | exact .there sl0 | exact .there sl1 | exact .there sl2 | exact .there sl3 | exact .there sl4 | exact .there sl5 | exact .there sl6 | exact .there sl7 | exact .there sl8 | exact .there sl9 | exact .there sl10 | exact .there sl11 | exact .there sl12) (.same _))) r, ?_⟩
    have h := (Ok.emb (h) (.cons (A := pts b2 _) (by with_reducible first | exact sl0 | exact .there sl0 | exact .there sl1 | exact .there sl2 | exact .there sl3 | exact .there sl4 | exact .there sl5 | exact .there sl6 | exact .there sl7 | exact .there sl8 | exact .there sl9 | exact .there sl10 | exact .there sl11 | exact .there sl12) (.cons (A := slc 1 s2 _) (by with_reducible first | exact sl0 | exact .there sl0 | exact .there sl1 | exact .there sl2 | exact .there sl3 | exact .there sl4 | exact .there sl5 | exact .there sl6 | exact .there sl7 | exact .there sl8 | exact .there sl9 | exact .there sl10 | exact .there sl11 | exact .there sl12) (.same _))))
    refine ef.append1 slT_s (by decide) h rfl (by simp [Value.oneCell']) (by dsimp only at hl2 ⊢; omega) fun s3 w5 hl3 h => ?_
    refine nn.mk ?_
    have h := ((Ok.emb (h) (.cons (A := slc 1 s _) (by with_reducible first | exact sl0 | exact .there sl0 | exact .there sl1 | exact .there sl2 | exact .there sl3 | exact .there sl4 | exact .there sl5 | exact .there sl6 | exact .there sl7 | exact .there sl8 | exact .there sl9 | exact .there sl10 | exact .there sl11 | exact .there sl12) (.cons (A := slc 1 s3 _) (by with_reducible first | exact sl0 | exact .there sl0 | exact .there sl1 | exact .there sl2 | exact .there sl3 | exact .there sl4 | exact .there sl5 | exact .there sl6 | exact .there sl7 | exact .there sl8 | exact .there sl9 | exact .there sl10 | exact .there sl11 | exact .there sl12) (.cons (A := pts u _) (by with_reducible first | exact sl0 | exact .there sl0 | exact .there sl1 | exact .there sl2 | exact .there sl3 | exact .there sl4 | exact .there sl5 | exact .there sl6 | exact .there sl7 | exact .there sl8 | exact .there sl9 | exact .there sl10 | exact .there sl11 | exact .there sl12) (.cons (A := A) (by with_reducible first | exact sl0 | exact .there sl0 | exact .there sl1 | exact .there sl2 | exact .there sl3 | exact .there sl4 | exact .there sl5 | exact .there sl6 | exact .there sl7 | exact .there sl8 | exact .there sl9 | exact .there sl10 | exact .there sl11 | exact .there sl12) (.same _))))))).drop
    exact fin (Z := []) h

theorem Get_ref6 {e w L u z M R} (h : Ok e (rr6P u z M :: L) w) (hb : M.length ≤ 2 ^ 20)
    (k0 : M = [] → ∀ w', Ok e (rr6P u z M :: L) w' → R [.slice none 0 0, .bool false] w')
    (k1 : ∀ l M', M = l :: M' → ∀ s w', s.len = l.length → Ok e (rdb s l :: rr6P u z M' :: L) w' → R [vS s, .bool true] w') : sh51 (some ⟨u, 0, none⟩) R w := by
  unfold sh51
  obtain ⟨s, hsl, h⟩ := rr6E h
  (repeat (first | with_reducible refine dr.mk h fun _ h => ?_ | with_reducible refine nn.mk ?_ | ((first | with_reducible apply ldI.mk | with_reducible apply ldB.mk | with_reducible apply ldP.mk | with_reducible apply ldS.mk | with_reducible apply ldM.mk | with_reducible apply ldF.mk | with_reducible apply ldG.mk); (· exact (by refine Ok.cellS h (by with_reducible first | exact sl0 | exact .there sl0 | exact .there sl1 | exact .there sl2 | exact .there sl3 | exact .there sl4 | exact .there sl5 | exact .there sl6 | exact .there sl7 | exact .there sl8 | exact .there sl9 | exact .there sl10 | exact .there sl11 | exact .there sl12) ?_; rfl))) | (refine st1.mk (Ok.bring h (by with_reducible first | exact sl0 | exact .there sl0 | exact .there sl1 | exact .there sl2 | exact .there sl3 | exact .there sl4 | exact .there sl5 | exact .there sl6 | exact .there sl7 | exact .there sl8 | exact .there sl9 | exact .there sl10 | exact .there sl11 | exact .there sl12)) (by simp) fun _ h => ?_; dsimp only [List.set] at h)))
  cases M with
  | nil => exact cs.yes (by simp at hsl; simp [hsl]) (k0 rfl w (rr6I h))
  | cons l M =>
  rw [List.length_cons] at hsl hb
  refine cs.no (by simp [hsl]; omega) ?_
  (repeat (first | with_reducible refine dr.mk h fun _ h => ?_ | with_reducible refine nn.mk ?_ | ((first | with_reducible apply ldI.mk | with_reducible apply ldB.mk | with_reducible apply ldP.mk | with_reducible apply ldS.mk | with_reducible apply ldM.mk | with_reducible apply ldF.mk | with_reducible apply ldG.mk); (· exact (by refine Ok.cellS h (by with_reducible first | exact sl0 | exact .there sl0 | exact .there sl1 | exact .there sl2 | exact .there sl3 | exact .there sl4 | exact .there sl5 | exact .there sl6 | exact .there sl7 | exact .there sl8 | exact .there sl9 | exact .there sl10 | exact .there sl11 | exact .there sl12) ?_; rfl))) | (refine st1.mk (Ok.bring h (by with_reducible first | exact sl0 | exact .there sl0 | exact .there sl1 | exact .there sl2 | exact .there sl3 | exact .there sl4 | exact .there sl5 | exact .there sl6 | exact .there sl7 | exact .there sl8 | exact .there sl9 | exact .there sl10 | exact .there sl11 | exact .there sl12)) (by simp) fun _ h => ?_; dsimp only [List.set] at h)))
  refine ix_slc h.p1 (by decide) (by omega) fun b2 hc => ?_
  have hc := hc 0 (by decide)
  refine ldG.mk (x := bs l) hc ?_
  refine ef.bytes bsT h fun x w1 hx h => ?_
  refine al.mk h fun b1 w2 h => ?_
  (repeat (first | with_reducible refine dr.mk h fun _ h => ?_ | with_reducible refine nn.mk ?_ | ((first | with_reducible apply ldI.mk | with_reducible apply ldB.mk | with_reducible apply ldP.mk | with_reducible apply ldS.mk | with_reducible apply ldM.mk | with_reducible apply ldF.mk | with_reducible apply ldG.mk); (· exact (by refine Ok.cellS h (by with_reducible first | exact sl0 | exact .there sl0 | exact .there sl1 | exact .there sl2 | exact .there sl3 | exact .there sl4 | exact .there sl5 | exact .there sl6 | exact .there sl7 | exact .there sl8 | exact .there sl9 | exact .there sl10 | exact .there sl11 | exact .there sl12) ?_; rfl))) | (refine st1.mk (Ok.bring h (by with_reducible first | exact sl0 | exact .there sl0 | exact .there sl1 | exact .there sl2 | exact .there sl3 | exact .there sl4 | exact .there sl5 | exact .there sl6 | exact .there sl7 | exact .there sl8 | exact .there sl9 | exact .there sl10 | exact .there sl11 | exact .there sl12)) (by simp) fun _ h => ?_; dsimp only [List.set] at h)))
  have h := (Ok.emb (h) (.cons (A := slc 1 s (strs (l :: M))) (by with_reducible first | exact sl0 | exact .there sl0 | exact .there sl1 | exact .there sl2 | exact .there sl3 | exact .there sl4 | exact .there sl5 | exact .there sl6 | exact .there sl7 | exact .there sl8 | exact .there sl9 | exact .there sl10 | exact .there sl11 | exact .there sl12) (.same _)))
  refine sb_sub h (by decide) (by omega) (by omega) fun y hy => ?_
  have h := (Ok.emb (h) (.cons (A := pts b1 _) (by with_reducible first | exact sl0 | exact .there sl0 | exact .there sl1 | exact .there sl2 | exact .there sl3 | exact .there sl4 | exact .there sl5 | exact .there sl6 | exact .there sl7 | exact .there sl8 | exact .there sl9 | exact .there sl10 | exact .there sl11 | exact .there sl12) (.same _)))
  have h := h.slcNew (n := 0) (sz := 1) rfl (by simp)
  have h := (Ok.emb (h) (.cons (A := slc 1 _ []) (by with_reducible first | exact sl0 | exact .there sl0 | exact .there sl1 | exact .there sl2 | exact .there sl3 | exact .there sl4 | exact .there sl5 | exact .there sl6 | exact .there sl7 | exact .there sl8 | exact .there sl9 | exact .there sl10 | exact .there sl11 | exact .there sl12) (.cons (A := slc 1 s _) (by with_reducible first | exact sl0 | exact .there sl0 | exact .there sl1 | exact .there sl2 | exact .there sl3 | exact .there sl4 | exact .there sl5 | exact .there sl6 | exact .there sl7 | exact .there sl8 | exact .there sl9 | exact .there sl10 | exact .there sl11 | exact .there sl12) (.same _))))
  refine ef.appendSub slT_s (by decide) h hy (by omega) (by dsimp only; omega) fun s2 w3 hl2 h => ?_
  have e1 : [] ++ (List.take ((s.len : Int).toNat * 1) (strs (l :: M))).drop ((1 : Int).toNat * 1) = strs M := by
    rw [Int.toNat_natCast, List.take_of_length_le (by rw [strs_len, List.length_cons]; omega)]; rfl
  rw [e1] at h
  (repeat (first | with_reducible refine dr.mk h fun _ h => ?_ | with_reducible refine nn.mk ?_ | ((first | with_reducible apply ldI.mk | with_reducible apply ldB.mk | with_reducible apply ldP.mk | with_reducible apply ldS.mk | with_reducible apply ldM.mk | with_reducible apply ldF.mk | with_reducible apply ldG.mk); (· exact (by refine Ok.cellS h (by with_reducible first | exact sl0 | exact .there sl0 | exact .there sl1 | exact .there sl2 | exact .there sl3 | exact .there sl4 | exact .there sl5 | exact .there sl6 | exact .there sl7 | exact .there sl8 | exact .there sl9 | exact .there sl10 | exact .there sl11 | exact .there sl12) ?_; rfl))) | (refine st1.mk (Ok.bring h (by with_reducible first | exact sl0 | exact .there sl0 | exact .there sl1 | exact .there sl2 | exact .there sl3 | exact .there sl4 | exact .there sl5 | exact .there sl6 | exact .there sl7 | exact .there sl8 | exact .there sl9 | exact .there sl10 | exact .there sl11 | exact .there sl12)) (by simp) fun _ h => ?_; dsimp only [List.set] at h)))
  have h := rr6I (u := u) (z := z) (M := M) (s := s2) (Ok.emb (h) (.cons (A := pts u _) (by with_reducible first | exact sl0 | exact .there sl0 | exact .there sl1 | exact .there sl2 | exact .there sl3 | exact .there sl4 | exact .there sl5 | exact .there sl6 | exact .there sl7 | exact .there sl8 | exact .there sl9 | exact .there sl10 | exact .there sl11 | exact .there sl12) (.cons (A := slc 1 s2 _) (by with_reducible first | exact sl0 | exact .there sl0 | exact .there sl1 | exact .there sl2 | exact .there sl3 | exact .there sl4 | exact .there sl5 | exact .there sl6 | exact .there sl7 | exact .there sl8 | exact .there sl9 | exact .there sl10 | exact .there sl11 | exact .there sl12) (.same _))))
  exact k1 l M rfl x _ hx ((Ok.emb (h) (.cons (A := slc 1 s _) (by with_reducible first | exact sl0 | exact .there sl0 | exact .there sl1 | exact .there sl2 | exact .there sl3 | exact .there sl4 | exact .there sl5 | exact .there sl6 | exact .there sl7 | exact .there sl8 | exact .there sl9 | exact .there sl10 | exact .there sl11 | exact .there sl12) (.cons (A := rdb x _) (by with_reducible first | exact sl0 | exact .there sl0 | exact .there sl1 | exact .there sl2 | exact .there sl3 | exact .there sl4 | exact .there sl5 | exact .there sl6 | exact .there sl7 | exact .there sl8 | exact .there sl9 | exact .there sl10 | exact .there sl11 | exact .there sl12) (.cons (A := rr6P u _ _) (by with_reducible first | exact sl0 | exact .there sl0 | exact .there sl1 | exact .there sl2 | exact .there sl3 | exact .there sl4 | exact .there sl5 | exact .there sl6 | exact .there sl7 | exact .there sl8 | exact .there sl9 | exact .there sl10 | exact .there sl11 | exact .there sl12) (.same _)))))).drop

end Go.Proofs.Ytjamgdepbjipdaa.B
