/- Contracts of order.Queue. -/
import Derived.Test.YtjamgdepbjipdaaOrder2
namespace Go.Proofs.Ytjamgdepbjipdaa.B
open Go
set_option linter.unusedVariables false

theorem put_order {e w L p byPri l R} {x : Int × Int} (h : Ok e (lineP p [.bool byPri] l :: L) w) (hb : l.length ≤ 2 ^ 20) (k : ∀ w', Ok e (lineP p [.bool byPri] (putL byPri l x) :: L) w' → R [] w') : sh64 (some ⟨p, 0, none⟩) (x.1, x.2, ()) R w := by
  unfold sh64
  refine al.mk h fun b1 w1 h => ?_
  obtain ⟨s, hs, h⟩ := lineE h.p1
  refine nn.mk (ldS.mk (h.cell rfl) ?_)
  refine lp.mk (fun t w' => ∃ n : Nat, t.1 = (n : Int) ∧ n ≤ l.length ∧ (if byPri then pp l x.2 n else n) = putK byPri l x.2 ∧ Ok e (pts p [vS s, .bool byPri] :: slc 2 s (prs l) :: pts b1 [.int .i64 x.1, .int .i64 x.2] :: L) w')
    (fun t _ => t.1.toNat) ⟨l.length, by rw [← hs], Nat.le_refl _, rfl, h⟩ ?_
  rintro ⟨i, _⟩ w2 ⟨n, hn, hnl, hinv, h⟩
  dsimp only at hn
  subst hn
  refine dr.mk h fun w3 h => ?_
  refine jn.at (byPri && decide (0 < n) && decide (x.2 < (l[n - 1]?.getD (0, 0)).2), ()) (fun w' => w3 = w') (fun J hJ => ?_) (fun w4 hw => ?_)
  · have hJ := hJ _ rfl
    refine nn.mk (ldB.mk (h.cell rfl) ?_)
    refine cs.mk (fun h1 => ?_) (fun h1 => ?_)
    · refine cs.mk (fun h2 => ?_) (fun h2 => ?_)
      · have h2 : 0 < n := by have := of_decide_eq_true h2; dsimp only at this; omega
        refine nn.mk (ldS.mk (h.cell rfl) ?_)
        have hw : w64 ((n : Int) - 1) = ((n - 1 : Nat) : Int) := by rw [w64_in (by omega) (by omega)]; omega
        dsimp only
        rw [hw]
        refine ix_pr h.p1 (by omega) (by omega) fun b o q hq ha ho hc1 hc2 => ?_
        refine ldI.mk (hc2 _ ⟨_, h.p1⟩) (ldI.mk (h.p2.cell rfl) ?_)
        rw [Int.toNat_natCast] at hq
        simpa [h1, h2, hq] using hJ
      · have h2 : ¬ 0 < n := by have := of_decide_eq_false h2; dsimp only at this; omega
        simpa [h1, h2] using hJ
    · simpa [h1] using hJ
  subst hw
  dsimp only
  refine cs.mk (fun h1 => ?_) (fun h1 => ?_)
  · simp only [Bool.and_eq_true, decide_eq_true_eq] at h1
    obtain ⟨m, rfl⟩ : ∃ m, n = m + 1 := ⟨n - 1, by omega⟩
    have hw : w64 (((m + 1 : Nat) : Int) - 1) = (m : Int) := by rw [w64_in (by omega) (by omega)]; omega
    rw [hw]
    refine ⟨⟨m, rfl, by omega, ?_, h⟩, ?_⟩
    · rw [← hinv, if_pos h1.1.1, if_pos h1.1.1]
      have h3 : x.2 < (l[m]?.getD (0, 0)).2 := h1.2
      rw [show pp l x.2 (m + 1) = if x.2 < (l[m]?.getD (0, 0)).2 then pp l x.2 m else m + 1 from rfl, if_pos h3]
    · show Int.toNat _ < Int.toNat _
      omega
  · have hnk : n = putK byPri l x.2 := by
      rw [← hinv]
      cases byPri with
      | false => rfl
      | true =>
        rw [if_pos rfl]
        cases n with
        | zero => rfl
        | succ m =>
          simp at h1
          rw [show pp l x.2 (m + 1) = if x.2 < (l[m]?.getD (0, 0)).2 then pp l x.2 m else m + 1 from rfl, if_neg (by omega)]
    refine dr.mk h fun w4 h => ?_
    refine nn.mk (ldS.mk (h.cell rfl) ?_)
    refine ldI.mk (h.p2.cell rfl) (ldI.mk (h.p2.cell rfl) ?_)
    refine al.mk h fun b2 w5 h => ?_
    refine ⟨h.p1.cell rfl, ?_⟩
    have h2 := (h.slcNew (n := 1) (sz := 2) rfl (by intro v hv; simp at hv; rcases hv with rfl | rfl <;> rfl)).p2.p1
    refine call83 (Insert_item (y := x) (l := l) h2 (by omega) (by omega) (by omega) fun s6 w6 h => ⟨(s6, ()), rfl, ?_⟩)
    dsimp only
    refine nn.mk (st1.mk h.p1 (by simp) fun w7 h => ?_)
    refine k w7 ?_
    have h := (lineI (rest := [.bool byPri]) h).p1.drop
    rw [Int.toNat_natCast, hnk] at h
    exact h

theorem may_order {e w L y R} (h : Ok e L w) (k : R [.bool (decide (1 ≤ y ∧ y ≤ 16))] w) : sh63 y R w := by
  unfold sh63
  refine jn.bool (decide (1 ≤ y ∧ y ≤ 16)) (fun J hJ => cs.mk (fun h1 => ?_) (fun h1 => ?_)) k
  · simpa [show 1 ≤ y by simpa using h1] using hJ
  · simpa [show ¬ 1 ≤ y by simpa using h1] using hJ

theorem Add_order {e w L p byPri l id pri R} (h : Ok e (lineP p [.bool byPri] l :: L) w) (hb : l.length ≤ 2 ^ 20) (k : ∀ w', Ok e (lineP p [.bool byPri] (addL byPri l id pri).2 :: L) w' → R [.int .i64 (addL byPri l id pri).1] w') : sh35 (some ⟨p, 0, none⟩) id pri R w := by
  unfold sh35
  unfold addL at k
  refine jn.bool (decide (id < 1) || decide (id > 16)) (fun J hJ => cs.mk (fun h1 => ?_) (fun h1 => ?_)) ?_
  · simpa [h1] using hJ
  · simpa [h1] using hJ
  dsimp only
  refine jn.bool (decide (id < 1 ∨ id > 16 ∨ pri < 1 ∨ pri > 16)) (fun J hJ => cs.mk (fun h1 => ?_) (fun h1 => ?_)) ?_
  · have h1 : id < 1 ∨ id > 16 := by simpa using h1
    rw [decide_eq_true (by omega)] at hJ
    exact hJ
  · have h1 : ¬ id < 1 ∧ ¬ id > 16 := by simpa using h1
    refine call63 (may_order h ⟨(decide (1 ≤ pri ∧ pri ≤ 16), ()), rfl, ?_⟩)
    dsimp only
    rw [show (!decide (1 ≤ pri ∧ pri ≤ 16)) = decide (id < 1 ∨ id > 16 ∨ pri < 1 ∨ pri > 16) by rw [← decide_not]; exact decide_eq_decide.2 (by omega)]
    exact hJ
  dsimp only
  refine cs.mk (fun h1 => ?_) (fun h1 => ?_)
  · have h1 := of_decide_eq_true h1
    rw [if_pos h1] at k
    exact k w h
  · have h1 := of_decide_eq_false h1
    rw [if_neg h1] at k
    refine nn.mk ?_
    refine call34 (Has_order h (by omega) fun w1 h => ⟨(decide (0 ≤ atI l id), ()), rfl, ?_⟩)
    dsimp only
    refine cs.mk (fun h2 => ?_) (fun h2 => ?_)
    · rw [if_pos (of_decide_eq_true h2)] at k
      exact k w1 h
    · rw [if_neg (of_decide_eq_false h2)] at k
      refine call64 (a1 := (id, pri, ())) (put_order (x := (id, pri)) h hb fun w2 h => ⟨(), rfl, ?_⟩)
      exact k w2 h

theorem Change_order {e w L p byPri l id pri R} (h : Ok e (lineP p [.bool byPri] l :: L) w) (hb : l.length ≤ 2 ^ 20) (k : ∀ w', Ok e (lineP p [.bool byPri] (chgL byPri l id pri).2 :: L) w' → R [.bool (chgL byPri l id pri).1] w') : sh55 (some ⟨p, 0, none⟩) id pri R w := by
  unfold sh55
  unfold chgL at k
  refine nn.mk ?_
  refine call62 (at_order h (by omega) fun w1 h => ⟨(atI l id, ()), rfl, ?_⟩)
  dsimp only
  refine jn.bool (decide (atI l id < 0 ∨ pri < 1 ∨ pri > 16)) (fun J hJ => cs.mk (fun h1 => ?_) (fun h1 => ?_)) ?_
  · have h1 := of_decide_eq_true h1
    rw [decide_eq_true (.inl h1)] at hJ
    exact hJ
  · have h1 := of_decide_eq_false h1
    refine call63 (may_order h ⟨(decide (1 ≤ pri ∧ pri ≤ 16), ()), rfl, ?_⟩)
    dsimp only
    rw [show (!decide (1 ≤ pri ∧ pri ≤ 16)) = decide (atI l id < 0 ∨ pri < 1 ∨ pri > 16) by rw [← decide_not]; exact decide_eq_decide.2 (by omega)]
    exact hJ
  dsimp only
  refine cs.mk (fun h1 => ?_) (fun h1 => ?_)
  · rw [if_pos (of_decide_eq_true h1)] at k
    exact k w1 h
  · have h1 := of_decide_eq_false h1
    rw [if_neg h1] at k
    obtain ⟨hlt, q, hq, hq1⟩ := atI_lt (by omega : 0 ≤ atI l id)
    have h0 := h
    obtain ⟨s, hs, h⟩ := lineE h
    refine nn.mk (ldB.mk (h.cell rfl) ?_)
    refine cs.mk (fun h2 => ?_) (fun h2 => ?_)
    · have h2 : byPri = false := by simpa using h2
      subst h2
      refine nn.mk (ldS.mk (h.cell rfl) ?_)
      refine ix_pr h.p1 (by omega) (by omega) fun b o q' hq' ha ho hc1 hc2 => ?_
      obtain ⟨b', post, ha', hp, hk⟩ := h.p1.slc_block (by have := h.p1.slcE.2.2.1; omega)
      rw [ha] at ha'
      cases ha'
      have hv := h.p1.slcE
      have hlen := prs_len l
      refine st1.mk hk (by rw [List.length_append, hlen]; omega) fun w2 hk => ?_
      rw [if_neg (by simp)] at k
      refine k w2 ?_
      rw [ho, List.set_append_left _ _ (by rw [hlen]; omega), prs_set hq, hq1] at hk
      refine lineI (s := s) (Ok.p1 (Ok.slcI hk ha ?_ (prs_one _) hv.2.2.1 ?_))
      · rw [prs_len, List.length_set]; omega
      · rw [prs_len, List.length_set]; rw [hlen] at hp; exact hp
    · have h2 : byPri = true := by simpa using h2
      subst h2
      rw [if_pos rfl] at k
      refine nn.mk ?_
      refine call53 (Remove_order h0 (by omega) fun w2 h => ⟨(decide (0 ≤ atI l id), ()), rfl, ?_⟩)
      have := rmL_len l id
      refine call64 (a1 := (id, pri, ())) (put_order (x := (id, pri)) h (by omega) fun w3 h => ⟨(), rfl, ?_⟩)
      exact k w3 h

theorem rmL_head (x : Int × Int) (l : List (Int × Int)) : rmL (x :: l) x.1 = l := by
  have : atI (x :: l) x.1 = 0 := atI_some (n := 0) (p := x) rfl rfl (fun m hm => absurd hm (Nat.not_lt_zero _))
  simp [rmL, this, rmAt]

theorem Take_order {e w L p byPri l R} (h : Ok e (lineP p [.bool byPri] l :: L) w) (hb : l.length ≤ 2 ^ 20) (k : ∀ w', Ok e (lineP p [.bool byPri] l.tail :: L) w' → R [.agg #[.int .i64 (l.head?.getD (0, 0)).1, .int .i64 (l.head?.getD (0, 0)).2], .bool (!l.isEmpty)] w') : sh39 (some ⟨p, 0, none⟩) R w := by
  unfold sh39
  refine al.mk h fun b1 w1 h => nn.mk ?_
  refine call68 (First_order h.p1 fun w2 h => ⟨(((l.head?.getD (0, 0)).1, (l.head?.getD (0, 0)).2, ()), !l.isEmpty, ()), rfl, ?_⟩)
  refine al.mk h fun b2 w3 h => ?_
  refine st1.mk h (by simp) fun w4 h => st1.mk h (by simp) fun w5 h => ?_
  dsimp only
  refine jn.at () (fun w' => Ok e (pts b2 [.int .i64 (l.head?.getD (0, 0)).1, .int .i64 (l.head?.getD (0, 0)).2] :: lineP p [.bool byPri] l.tail :: pts b1 [.int .i64 0, .int .i64 0] :: L) w') (fun J hJ => cs.mk (fun h1 => ?_) (fun h1 => ?_)) (fun w6 h => ?_)
  · refine dr.mk h fun w6 h => nn.mk (ldI.mk (h.cell rfl) ?_)
    cases l with
    | nil => simp at h1
    | cons x r =>
      refine call53 (Remove_order h.p1 (by omega) fun w7 h => ⟨(decide (0 ≤ atI (x :: r) x.1), ()), rfl, ?_⟩)
      rw [show rmL (x :: r) ((x :: r).head?.getD (0, 0)).1 = r from rmL_head x r] at h
      exact hJ _ h.p1
  · have : l = [] := by simpa using h1
    subst this
    exact hJ _ h
  · refine ldI.mk (h.cell rfl) (ldI.mk (h.cell rfl) ?_)
    refine st1.mk h.p2 (by simp) fun w7 h => st1.mk h (by simp) fun w8 h => ?_
    refine ldI.mk (h.cell rfl) (ldI.mk (h.cell rfl) ?_)
    exact k w8 h.drop.drop

theorem Twin_order {e w L p byPri l R} (h : Ok e (lineP p [.bool byPri] l :: L) w) (hb : l.length ≤ 2 ^ 20) (k : ∀ q w', Ok e (lineP q [.bool byPri] l :: lineP p [.bool byPri] l :: L) w' → R [.pointer (some ⟨q, 0, none⟩)] w') : sh59 (some ⟨p, 0, none⟩) R w := by
  unfold sh59
  refine dr.mk h fun w1 h => ?_
  obtain ⟨s, hs, h⟩ := lineE h
  refine nn.mk (ldS.mk (h.cell rfl) (nn.mk (ldB.mk (h.cell rfl) ?_)))
  refine call79 (Clone_item h.p1 (by omega) fun s1 w2 hl1 h => ⟨(s1, ()), rfl, ?_⟩)
  refine ⟨h.p2.cell rfl, ?_⟩
  refine al.mk h fun q w3 h => ?_
  exact k q w3 (lineI (s := s1) (rest := [.bool byPri]) (Ok.q2 (lineI (s := s) (rest := [.bool byPri]) h.p3.p3.p1)))

end Go.Proofs.Ytjamgdepbjipdaa.B
