/- Contracts of the laws' own queue. -/
import Derived.Test.YtjamgdepbjipdaaOrder3
import Derived.Test.YtjamgdepbjipdaaSep4
namespace Go.Proofs.Ytjamgdepbjipdaa.B
open Go
set_option linter.unusedVariables false

def refP (q : Nat) (byPri : Bool) (l : List (Int × Int)) : SP := fun h => ∃ s, oksH [pts q [.bool byPri, vS s], slc 2 s (prs l)] h

theorem refE {e w L q byPri l} (h : Ok e (refP q byPri l :: L) w) : ∃ s, s.len = l.length ∧ Ok e (pts q [.bool byPri, vS s] :: slc 2 s (prs l) :: L) w := by
  obtain ⟨s, h⟩ := h.exE
  have h := h.unpack
  exact ⟨s, slc_prs_len h.p1, h⟩

theorem refI {e w L q byPri l s} (h : Ok e (pts q [.bool byPri, vS s] :: slc 2 s (prs l) :: L) w) : Ok e (refP q byPri l :: L) w :=
  (Ok.pack (M := [pts q [.bool byPri, vS s], slc 2 s (prs l)]) h).imp fun k hk => ⟨s, hk⟩

theorem slT_item4 : SlT Pg 102 2 := .of (by kernel_rfl)

theorem At_ref4 {e w L q byPri l id R} (h : Ok e (refP q byPri l :: L) w) (hb : l.length ≤ 2 ^ 31) (k : R [.int .i64 (atI l id)] w) : sh47 (some ⟨q, 0, none⟩) id R w := by
  obtain ⟨s, hs, h⟩ := refE h
  unfold sh47
  refine lp.mk (fun t w' => ∃ n : Nat, t.1 = (n : Int) ∧ n ≤ l.length ∧ (∀ m, m < n → ∀ q, l[m]? = some q → q.1 ≠ id) ∧ w = w')
    (fun t _ => l.length - t.1.toNat) ⟨0, rfl, Nat.zero_le _, fun m hm => absurd hm (Nat.not_lt_zero _), rfl⟩ ?_
  rintro ⟨i, _⟩ w1 ⟨n, hn, hnl, hno, hw⟩
  dsimp only at hn
  subst hn hw
  refine nn.mk (ldS.mk (h.cell rfl) ?_)
  refine cs.mk (fun hlt => ?_) (fun hge => ?_)
  · have hlt : n < l.length := by have := of_decide_eq_true hlt; dsimp only at this; omega
    refine nn.mk (ldS.mk (h.cell rfl) ?_)
    refine ix_pr h.p1 (by simp) (by simpa using hlt) fun b o p hp ha ho hc1 hc2 => ?_
    refine ldI.mk (hc1 _ ⟨_, h.p1⟩) ?_
    have hp : l[n]? = some p := by simpa using hp
    refine cs.mk (fun he => ?_) (fun hne => ?_)
    · have he : p.1 = id := by simpa using he
      rw [atI_some hp he hno] at k
      exact k
    · have hne : p.1 ≠ id := by simpa using hne
      refine ⟨⟨n + 1, ?_, hlt, fun m hm q hq => ?_, rfl⟩, ?_⟩
      · show w64 _ = _
        rw [w64_in (by omega) (by omega)]; rfl
      · rcases Nat.lt_or_ge m n with hm' | hm'
        · exact hno m hm' q hq
        · have : m = n := by omega
          subst this
          rw [hp] at hq
          cases hq
          exact hne
      · show _ - (w64 _).toNat < _ - Int.toNat _
        rw [w64_in (by omega) (by omega)]
        omega
  · have hge : l.length ≤ n := by have := of_decide_eq_false hge; dsimp only at this; omega
    rw [atI_none fun p hp => by
      obtain ⟨m, hm, rfl⟩ := List.getElem_of_mem hp
      exact hno m (by omega) _ (List.getElem?_eq_getElem hm)] at k
    exact k

theorem put_tail4 {e w L q byPri l s x r} {R : List Value → World → Prop} {n : Nat} (h : Ok e (slc 2 r (prs (l.take n ++ [x])) :: pts q [.bool byPri, vS s] :: slc 2 s (prs l) :: L) w) (hn : n ≤ l.length) (hb : l.length ≤ 2 ^ 20)
    (kk : ∀ w', Ok e (refP q byPri (l.take n ++ [x] ++ l.drop n) :: L) w' → R [] w') :
    nn (some ⟨q, 0, none⟩) fun b28 o29 => ldS w b28 (o29 + 1) fun s30 => sb s30 (n : Int) s30.len s30.cap 2 fun s31 =>
    ef Pg (Builtin.append_ #[102, 102] 102 #[vS r, vS s31]) [kS] w fun (r32 : Sl × Unit) w33 =>
    nn (some ⟨q, 0, none⟩) fun b34 o35 => st1 w33 b34 (o35 + 1) (vS r32.1) fun w36 => R [] w36 := by
  have hs := slc_prs_len h.p2
  have hr := slc_prs_len h
  have htk : (l.take n).length = n := by rw [List.length_take]; omega
  simp only [List.length_append, htk, List.length_singleton] at hr
  refine nn.mk (ldS.mk (h.p1.cell rfl) ?_)
  refine sb_sub h.p2 (by omega) (by omega) (Int.le_refl _) fun y hy => ?_
  refine ef.appendSub slT_item4 (by decide) (h.p2.p1) hy (by omega) (by omega) fun r2 w2 hl2 h => ?_
  refine nn.mk (st1.mk h.p2 (by simp) fun w3 h => kk w3 ?_)
  refine refI (s := r2) ?_
  have e1 : ((prs l).take (((s.len : Int)).toNat * 2)).drop (((n : Int)).toNat * 2) = prs (l.drop n) := by
    rw [Int.toNat_natCast, Int.toNat_natCast, List.take_of_length_le (by rw [prs_len]; omega), prs_drop]
  rw [e1, ← prs_append] at h
  exact h.p2.drop

theorem one_item (x : Int × Int) : ∀ v ∈ [Value.int .i64 x.1, Value.int .i64 x.2], v.oneCell' = true := by
  intro v hv
  simp at hv
  rcases hv with rfl | rfl <;> rfl

theorem put_form (l : List (Int × Int)) (n : Nat) (x : Int × Int) : [] ++ ((prs l).take (((n : Int)).toNat * 2)).drop ((0 : Int).toNat * 2) ++ [Value.int .i64 x.1, Value.int .i64 x.2] = prs (l.take n ++ [x]) := by
  rw [prs_append, ← prs_take]
  simp [prs]

theorem put_mid4 {e w L q byPri l s x b1 bx y} {R : List Value → World → Prop} {d : Sl} {n : Nat} (h : Ok e (slc 2 d [] :: slc 2 s (prs l) :: pts q [.bool byPri, vS s] :: pts bx [.int .i64 x.1, .int .i64 x.2] :: pts b1 [.int .i64 x.1, .int .i64 x.2] :: L) w) (hn : n ≤ l.length) (hb : l.length ≤ 2 ^ 20)
    (hy : SubOf s 2 (0 : Int).toNat (n : Int).toNat y) (kk : ∀ w', Ok e (refP q byPri (l.take n ++ [x] ++ l.drop n) :: pts b1 [.int .i64 x.1, .int .i64 x.2] :: L) w' → R [] w') :
    ef Pg (Builtin.append_ #[102, 102] 102 #[vS d, vS y]) [kS] w fun (r39 : Sl × Unit) w40 =>
    (w40.cell? ⟨b1, 0, none⟩ = some (.int .i64 x.1) ∧ w40.cell? ⟨b1, 0 + 1, none⟩ = some (.int .i64 x.2)) ∧ (
    ef Pg (Builtin.append_ #[102, 102] 102 #[vS r39.1, vS ⟨some ⟨bx, 0, none⟩, 1, 1⟩]) [kS] w40 fun (r41 : Sl × Unit) w42 =>
    nn (some ⟨q, 0, none⟩) fun b28 o29 => ldS w42 b28 (o29 + 1) fun s30 => sb s30 (n : Int) s30.len s30.cap 2 fun s31 =>
    ef Pg (Builtin.append_ #[102, 102] 102 #[vS r41.1, vS s31]) [kS] w42 fun (r32 : Sl × Unit) w33 =>
    nn (some ⟨q, 0, none⟩) fun b34 o35 => st1 w33 b34 (o35 + 1) (vS r32.1) fun w36 => R [] w36) := by
  have hs := slc_prs_len h.p1
  have hd := h.slc_len
  simp only [List.length_nil] at hd
  refine ef.appendSub slT_item4 (by decide) h hy (by omega) (by omega) fun r2 w2 hl2 h => ?_
  refine ⟨⟨h.p4.cell rfl, h.p4.cell rfl⟩, ?_⟩
  refine ef.append1 (n := 1) slT_item4 (by decide) h.p3 rfl (one_item x) (by dsimp only; omega) fun r3 w3 hl3 h => ?_
  rw [put_form] at h
  exact put_tail4 h.p2.p1 hn hb fun w' h => kk w' h

theorem put_ref4 {e w L q byPri l R} {x : Int × Int} (h : Ok e (refP q byPri l :: L) w) (hb : l.length ≤ 2 ^ 20) (k : ∀ w', Ok e (refP q byPri (putL byPri l x) :: L) w' → R [] w') : sh74 (some ⟨q, 0, none⟩) (x.1, x.2, ()) R w := by
  unfold sh74
  refine al.mk h fun b1 w1 h => ?_
  obtain ⟨s, hs, h⟩ := refE h.p1
  have h : Ok e (pts q [.bool byPri, vS s] :: slc 2 s (prs l) :: pts b1 [.int .i64 x.1, .int .i64 x.2] :: L) w1 := h
  refine nn.mk (ldS.mk (h.cell rfl) (nn.mk (ldB.mk (h.cell rfl) ?_)))
  have hk := putK_le byPri l x.2
  refine jn.at ((putK byPri l x.2 : Int), ()) (fun w' => Ok e (pts q [.bool byPri, vS s] :: slc 2 s (prs l) :: pts b1 [.int .i64 x.1, .int .i64 x.2] :: L) w') (fun J hJ => ?_) (fun w2 h => ?_)
  · refine cs.mk (fun h1 => ?_) (fun h1 => ?_)
    · subst h1
      refine lp.mk (fun t w' => ∃ n : Nat, t.1 = (n : Int) ∧ n ≤ l.length ∧ pp l x.2 n = putK true l x.2 ∧ Ok e (pts q [.bool true, vS s] :: slc 2 s (prs l) :: pts b1 [.int .i64 x.1, .int .i64 x.2] :: L) w')
        (fun t _ => t.1.toNat) ⟨l.length, by rw [← hs], Nat.le_refl _, rfl, h⟩ ?_
      clear h
      rintro ⟨i, _⟩ w2 ⟨n, hn, hnl, hinv, h⟩
      dsimp only at hn
      subst hn
      refine dr.mk h fun w3 h => ?_
      refine jn.at (decide (0 < n) && decide (x.2 < (l[n - 1]?.getD (0, 0)).2), ()) (fun w' => w3 = w') (fun J2 hJ2 => ?_) (fun w4 hw => ?_)
      · have hJ2 := hJ2 _ rfl
        refine cs.mk (fun h2 => ?_) (fun h2 => ?_)
        · have h2 : 0 < n := by have := of_decide_eq_true h2; dsimp only at this; omega
          refine nn.mk (ldS.mk (h.cell rfl) ?_)
          have hw : w64 ((n : Int) - 1) = ((n - 1 : Nat) : Int) := by rw [w64_in (by omega) (by omega)]; omega
          dsimp only
          rw [hw]
          refine ix_pr h.p1 (by omega) (by omega) fun b o p hp ha ho hc1 hc2 => ?_
          refine ldI.mk (hc2 _ ⟨_, h.p1⟩) (ldI.mk (h.p2.cell rfl) ?_)
          rw [Int.toNat_natCast] at hp
          simpa [h2, hp] using hJ2
        · have h2 : ¬ 0 < n := by have := of_decide_eq_false h2; dsimp only at this; omega
          simpa [h2] using hJ2
      subst hw
      dsimp only
      refine cs.mk (fun h1 => ?_) (fun h1 => ?_)
      · simp only [Bool.and_eq_true, decide_eq_true_eq] at h1
        obtain ⟨m, rfl⟩ : ∃ m, n = m + 1 := ⟨n - 1, by omega⟩
        have hw : w64 (((m + 1 : Nat) : Int) - 1) = (m : Int) := by rw [w64_in (by omega) (by omega)]; omega
        rw [hw]
        refine ⟨⟨m, rfl, by omega, ?_, h⟩, ?_⟩
        · rw [← hinv]
          have h3 : x.2 < (l[m]?.getD (0, 0)).2 := h1.2
          rw [show pp l x.2 (m + 1) = if x.2 < (l[m]?.getD (0, 0)).2 then pp l x.2 m else m + 1 from rfl, if_pos h3]
        · show Int.toNat _ < Int.toNat _
          omega
      · have hnk : n = putK true l x.2 := by
          rw [← hinv]
          cases n with
          | zero => rfl
          | succ m =>
            simp at h1
            rw [show pp l x.2 (m + 1) = if x.2 < (l[m]?.getD (0, 0)).2 then pp l x.2 m else m + 1 from rfl, if_neg (by omega)]
        rw [hnk]
        exact hJ _ h
    · subst h1
      rw [show ((putK false l x.2 : Nat) : Int) = (s.len : Int) by rw [hs]; rfl] at hJ
      exact hJ _ h
  dsimp only
  refine dr.mk h fun w3 h => nn.mk (ldS.mk (h.cell rfl) ?_)
  have kk : ∀ w', Ok e (refP q byPri (l.take (putK byPri l x.2) ++ [x] ++ l.drop (putK byPri l x.2)) :: pts b1 [.int .i64 x.1, .int .i64 x.2] :: L) w' → R [] w' := fun w' h => k w' h.p1.drop
  refine sb_sub h.p1 (Int.le_refl _) (by omega) (by omega) fun y hy => ?_
  refine ldI.mk (h.p2.cell rfl) (ldI.mk (h.p2.cell rfl) ?_)
  refine ⟨?_, ?_⟩
  · refine al.mk h fun b2 w4 h => ⟨⟨h.p3.cell rfl, h.p3.cell rfl⟩, h.p1.cell rfl, ?_, ?_⟩
    · have h := (h.slcNew (n := 0) (sz := 2) rfl (by simp)).p2.p1
      have hd := h.slc_len
      refine ef.appendSub slT_item4 (by decide) h hy (by omega) (by simp only; omega) fun r2 w5 hl2 h => ?_
      simp only at hl2
      refine ⟨⟨h.p3.cell rfl, h.p3.cell rfl⟩, al.mk h fun b3 w6 h => ⟨h.p3.cell rfl, ?_⟩⟩
      refine ef.append1 (n := 1) slT_item4 (by decide) h rfl (one_item x) (by dsimp only; omega) fun r3 w7 hl3 h => ?_
      rw [put_form] at h
      exact put_tail4 h.p2.p1 hk hb kk
    · refine al.mk h fun b3 w5 h => ⟨h.p2.cell rfl, ?_⟩
      have h := (h.p1.slcNew (n := 0) (sz := 2) rfl (by simp))
      exact put_mid4 (d := ⟨some ⟨b2, 0, none⟩, 0, 0⟩) (bx := b3) (by exact h.p3.p1.p3.p2.p2) hk hb hy kk
  · refine al.mk h fun b3 w4 h => ⟨h.p1.cell rfl, ?_⟩
    refine al.mk h fun b2 w5 h => ⟨⟨h.p4.cell rfl, h.p4.cell rfl⟩, h.p2.cell rfl, ?_⟩
    have h := (h.slcNew (n := 0) (sz := 2) rfl (by simp))
    exact put_mid4 (d := ⟨some ⟨b2, 0, none⟩, 0, 0⟩) (bx := b3) (by exact h.p3.p1.p3.p2.p2) hk hb hy kk

theorem Good_ref4 {e w L id pri R} (h : Ok e L w) (k : R [.bool (decide (1 ≤ id ∧ id ≤ 16 ∧ 1 ≤ pri ∧ pri ≤ 16))] w) : sh46 id pri R w := by
  unfold sh46
  refine jn.bool (decide (1 ≤ id ∧ id ≤ 16)) (fun J hJ => cs.mk (fun h1 => ?_) (fun h1 => ?_)) ?_
  · simpa [show 1 ≤ id by simpa using h1] using hJ
  · simpa [show ¬ 1 ≤ id by simpa using h1] using hJ
  refine jn.bool (decide (1 ≤ id ∧ id ≤ 16 ∧ 1 ≤ pri)) (fun J hJ => cs.mk (fun h1 => ?_) (fun h1 => ?_)) ?_
  · have h1 := of_decide_eq_true h1
    simpa [h1] using hJ
  · have h1 := of_decide_eq_false h1
    rw [decide_eq_false (by omega)] at hJ
    exact hJ
  refine jn.bool (decide (1 ≤ id ∧ id ≤ 16 ∧ 1 ≤ pri ∧ pri ≤ 16)) (fun J hJ => cs.mk (fun h1 => ?_) (fun h1 => ?_)) k
  · have h1 := of_decide_eq_true h1
    simpa [h1] using hJ
  · have h1 := of_decide_eq_false h1
    rw [decide_eq_false (by omega)] at hJ
    exact hJ

theorem Add_ref4 {e w L q byPri l id pri R} (h : Ok e (refP q byPri l :: L) w) (hb : l.length ≤ 2 ^ 20) (k : ∀ w', Ok e (refP q byPri (addL byPri l id pri).2 :: L) w' → R [.int .i64 (addL byPri l id pri).1] w') : sh48 (some ⟨q, 0, none⟩) id pri R w := by
  unfold sh48
  unfold addL at k
  refine call46 (Good_ref4 h ⟨(decide (1 ≤ id ∧ id ≤ 16 ∧ 1 ≤ pri ∧ pri ≤ 16), ()), rfl, ?_⟩)
  dsimp only
  refine cs.mk (fun h1 => ?_) (fun h1 => ?_)
  · have h1 : ¬ (1 ≤ id ∧ id ≤ 16 ∧ 1 ≤ pri ∧ pri ≤ 16) := by rw [Bool.not_eq_true'] at h1; exact of_decide_eq_false h1
    rw [if_pos (by omega)] at k
    exact k w h
  · have h1 : 1 ≤ id ∧ id ≤ 16 ∧ 1 ≤ pri ∧ pri ≤ 16 := by simpa using h1
    rw [if_neg (by omega)] at k
    refine call47 (At_ref4 h (by omega) ⟨(atI l id, ()), rfl, ?_⟩)
    dsimp only
    refine cs.mk (fun h2 => ?_) (fun h2 => ?_)
    · rw [if_pos (of_decide_eq_true h2)] at k
      exact k w h
    · rw [if_neg (of_decide_eq_false h2)] at k
      refine call74 (a1 := (id, pri, ())) (put_ref4 (x := (id, pri)) h hb fun w2 h => ⟨(), rfl, ?_⟩)
      exact k w2 h

theorem Remove_ref4 {e w L q byPri l id R} (h : Ok e (refP q byPri l :: L) w) (hb : l.length ≤ 2 ^ 20) (k : ∀ w', Ok e (refP q byPri (rmL l id) :: L) w' → R [.bool (decide (0 ≤ atI l id))] w') : sh54 (some ⟨q, 0, none⟩) id R w := by
  unfold sh54
  refine call47 (At_ref4 h (by omega) ⟨(atI l id, ()), rfl, ?_⟩)
  dsimp only
  refine cs.mk (fun h0 => ?_) (fun h0 => ?_)
  · have h0 : atI l id < 0 := by simpa using h0
    have := k w (by rw [rmL, if_pos h0]; exact h)
    rw [show decide (0 ≤ atI l id) = false by simp; omega] at this
    exact this
  · have h0 : ¬ atI l id < 0 := by simpa using h0
    obtain ⟨hlt, p, hp, hp1⟩ := atI_lt (by omega : 0 ≤ atI l id)
    refine al.mk h fun b w1 h => ?_
    obtain ⟨s, hs, h⟩ := refE h.p1
    refine nn.mk (ldS.mk (h.cell rfl) ?_)
    refine sb_sub h.p1 (Int.le_refl _) (by omega) (by omega) fun y hy => ?_
    have h := (h.p2.slcNew (n := 0) (sz := 2) rfl (by simp)).p2.p1
    refine ef.appendSub slT_item4 (by decide) h hy (by omega) (by simp only; omega) fun r2 w5 hl2 h => ?_
    simp only at hl2
    refine nn.mk (ldS.mk (h.p2.cell rfl) ?_)
    rw [w64_in (by omega) (by omega)]
    refine sb_sub h.p1 (by omega) (by omega) (Int.le_refl _) fun z hz => ?_
    refine ef.appendSub slT_item4 (by decide) h hz (by omega) (by dsimp only; omega) fun r3 w6 hl3 h => ?_
    refine nn.mk (st1.mk h.p2 (by simp) fun w7 h => ?_)
    have e1 : [] ++ ((prs l).take ((atI l id).toNat * 2)).drop ((0 : Int).toNat * 2) ++ ((prs l).take (((s.len : Int)).toNat * 2)).drop ((atI l id + 1).toNat * 2) = prs (rmAt l (atI l id).toNat) := by
      rw [rmAt, prs_append, ← prs_take, ← prs_drop, Int.toNat_natCast, List.take_of_length_le (l := prs l) (i := s.len * 2) (by rw [prs_len]; omega), show (atI l id + 1).toNat = (atI l id).toNat + 1 by omega]
      simp
    rw [e1] at h
    have := k w7 (by rw [rmL, if_neg h0]; exact refI (s := r3) h.p2.drop)
    rw [show decide (0 ≤ atI l id) = true by simp; omega] at this
    exact this

theorem Change_ref4 {e w L q byPri l id pri R} (h : Ok e (refP q byPri l :: L) w) (hb : l.length ≤ 2 ^ 20) (k : ∀ w', Ok e (refP q byPri (chgL byPri l id pri).2 :: L) w' → R [.bool (chgL byPri l id pri).1] w') : sh56 (some ⟨q, 0, none⟩) id pri R w := by
  unfold sh56
  unfold chgL at k
  refine call47 (At_ref4 h (by omega) ⟨(atI l id, ()), rfl, ?_⟩)
  dsimp only
  refine jn.bool (decide (atI l id < 0 ∨ pri < 1)) (fun J hJ => cs.mk (fun h1 => ?_) (fun h1 => ?_)) ?_
  · have h1 := of_decide_eq_true h1
    rw [decide_eq_true (.inl h1)] at hJ
    exact hJ
  · have h1 := of_decide_eq_false h1
    simpa [h1] using hJ
  refine jn.bool (decide (atI l id < 0 ∨ pri < 1 ∨ pri > 16)) (fun J hJ => cs.mk (fun h1 => ?_) (fun h1 => ?_)) ?_
  · have h1 := of_decide_eq_true h1
    rw [decide_eq_true (by omega)] at hJ
    exact hJ
  · have h1 := of_decide_eq_false h1
    rw [show decide (pri > 16) = decide (atI l id < 0 ∨ pri < 1 ∨ pri > 16) from decide_eq_decide.2 (by omega)]
    exact hJ
  refine cs.mk (fun h1 => ?_) (fun h1 => ?_)
  · rw [if_pos (of_decide_eq_true h1)] at k
    exact k w h
  · have h1 := of_decide_eq_false h1
    rw [if_neg h1] at k
    obtain ⟨hlt, p, hp, hp1⟩ := atI_lt (by omega : 0 ≤ atI l id)
    have h0 := h
    obtain ⟨s, hs, h⟩ := refE h
    refine nn.mk (ldB.mk (h.cell rfl) ?_)
    refine cs.mk (fun h2 => ?_) (fun h2 => ?_)
    · subst h2
      rw [if_pos rfl] at k
      refine call54 (Remove_ref4 h0 hb fun w2 h => ⟨(decide (0 ≤ atI l id), ()), rfl, ?_⟩)
      have := rmL_len l id
      refine call74 (a1 := (id, pri, ())) (put_ref4 (x := (id, pri)) h (by omega) fun w3 h => ⟨(), rfl, ?_⟩)
      exact k w3 h
    · subst h2
      rw [if_neg (by simp)] at k
      refine al.mk h fun b w1 h => nn.mk (ldS.mk (h.p1.cell rfl) ?_)
      have h := (h.slcNew (n := 0) (sz := 2) rfl (by simp)).p2.p1
      refine ef.append2 slT_item4 (by decide) h (by simp only; omega) fun r2 w2 hl2 h => ?_
      rw [List.nil_append] at h
      refine nn.mk (st1.mk h.p2 (by simp) fun w3 h => nn.mk (ldS.mk (h.cell rfl) ?_))
      refine ix_pr h.p1 (by omega) (by omega) fun b o q' hq' ha ho hc1 hc2 => ?_
      obtain ⟨b', post, ha', hpp, hk⟩ := h.p1.slc_block (by have := h.p1.slcE.2.2.1; have := slc_prs_len h.p1; omega)
      rw [ha] at ha'
      cases ha'
      have hv := h.p1.slcE
      have hl3 := slc_prs_len h.p1
      have hlen := prs_len l
      refine st1.mk hk (by rw [List.length_append, hlen]; omega) fun w4 hk => ?_
      refine k w4 ?_
      rw [ho, List.set_append_left _ _ (by rw [hlen]; omega), prs_set hp, hp1] at hk
      refine refI (s := r2) (Ok.drop (Ok.p2 (Ok.p1 (Ok.slcI hk ha ?_ (prs_one _) hv.2.2.1 ?_))))
      · rw [prs_len, List.length_set]; omega
      · rw [prs_len, List.length_set]; rw [hlen] at hpp; exact hpp

theorem Take_ref4 {e w L q byPri l R} (h : Ok e (refP q byPri l :: L) w) (hb : l.length ≤ 2 ^ 20) (k : ∀ w', Ok e (refP q byPri l.tail :: L) w' → R [.agg #[.int .i64 (l.head?.getD (0, 0)).1, .int .i64 (l.head?.getD (0, 0)).2], .bool (!l.isEmpty)] w') : sh49 (some ⟨q, 0, none⟩) R w := by
  unfold sh49
  refine al.mk h fun b1 w1 h => ?_
  obtain ⟨s, hs, h⟩ := refE h.p1
  refine nn.mk (ldS.mk (h.cell rfl) ?_)
  refine cs.mk (fun h0 => ?_) (fun h0 => ?_)
  · have h0 : l = [] := List.eq_nil_of_length_eq_zero (by have : (s.len : Int) = 0 := by simpa using h0
                                                          omega)
    subst h0
    refine st1.mk h.p2 (by simp) fun w2 h => st1.mk h (by simp) fun w3 h => ?_
    refine ldI.mk (h.cell rfl) (ldI.mk (h.cell rfl) ?_)
    exact k w3 (refI h.drop)
  · have h0 : s.len ≠ 0 := by simpa using h0
    cases l with
    | nil => simp at hs; omega
    | cons x r =>
      refine nn.mk (ldS.mk (h.cell rfl) ?_)
      refine ix_pr h.p1 (by omega) (by simp) fun b o p hp ha ho hc1 hc2 => ?_
      simp at hp
      subst hp
      refine ldI.mk (hc1 _ ⟨_, h.p1⟩) (ldI.mk (hc2 _ ⟨_, h.p1⟩) ?_)
      refine al.mk h fun b2 w2 h => st1.mk h (by simp) fun w3 h => st1.mk h (by simp) fun w4 h => ?_
      have h : Ok e (pts b2 [.int .i64 x.1, .int .i64 x.2] :: _) w4 := h
      refine al.mk h fun b3 w5 h => nn.mk (ldS.mk (h.p2.cell rfl) ?_)
      refine sb_sub h.p3 (by omega) (by omega) (Int.le_refl _) fun y hy => ?_
      have h := (h.slcNew (n := 0) (sz := 2) rfl (by simp)).p3.p1
      refine ef.appendSub slT_item4 (by decide) h hy (by omega) (by simp only; omega) fun r2 w6 hl2 h => ?_
      refine nn.mk (st1.mk h.p3 (by simp) fun w7 h => ?_)
      refine ldI.mk (h.p3.cell rfl) (ldI.mk (h.p3.cell rfl) ?_)
      refine st1.mk h.p4 (by simp) fun w8 h => st1.mk h (by simp) fun w9 h => ?_
      refine ldI.mk (h.cell rfl) (ldI.mk (h.cell rfl) ?_)
      have e1 : [] ++ ((prs (x :: r)).take (((s.len : Int)).toNat * 2)).drop ((1 : Int).toNat * 2) = prs r := by
        rw [Int.toNat_natCast, List.take_of_length_le (by rw [prs_len]; omega)]
        rfl
      rw [e1] at h
      exact k w9 (refI (s := r2) h.drop.p1.p2.p1.p2.p2.drop.p2.drop)

end Go.Proofs.Ytjamgdepbjipdaa.B
