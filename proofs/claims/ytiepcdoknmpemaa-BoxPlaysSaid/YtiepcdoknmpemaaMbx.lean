/- Contracts of the package mbx. -/
import Derived.Test.YtiepcdoknmpemaaOrder3
import Derived.Test.YtiepcdoknmpemaaSep4
namespace Go.Proofs.Ytiepcdoknmpemaa.B
open Go
set_option linter.unusedVariables false

theorem slT_msg : SlT Pg 40 2 := .of (by kernel_rfl)

theorem Clone_msg {e w L s vs R} (h : Ok e (slc 2 s vs :: L) w) (hb : s.len ≤ 2 ^ 31) (k : ∀ s' w', s'.len = s.len → Ok e (slc 2 s' vs :: slc 2 s vs :: L) w' → R [vS s'] w') : sh42 s R w := by
  unfold sh42
  obtain ⟨hl, hv, hc, hcase⟩ := h.slcE
  refine cs.mk (fun hn => ?_) (fun hn => ?_)
  · rcases hcase with ⟨ha, hcap, hL⟩ | ⟨b, post, ha, hp, hk⟩
    · have h0 : s.len = 0 := by omega
      have : vs = [] := List.eq_nil_of_length_eq_zero (by rw [hl, h0])
      subst this
      exact k ⟨none, 0, 0⟩ w h0.symm (h.slcNil 2)
    · rw [ha] at hn; cases hn
  · refine al.mk h fun b w1 h1 => ?_
    have h2 := h1.slcNew (n := 0) (sz := 2) rfl (by simp)
    refine ef.append2 slT_msg (by decide) h2 (by simp only; omega) fun s' w2 hl2 h3 => ?_
    exact k s' w2 (by simpa using hl2) (by simpa using h3)

theorem ov_msg : OvT Pg 49 40 := ⟨Try.f49, 4, Try.func49, by kernel_rfl, by kernel_rfl, by kernel_rfl, by kernel_rfl⟩

theorem Delete_msg {e w L s l R} {i : Int} (h : Ok e (slc 2 s (prs l) :: L) w) (hi : 0 ≤ i) (hil : i < l.length) (hb : l.length ≤ 2 ^ 31)
    (k : ∀ s' w', Ok e (slc 2 s' (prs (l.take i.toNat ++ l.drop (i.toNat + 1))) :: L) w' → R [vS s'] w') : sh30 s i (i + 1) R w := by
  unfold sh30
  have hl := slc_prs_len h
  refine del_body slT_msg (by decide) h hi (by omega) (by omega) (by omega) fun s' w' _ h' => k s' w' ?_
  rw [prs_append, ← prs_take, ← prs_drop]
  rw [show (i + 1).toNat = i.toNat + 1 by omega] at h'
  exact h'

theorem Insert_msg {e w L s x l R} {i : Int} {y : Int × Int} (h : Ok e (slc 2 x (prs [y]) :: slc 2 s (prs l) :: L) w) (hi : 0 ≤ i) (hil : i ≤ l.length) (hb : l.length ≤ 2 ^ 30)
    (k : ∀ s' w', Ok e (slc 2 s' (prs (l.take i.toNat ++ [y] ++ l.drop i.toNat)) :: L) w' → R [vS s'] w') : sh29 s i x R w := by
  unfold sh29
  have hl := slc_prs_len h.p1
  have hx := slc_prs_len h
  simp only [List.length_singleton] at hx
  refine ins_body (ki := .i64) slT_msg (by kernel_rfl) ov_msg (by decide) h hi (by omega) (by omega) (by omega) fun s' w' _ h' => k s' w' ?_
  rw [prs_append, prs_append, ← prs_take, ← prs_drop]
  exact h'

theorem IndexFunc_msg {e w L s l c id R} (h : Ok e (slc 2 s (prs l) :: pts c [.int .i64 id] :: L) w) (hb : l.length ≤ 2 ^ 31)
    (k : ∀ w', Ok e (slc 2 s (prs l) :: pts c [.int .i64 id] :: L) w' → R [.int .i64 (atI l id)] w') : sh48 s ⟨27, [], [.pointer (some ⟨c, 0, none⟩)]⟩ R w := by
  unfold sh48
  have hl := slc_prs_len h
  refine lp.mk (fun t w' => ∃ n : Nat, t.1 = (n : Int) ∧ n ≤ l.length ∧ (∀ m, m < n → ∀ q, l[m]? = some q → q.1 ≠ id) ∧ Ok e (slc 2 s (prs l) :: pts c [.int .i64 id] :: L) w')
    (fun t _ => l.length - t.1.toNat) ⟨0, rfl, Nat.zero_le _, fun m hm => absurd hm (Nat.not_lt_zero _), h⟩ ?_
  rintro ⟨i, _⟩ w1 ⟨n, hn, hnl, hno, h⟩
  dsimp only at hn
  subst hn
  refine cs.mk (fun hlt => ?_) (fun hge => ?_)
  · have hlt : n < l.length := by have := of_decide_eq_true hlt; dsimp only at this; omega
    refine ix_pr h (by simp) (by simpa using hlt) fun b o p hp ha ho hc1 hc2 => ?_
    refine ldI.mk (hc1 _ ⟨_, h⟩) (ldI.mk (hc2 _ ⟨_, h⟩) ?_)
    refine ob.mk (by kernel_rfl) ?_
    have hp : l[n]? = some p := by simpa using hp
    refine call27 (a0 := (p.1, p.2, ())) (c0 := c) ?_
    unfold sh27
    refine al.mk h fun b1 w2 h => ?_
    refine ldI.mk (h.cell rfl) (ldI.mk (h.p2.cell rfl) ?_)
    refine ⟨(p.1 == id, ()), rfl, ?_⟩
    dsimp only
    refine cs.mk (fun he => ?_) (fun hne => ?_)
    · have he : p.1 = id := by simpa using he
      have := k w2 h.drop
      rw [atI_some hp he hno] at this
      exact this
    · have hne : p.1 ≠ id := by simpa using hne
      refine ⟨⟨n + 1, ?_, hlt, fun m hm q hq => ?_, h.drop⟩, ?_⟩
      · show w64 _ = _
        rw [w64_in (by omega) (by omega)]; rfl
      · rcases Nat.lt_or_ge m n with hm' | hm'
        · exact hno m hm' q hq
        · have : m = n := by omega
          subst this
          rw [hp] at hq
          cases hq
          exact hne
      · show _ - (w64 _).toNat < _ - Int.toNat _
        rw [w64_in (by omega) (by omega)]
        omega
  · have hge : l.length ≤ n := by have := of_decide_eq_false hge; dsimp only at this; omega
    have := k w1 h
    rw [atI_none fun p hp => by
      obtain ⟨m, hm, rfl⟩ := List.getElem_of_mem hp
      exact hno m (by omega) _ (List.getElem?_eq_getElem hm)] at this
    exact this

def boxP (b p : Nat) (mp : Bool) (most : Int) (ms : List (Int × Int)) : SP := fun h => ∃ s, oksH [pts b [.pointer (some ⟨p, 0, none⟩), .bool mp, .int .i64 most, vS s], slc 2 s (prs ms)] h

theorem boxE {e w L b p mp most ms} (h : Ok e (boxP b p mp most ms :: L) w) : ∃ s, s.len = ms.length ∧ Ok e (pts b [.pointer (some ⟨p, 0, none⟩), .bool mp, .int .i64 most, vS s] :: slc 2 s (prs ms) :: L) w := by
  obtain ⟨s, h⟩ := h.exE
  have h := h.unpack
  exact ⟨s, slc_prs_len h.p1, h⟩

theorem boxI {e w L b p mp most ms s} (h : Ok e (pts b [.pointer (some ⟨p, 0, none⟩), .bool mp, .int .i64 most, vS s] :: slc 2 s (prs ms) :: L) w) : Ok e (boxP b p mp most ms :: L) w :=
  (Ok.pack (M := [pts b [.pointer (some ⟨p, 0, none⟩), .bool mp, .int .i64 most, vS s], slc 2 s (prs ms)]) h).imp fun k hk => ⟨s, hk⟩

theorem New_mbx {e w L byPri mp most R} (h : Ok e L w) (k0 : ¬ (1 ≤ most ∧ most ≤ 255) → R [.pointer none, .int .i64 (-17)] w) (k1 : 1 ≤ most ∧ most ≤ 255 → ∀ b p w', Ok e (boxP b p mp most [] :: lineP p [.bool byPri] [] :: L) w' → R [.pointer (some ⟨b, 0, none⟩), .int .i64 0] w') : sh8 byPri mp most R w := by
  unfold sh8
  refine jn.bool (decide (¬ (1 ≤ most ∧ most ≤ 255))) (fun J hJ => cs.mk (fun h1 => ?_) (fun h1 => ?_)) ?_
  · have h1 := of_decide_eq_true h1
    rw [decide_eq_true (by omega)] at hJ
    exact hJ
  · have h1 := of_decide_eq_false h1
    rw [show decide (most > 255) = decide (¬ (1 ≤ most ∧ most ≤ 255)) from decide_eq_decide.2 (by omega)]
    exact hJ
  refine cs.mk (fun h1 => k0 (of_decide_eq_true h1)) (fun h1 => ?_)
  have h1 : 1 ≤ most ∧ most ≤ 255 := Decidable.not_not.1 (of_decide_eq_false h1)
  refine call25 (New_order h fun p w1 h => ⟨(some ⟨p, 0, none⟩, ()), rfl, ?_⟩)
  refine al.mk h fun b w2 h => k1 h1 b p w2 ?_
  exact boxI (s := ⟨none, 0, 0⟩) (h.slcNil 2).p1

theorem Poll_mbx {e w L b p mp most ms R} (h : Ok e (boxP b p mp most ms :: L) w) (hb : ms.length ≤ 2 ^ 20) (k : ∀ w', Ok e (boxP b p mp most ms.tail :: L) w' → R [.int .i64 (ms.head?.getD (0, 0)).1, .bool (!ms.isEmpty)] w') : sh10 (some ⟨b, 0, none⟩) R w := by
  unfold sh10
  have h0 := h
  obtain ⟨s, hs, h⟩ := boxE h
  refine nn.mk (ldS.mk (h.cell rfl) ?_)
  cases ms with
  | nil => exact cs.yes (by simp [hs]) (k w h0)
  | cons x r =>
    refine cs.no (by simp at hs ⊢; omega) ?_
    refine nn.mk (ldS.mk (h.cell rfl) ?_)
    refine ix_pr h.p1 (by omega) (by simp) fun c o q hq _ _ c1 c2 => ldI.mk (c1 _ ⟨_, h.p1⟩) ?_
    simp at hq
    subst hq
    refine nn.mk (ldS.mk (h.cell rfl) ?_)
    refine call30 (a1 := 0) (a2 := 1) (Delete_msg (i := 0) h.p1 (by omega) (by simp) (by omega) fun s2 w2 h => ⟨(s2, ()), rfl, ?_⟩)
    refine nn.mk (st1.mk h.p1 (by simp) fun w3 h => ?_)
    exact k w3 (boxI (s := s2) h)

end Go.Proofs.Ytiepcdoknmpemaa.B
