/- Contracts of the package mbx: sending, receiving, the row of messages. -/
import Derived.Test.YtiepcdoknmpemaaMbx
namespace Go.Proofs.Ytiepcdoknmpemaa.B
open Go
set_option linter.unusedVariables false

structure SendR where
  who : Int
  code : Int
  ms : List (Int × Int)
  l : List (Int × Int)

def badMsg (mp : Bool) (most msg pri : Int) : Prop := msg = 0 ∨ (mp = true ∧ (pri < 1 ∨ pri > most))

instance (mp : Bool) (most msg pri : Int) : Decidable (badMsg mp most msg pri) := by unfold badMsg; infer_instance

def sendM (mp : Bool) (most : Int) (ms l : List (Int × Int)) (msg pri : Int) : SendR :=
  if badMsg mp most msg pri then ⟨0, -17, ms, l⟩
  else if 0 ≤ atI ms msg then ⟨0, -41, ms, l⟩
  else match l with
    | x :: r => ⟨x.1, 0, ms, r⟩
    | [] => ⟨0, 0, putL mp ms (msg, pri), []⟩

theorem Contains_msg {e w L s l c id R} (h : Ok e (slc 2 s (prs l) :: pts c [.int .i64 id] :: L) w) (hb : l.length ≤ 2 ^ 31)
    (k : ∀ w', Ok e (slc 2 s (prs l) :: pts c [.int .i64 id] :: L) w' → R [.bool (decide (0 ≤ atI l id))] w') : sh26 s ⟨27, [], [.pointer (some ⟨c, 0, none⟩)]⟩ R w := by
  unfold sh26
  refine call48 (IndexFunc_msg h hb fun w1 h => ⟨(atI l id, ()), rfl, ?_⟩)
  exact k w1 h

theorem Send_mbx {e w L b p mp most byPri ms l msg pri R} (h : Ok e (boxP b p mp most ms :: lineP p [.bool byPri] l :: L) w) (hm : ms.length ≤ 2 ^ 20) (hb : l.length ≤ 2 ^ 20)
    (k : ∀ w', Ok e (boxP b p mp most (sendM mp most ms l msg pri).ms :: lineP p [.bool byPri] (sendM mp most ms l msg pri).l :: L) w' → R [.int .i64 (sendM mp most ms l msg pri).who, .int .i64 (sendM mp most ms l msg pri).code] w') : sh9 (some ⟨b, 0, none⟩) msg pri R w := by
  unfold sh9
  unfold sendM at k
  refine al.mk h fun c w1 h => ldI.mk (h.cell rfl) ?_
  have h0 := h
  obtain ⟨s, hs, h⟩ := boxE h.p1
  refine jn.bool (decide (badMsg mp most msg pri)) (fun J hJ => cs.mk (fun h1 => ?_) (fun h1 => ?_)) ?_
  · have h1 : msg = 0 := by simpa using h1
    rw [decide_eq_true (.inl h1)] at hJ
    exact hJ
  · have h1 : ¬ msg = 0 := by simpa using h1
    refine nn.mk (ldB.mk (h.cell rfl) ?_)
    refine jn.bool (decide (badMsg mp most msg pri)) (fun J2 hJ2 => cs.mk (fun h2 => ?_) (fun h2 => ?_)) hJ
    · subst h2
      refine jn.bool (decide (badMsg true most msg pri)) (fun J3 hJ3 => cs.mk (fun h3 => ?_) (fun h3 => ?_)) hJ2
      · have h3 := of_decide_eq_true h3
        rw [decide_eq_true (.inr ⟨rfl, .inl h3⟩)] at hJ3
        exact hJ3
      · have h3 := of_decide_eq_false h3
        refine nn.mk (ldI.mk (h.cell rfl) ?_)
        have hiff : pri > most ↔ badMsg true most msg pri := ⟨fun h4 => .inr ⟨rfl, .inr h4⟩, fun h4 => h4.elim (fun h5 => absurd h5 h1) fun h5 => h5.2.elim (fun h6 => absurd h6 h3) id⟩
        rw [show decide (pri > most) = decide (badMsg true most msg pri) from decide_eq_decide.2 hiff]
        exact hJ3
    · subst h2
      rw [decide_eq_false (fun h4 : badMsg false most msg pri => h4.elim h1 fun h5 => by cases h5.1)] at hJ2
      exact hJ2
  dsimp only
  refine cs.mk (fun h1 => ?_) (fun h1 => ?_)
  · rw [if_pos (of_decide_eq_true h1)] at k
    exact k w1 h0.drop
  rw [if_neg (of_decide_eq_false h1)] at k
  refine nn.mk (ldS.mk (h.cell rfl) ?_)
  refine call26 (a1 := ⟨27, [], [.pointer (some ⟨c, 0, none⟩)]⟩) (Contains_msg (c := c) (id := msg) (h.p1.p2.p1) (by omega) fun w2 h => ⟨(decide (0 ≤ atI ms msg), ()), rfl, ?_⟩)
  dsimp only
  have h : Ok e (pts b [.pointer (some ⟨p, 0, none⟩), .bool mp, .int .i64 most, vS s] :: slc 2 s (prs ms) :: pts c [.int .i64 msg] :: lineP p [.bool byPri] l :: L) w2 := h.p2
  refine cs.mk (fun h2 => ?_) (fun h2 => ?_)
  · rw [if_pos (of_decide_eq_true h2)] at k
    exact k w2 (boxI (s := s) h).p1.drop
  rw [if_neg (of_decide_eq_false h2)] at k
  refine nn.mk (ldP.mk (h.cell rfl) ?_)
  refine call28 (Take_order h.p3 hb fun w3 h => ⟨(((l.head?.getD (0, 0)).1, (l.head?.getD (0, 0)).2, ()), !l.isEmpty, ()), rfl, ?_⟩)
  refine al.mk h fun d w4 h => st1.mk h (by simp) fun w5 h => st1.mk h (by simp) fun w6 h => ?_
  have h := h
  dsimp only
  cases l with
  | cons x r =>
    refine cs.yes rfl (ldI.mk (h.cell rfl) (k w6 ?_))
    exact (boxI (s := s) h.drop.q2).p2.drop
  | nil =>
    refine cs.no rfl (nn.mk (ldS.mk (h.p2.cell rfl) ?_))
    have h : Ok e (pts b [.pointer (some ⟨p, 0, none⟩), .bool mp, .int .i64 most, vS s] :: slc 2 s (prs ms) :: pts c [.int .i64 msg] :: lineP p [.bool byPri] [] :: L) w6 := h.drop.q2.p3.p2.p2
    refine lp.mk (fun t w' => ∃ n : Nat, t.1 = (n : Int) ∧ n ≤ ms.length ∧ (if mp then pp ms pri n else n) = putK mp ms pri ∧ Ok e (pts b [.pointer (some ⟨p, 0, none⟩), .bool mp, .int .i64 most, vS s] :: slc 2 s (prs ms) :: pts c [.int .i64 msg] :: lineP p [.bool byPri] [] :: L) w')
      (fun t _ => t.1.toNat) ⟨ms.length, by rw [← hs], Nat.le_refl _, rfl, h⟩ ?_
    clear h
    rintro ⟨i, _⟩ w7 ⟨n, hn, hnl, hinv, h⟩
    dsimp only at hn
    subst hn
    refine nn.mk (ldB.mk (h.cell rfl) ?_)
    refine jn.bool (mp && decide (0 < n)) (fun J hJ => cs.mk (fun h3 => ?_) (fun h3 => ?_)) ?_
    · rw [h3, Bool.true_and] at hJ
      rw [show decide ((n : Int) > 0) = decide (0 < n) from decide_eq_decide.2 (by omega)]
      exact hJ
    · rw [h3] at hJ
      exact hJ
    refine jn.bool (mp && decide (0 < n) && decide (pri < (ms[n - 1]?.getD (0, 0)).2)) (fun J hJ => cs.mk (fun h3 => ?_) (fun h3 => ?_)) ?_
    · simp only [Bool.and_eq_true, decide_eq_true_eq] at h3
      refine nn.mk (ldS.mk (h.cell rfl) ?_)
      have hw : w64 ((n : Int) - 1) = ((n - 1 : Nat) : Int) := by rw [w64_in (by omega) (by omega)]; omega
      dsimp only
      rw [hw]
      refine ix_pr h.p1 (by omega) (by omega) fun b1 o1 q hq _ _ c1 c2 => ldI.mk (c2 _ ⟨_, h.p1⟩) ?_
      rw [Int.toNat_natCast] at hq
      simpa [h3.1, h3.2, hq] using hJ
    · simp only at h3
      rw [h3, Bool.false_and] at hJ
      exact hJ
    dsimp only
    refine cs.mk (fun h3 => ?_) (fun h3 => ?_)
    · simp only [Bool.and_eq_true, decide_eq_true_eq] at h3
      obtain ⟨m, rfl⟩ : ∃ m, n = m + 1 := ⟨n - 1, by omega⟩
      have hw : w64 (((m + 1 : Nat) : Int) - 1) = (m : Int) := by rw [w64_in (by omega) (by omega)]; omega
      rw [hw]
      refine ⟨⟨m, rfl, by omega, ?_, h⟩, ?_⟩
      · rw [← hinv, if_pos h3.1.1, if_pos h3.1.1]
        have h4 : pri < (ms[m]?.getD (0, 0)).2 := h3.2
        rw [show pp ms pri (m + 1) = if pri < (ms[m]?.getD (0, 0)).2 then pp ms pri m else m + 1 from rfl, if_pos h4]
      · show Int.toNat _ < Int.toNat _
        omega
    · have hnk : n = putK mp ms pri := by
        rw [← hinv]
        cases mp with
        | false => rfl
        | true =>
          rw [if_pos rfl]
          cases n with
          | zero => rfl
          | succ m =>
            simp at h3
            rw [show pp ms pri (m + 1) = if pri < (ms[m]?.getD (0, 0)).2 then pp ms pri m else m + 1 from rfl, if_neg (by omega)]
      refine dr.mk h fun w8 h => nn.mk (ldS.mk (h.cell rfl) (ldI.mk (h.p2.cell rfl) ?_))
      refine al.mk h fun d2 w9 h => ⟨h.p1.cell rfl, ?_⟩
      have h := (h.slcNew (n := 1) (sz := 2) rfl (by intro v hv; simp at hv; rcases hv with rfl | rfl <;> rfl)).p2.p1
      refine call29 (Insert_msg (y := (msg, pri)) (l := ms) h (by omega) (by omega) (by omega) fun s6 w10 h => ⟨(s6, ()), rfl, ?_⟩)
      dsimp only
      refine nn.mk (st1.mk h.p1 (by simp) fun w11 h => k w11 ?_)
      rw [Int.toNat_natCast, hnk] at h
      exact (boxI (s := s6) h).p1.drop

end Go.Proofs.Ytiepcdoknmpemaa.B
