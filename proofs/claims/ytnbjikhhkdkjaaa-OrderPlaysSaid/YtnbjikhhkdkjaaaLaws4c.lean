/- A law of layer 4: the two queues answer alike, whatever is done to both. -/
import Derived.Test.YtnbjikhhkdkjaaaLaws4a
import Derived.Test.YtnbjikhhkdkjaaaSame4
namespace Go.Proofs.Ytnbjikhhkdkjaaa.B
open Go
set_option linter.unusedVariables false

/-- how long the line at a place is -/
def lineMu (p : Nat) (w : World) : Nat := match w.cell? ⟨p, 0, none⟩ with
  | some (.slice _ n _) => n
  | _ => 0

theorem line_mu {e w L p rest l} (h : Ok e (lineP p rest l :: L) w) : lineMu p w = l.length := by
  obtain ⟨s, hs, h⟩ := lineE h
  have hc : w.cell? ⟨p, 0, none⟩ = some (vS s) := h.cell rfl
  unfold lineMu
  rw [hc]
  exact hs

theorem addL_len (byPri : Bool) (l : List (Int × Int)) (id pri : Int) : (addL byPri l id pri).2.length ≤ l.length + 1 := by
  unfold addL
  split
  · exact Nat.le_succ _
  · split
    · exact Nat.le_succ _
    · rw [putL_len]; exact Nat.le_refl _

theorem chgL_len (byPri : Bool) (l : List (Int × Int)) (id pri : Int) : (chgL byPri l id pri).2.length ≤ l.length + 1 := by
  unfold chgL
  split
  · exact Nat.le_succ _
  · split
    · rw [putL_len]; exact Nat.succ_le_succ (rmL_len ..)
    · simp

set_option maxHeartbeats 1000000 in
theorem OrderPlays_walk {e : World} {a0 : Bool} {a1 : Sl} {vs : List Value} (ha : ArgF [.i .i64, .i .i64, .i .i64] e a1 vs) : sh8 a0 a1 (LawEnd e) e := by
  unfold sh8
  refine call10 (known_4 (Ok.start e) fun w1 h => ⟨(true, ()), enc_b rfl, ?_⟩)
  refine cs.no rfl ?_
  refine cs.mk (fun _ => ⟨rfl, h⟩) (fun hc => ?_)
  have hle : a1.len ≤ 100 := by have := of_decide_eq_false hc; omega
  refine call11 (New_order h fun p w2 h => ⟨(some ⟨p, 0, none⟩, ()), rfl, ?_⟩)
  refine al.mk h fun q w3 h => ?_
  have h : Ok e [lineP p [.bool a0] [], refP q a0 [], old e] w3 := (refI (s := ⟨none, 0, 0⟩) (h.slcNil 2).p1).p1
  refine cs.no rfl ?_
  refine lp.mk (fun t w' => ∃ p l, ∃ n : Nat, t.1 = some ⟨p, 0, none⟩ ∧ t.2.1 = (n : Int) ∧ n ≤ a1.len ∧ l.length ≤ n ∧ Ok e [lineP p [.bool a0] l, refP q a0 l, old e] w')
    (fun t _ => a1.len - t.2.1.toNat) ⟨p, [], 0, rfl, rfl, Nat.zero_le _, Nat.le_refl _, h⟩ ?_
  clear h
  rintro ⟨t1, i, _⟩ w3 ⟨p, l, n, ht, hn, hn1, hlv, h⟩
  dsimp only at ht hn
  subst ht hn
  refine cs.mk (fun hlt => ?_) (fun hge => ⟨rfl, h.drop.drop⟩)
  have hlt : n < a1.len := by have := of_decide_eq_true hlt; dsimp only at this; omega
  obtain ⟨_, hv0, kd, rfl, _⟩ := ha.2 n hlt 0 _ rfl
  obtain ⟨_, hv1, id, rfl, _⟩ := ha.2 n hlt 1 _ rfl
  obtain ⟨_, hv2, pri, rfl, _⟩ := ha.2 n hlt 2 _ rfl
  refine ix_args ha.1 (by decide) (by simp) (by simpa using hlt) fun b1 o hh => ?_
  refine ldI.mk (hh 0 _ (by decide) (by simpa using hv0) _ ⟨_, h.p2⟩) ?_
  refine ldI.mk (hh 1 _ (by decide) (by simpa using hv1) _ ⟨_, h.p2⟩) ?_
  refine ldI.mk (hh 2 _ (by decide) (by simpa using hv2) _ ⟨_, h.p2⟩) ?_
  clear hh
  refine al.mk h fun c w4 h => st1.mk h (by simp) fun w5 h => st1.mk h (by simp) fun w6 h => st1.mk h (by simp) fun w7 h => ?_
  have h : Ok e [pts c [.int .i64 kd, .int .i64 id, .int .i64 pri], lineP p [.bool a0] l, refP q a0 l, old e] w7 := h
  refine ldI.mk (h.cell rfl) ?_
  refine jn.all (fun t w' => ∃ p l, t.1 = some ⟨p, 0, none⟩ ∧ l.length ≤ n + 1 ∧ Ok e [lineP p [.bool a0] l, refP q a0 l, old e] w') (fun J hJ => ?_) (fun t w' hw => ?_)
  · refine cs.mk (fun _ => ?_) (fun _ => ?_)
    · refine dr.mk h fun w8 h => ldI.mk (h.cell rfl) (ldI.mk (h.cell rfl) (ldI.mk (h.cell rfl) (ldI.mk (h.cell rfl) ?_)))
      refine call12 (Add_order h.p1 (by omega) fun w9 h => ⟨((addL a0 l id pri).1, ()), rfl, h.p1.cell rfl, h.p1.cell rfl, ?_⟩)
      refine call22 (Add_ref4 h.p2 (by omega) fun w10 h => ⟨((addL a0 l id pri).1, ()), rfl, ?_⟩)
      dsimp only
      refine cs.no (by simp) (hJ _ _ ⟨p, (addL a0 l id pri).2, rfl, Nat.le_trans (addL_len a0 l id pri) (by omega), h.p2.drop.p1⟩)
    refine jn.all (fun t w' => ∃ p l, t.1 = some ⟨p, 0, none⟩ ∧ l.length ≤ n + 1 ∧ Ok e [lineP p [.bool a0] l, refP q a0 l, old e] w') (fun J1 hJ1 => ?_) (fun t w' hw => hJ t w' hw)
    refine cs.mk (fun _ => ?_) (fun _ => ?_)
    · refine dr.mk h fun w8 h => nn.mk (ldI.mk (h.cell rfl) (ldI.mk (h.cell rfl) ?_))
      refine call20 (Remove_order h.p1 (by omega) fun w9 h => ⟨(decide (0 ≤ atI l id), ()), rfl, h.p1.cell rfl, ?_⟩)
      refine call23 (Remove_ref4 h.p2 (by omega) fun w10 h => ⟨(decide (0 ≤ atI l id), ()), rfl, ?_⟩)
      dsimp only
      refine cs.no (by simp) (hJ1 _ _ ⟨p, rmL l id, rfl, Nat.le_trans (rmL_len l id) (by omega), h.p2.drop.p1⟩)
    refine jn.all (fun t w' => ∃ p l, t.1 = some ⟨p, 0, none⟩ ∧ l.length ≤ n + 1 ∧ Ok e [lineP p [.bool a0] l, refP q a0 l, old e] w') (fun J2 hJ2 => ?_) (fun t w' hw => hJ1 t w' hw)
    refine cs.mk (fun _ => ?_) (fun _ => ?_)
    · refine dr.mk h fun w8 h => ldI.mk (h.cell rfl) (ldI.mk (h.cell rfl) (ldI.mk (h.cell rfl) (ldI.mk (h.cell rfl) ?_)))
      refine call14 (Change_order h.p1 (by omega) fun w9 h => ⟨((chgL a0 l id pri).1, ()), rfl, h.p1.cell rfl, h.p1.cell rfl, ?_⟩)
      refine call24 (Change_ref4 h.p2 (by omega) fun w10 h => ⟨((chgL a0 l id pri).1, ()), rfl, ?_⟩)
      dsimp only
      refine cs.no (by simp) (hJ2 _ _ ⟨p, (chgL a0 l id pri).2, rfl, Nat.le_trans (chgL_len a0 l id pri) (by omega), h.p2.drop.p1⟩)
    refine jn.all (fun t w' => ∃ p l, t.1 = some ⟨p, 0, none⟩ ∧ l.length ≤ n + 1 ∧ Ok e [lineP p [.bool a0] l, refP q a0 l, old e] w') (fun J3 hJ3 => ?_) (fun t w' hw => hJ2 t w' hw)
    refine cs.mk (fun _ => ?_) (fun _ => ?_)
    · refine call13 (Take_order h.p1 (by omega) fun w9 h => ⟨(((l.head?.getD (0, 0)).1, (l.head?.getD (0, 0)).2, ()), !l.isEmpty, ()), rfl, ?_⟩)
      have h := h.p1.drop
      refine al.mk h fun b2 w10 h => st1.mk h (by simp) fun w11 h => st1.mk h (by simp) fun w12 h => ?_
      refine call25 (Take_ref4 h.p2 (by omega) fun w9 h => ⟨(((l.head?.getD (0, 0)).1, (l.head?.getD (0, 0)).2, ()), !l.isEmpty, ()), rfl, ?_⟩)
      refine al.mk h fun b3 w10 h => st1.mk h (by simp) fun w11 h => st1.mk h (by simp) fun w12 h => ?_
      refine ldI.mk (h.p2.cell rfl) (ldI.mk (h.cell rfl) ?_)
      dsimp only
      refine jn.bool false (fun J hJ => ?_) ?_
      · refine cs.no (by simp) (ldI.mk (h.p2.cell rfl) (ldI.mk (h.cell rfl) ?_))
        simpa using hJ
      refine jn.bool false (fun J hJ => ?_) ?_
      · refine cs.no rfl ?_
        simpa using hJ
      refine cs.no rfl (hJ3 _ _ ⟨p, l.tail, rfl, by rw [List.length_tail]; omega, h.drop.p1.drop.p1⟩)
    refine jn.all (fun t w' => ∃ p l, t.1 = some ⟨p, 0, none⟩ ∧ l.length ≤ n + 1 ∧ Ok e [lineP p [.bool a0] l, refP q a0 l, old e] w') (fun J4 hJ4 => ?_) (fun t w' hw => hJ3 t w' hw)
    refine cs.mk (fun _ => ?_) (fun _ => hJ4 _ _ ⟨p, l, rfl, by omega, h.drop⟩)
    refine call26 (Twin_order h.p1 (by omega) fun p2 w9 h => ⟨(some ⟨p2, 0, none⟩, ()), rfl, ?_⟩)
    refine cs.no rfl ?_
    refine lp.mk (fun t w' => ∃ l2 : List (Int × Int), l2.length ≤ 100 ∧ Ok e [lineP p [.bool a0] l2, lineP p2 [.bool a0] l, refP q a0 l, old e] w') (fun t w' => lineMu p w') ⟨l, by omega, h.p2.drop.p1⟩ ?_
    clear h
    rintro ⟨⟩ w10 ⟨l2, hl2, h⟩
    refine nn.mk ?_
    refine call15 (Len_order h ⟨((l2.length : Int), ()), rfl, ?_⟩)
    dsimp only
    refine cs.mk (fun hg => ?_) (fun _ => hJ4 _ _ ⟨p2, l, rfl, by omega, h.drop⟩)
    have hm := line_mu h
    cases l2 with
    | nil => cases hg
    | cons x r =>
      refine call13 (Take_order h (by omega) fun w11 h => ⟨((x.1, x.2, ()), true, ()), rfl, ?_⟩)
      refine al.mk h fun b2 w12 h => st1.mk h (by simp) fun w13 h => st1.mk h (by simp) fun w14 h => ?_
      refine cs.no rfl ⟨⟨r, by simp at hl2; omega, h.drop⟩, ?_⟩
      show lineMu p _ < lineMu p _
      rw [hm, line_mu h.drop]
      simp
  · obtain ⟨p, l, ht, hl, h⟩ := hw
    obtain ⟨t1, _⟩ := t
    dsimp only at ht
    subst ht
    refine call27 (Same_4 h (by omega) fun w9 h => ⟨(true, ()), rfl, ?_⟩)
    refine cs.no rfl ?_
    refine ⟨⟨p, l, n + 1, rfl, ?_, hlt, hl, h⟩, ?_⟩
    · show w64 ((n : Int) + 1) = _
      rw [w64_in (by omega) (by omega)]; rfl
    · show _ - (w64 ((n : Int) + 1)).toNat < _ - Int.toNat (n : Int)
      rw [w64_in (by omega) (by omega)]
      omega

end Go.Proofs.Ytnbjikhhkdkjaaa.B
