/- A law of layer 14: messages are kept in order. -/
import Derived.Test.YtiepcdoknmpemaaLaws14
import Derived.Test.YtiepcdoknmpemaaSorted
namespace Go.Proofs.Ytiepcdoknmpemaa.B
open Go
set_option linter.unusedVariables false

theorem BoxSorts_walk {e : World} {a0 : Bool} {a1 : Sl} {xs : List Int} (ha : ArgI .u8 e a1 xs) : sh3 a0 a1 (LawEnd e) e := by
  unfold sh3
  refine call7 (known_14 (Ok.start e) fun w1 h => ⟨(true, ()), enc_b rfl, ?_⟩)
  refine cs.no rfl ?_
  refine cs.mk (fun _ => ⟨rfl, h⟩) (fun hc => ?_)
  have hle : a1.len ≤ 60 := by have := of_decide_eq_false hc; omega
  refine call8 (New_mbx h (fun h1 => absurd (by decide) h1) fun _ b0 p w2 h => ⟨(some ⟨b0, 0, none⟩, (0 : Int), ()), rfl, ?_⟩)
  dsimp only
  refine lp.mk (fun t w' => ∃ l : List (Int × Int), ∃ n : Nat, t.1 = (n : Int) ∧ n ≤ a1.len ∧ l.length = n ∧ l.Pairwise (ordR a0) ∧ (∀ q ∈ l, ∃ j : Nat, j < n ∧ q.1 = (j : Int) + 1 ∧ ∃ x, xs[j]? = some x ∧ q.2 = 1 + x % 4) ∧ Ok e [boxP b0 p a0 255 l, lineP p [.bool false] [], old e] w')
    (fun t _ => a1.len - t.1.toNat) ⟨[], 0, rfl, Nat.zero_le _, rfl, List.Pairwise.nil, fun q hq => by simp at hq, h⟩ ?_
  clear h
  rintro ⟨i, _⟩ w3 ⟨l, n, hn, hn1, hlen, hs, hm, h⟩
  dsimp only at hn
  subst hn
  refine cs.mk (fun hlt => ?_) (fun hge => ?_)
  · have hlt : n < a1.len := by have := of_decide_eq_true hlt; dsimp only at this; omega
    refine ix_arg ha (by simp) (by simpa using hlt) fun b o x hx hc => ?_
    refine ldI.mk (hc _ ⟨_, h.p2⟩) ?_
    have hxr := ha.u8 (List.mem_of_getElem? hx)
    have hmod : Int.tmod x 4 = x % 4 := Int.tmod_eq_emod_of_nonneg hxr.1
    rw [hmod, w64_in (x := x % 4) (by omega) (by omega), w64_in (by omega) (by omega), w64_in (by omega) (by omega)]
    have hlow : ∀ q ∈ l, q.1 < (n : Int) + 1 := fun q hq => by
      obtain ⟨j, hj, hq1, _⟩ := hm q hq
      omega
    have hno : atI l ((n : Int) + 1) = -1 := atI_none fun q hq => by have := hlow q hq; omega
    have hnb : ¬ badMsg a0 255 ((n : Int) + 1) (1 + x % 4) := fun h3 => h3.elim (fun h4 => by omega) fun h4 => by have := h4.2; omega
    have hwt : sendM a0 255 l [] ((n : Int) + 1) (1 + x % 4) = ⟨0, 0, putL a0 l ((n : Int) + 1, 1 + x % 4), []⟩ := by
      unfold sendM
      rw [if_neg hnb, if_neg (by omega)]
    refine call9 (Send_mbx h (by omega) (by decide) fun w4 h => ⟨((0 : Int), (0 : Int), ()), by rw [hwt]; rfl, ?_⟩)
    rw [hwt] at h
    dsimp only
    refine jn.bool false (fun J hJ => cs.no rfl hJ) ?_
    refine cs.no rfl ?_
    refine ⟨⟨_, n + 1, rfl, hlt, by rw [putL_len, hlen], putL_ord hs hlow, fun q hq => ?_, h⟩, ?_⟩
    · rcases putL_mem.1 hq with rfl | hq
      · exact ⟨n, by omega, rfl, x, by simpa using hx, rfl⟩
      · obtain ⟨j, hj, hq1, hq2⟩ := hm q hq
        exact ⟨j, by omega, hq1, hq2⟩
    · show _ - Int.toNat ((n : Int) + 1) < _ - Int.toNat _
      omega
  · have hge : a1.len ≤ n := by have := of_decide_eq_false hge; dsimp only at this; omega
    have hna : n = a1.len := by omega
    refine lp.mk (fun t w' => ∃ l : List (Int × Int), ∃ z : Int × Int, ∃ n : Nat, t.1 = z.1 ∧ t.2.1 = (n : Int) ∧ n + l.length = a1.len ∧ l.Pairwise (ordR a0) ∧ (∀ q ∈ l, ∃ j : Nat, j < a1.len ∧ q.1 = (j : Int) + 1 ∧ ∃ x, xs[j]? = some x ∧ q.2 = 1 + x % 4) ∧
        (0 < n → (∀ q ∈ l, ordR a0 z q) ∧ ∃ j : Nat, j < a1.len ∧ z.1 = (j : Int) + 1 ∧ ∃ x, xs[j]? = some x ∧ z.2 = 1 + x % 4) ∧ Ok e [boxP b0 p a0 255 l, lineP p [.bool false] [], old e] w')
      (fun t _ => a1.len - t.2.1.toNat) ⟨l, (0, 0), 0, rfl, rfl, by omega, hs, fun q hq => ?_, fun h => absurd h (Nat.lt_irrefl _), h⟩ ?_
    · obtain ⟨j, hj, hq1, hq2⟩ := hm q hq
      exact ⟨j, by omega, hq1, hq2⟩
    rintro ⟨last, i, _⟩ w3 ⟨l, z, n, hz, hn, hn1, hs, hm, hprev, h⟩
    dsimp only at hz hn
    subst hz hn
    refine cs.mk (fun hlt => ?_) (fun hge => ?_)
    · have hlt : n < a1.len := by have := of_decide_eq_true hlt; dsimp only at this; omega
      cases l with
      | nil => simp at hn1; omega
      | cons x r =>
        refine call10 (Poll_mbx h (by omega) fun w4 h => ⟨(x.1, true, ()), rfl, ?_⟩)
        have h : Ok e [boxP b0 p a0 255 r, lineP p [.bool false] [], old e] w4 := h
        obtain ⟨j, hj, hx1, y, hy, hx2⟩ := hm x (List.mem_cons_self ..)
        dsimp only
        refine jn.bool false (fun J hJ => cs.no rfl ?_) ?_
        · rw [show decide (x.1 < 1) = false by simp; omega]
          exact hJ
        refine jn.bool false (fun J hJ => cs.no rfl ?_) ?_
        · rw [show decide (x.1 > (a1.len : Int)) = false by simp; omega]
          exact hJ
        refine cs.no rfl ?_
        refine jn.at () (fun w' => w4 = w') (fun J hJ => cs.mk (fun hpos => ?_) (fun _ => hJ _ rfl)) (fun w' hw => ?_)
        · have hpos : 0 < n := by have := of_decide_eq_true hpos; omega
          obtain ⟨hord, j0, hj0, hz1, y0, hy0, hz2⟩ := hprev hpos
          have hzx := hord x (List.mem_cons_self ..)
          rw [w64_in (by omega) (by omega)]
          refine ix_arg ha (by omega) (by omega) fun b o u hu hc => ldI.mk (hc _ ⟨_, h.p2⟩) ?_
          rw [show (z.1 - 1).toNat = j0 by omega, hy0] at hu
          cases hu
          rw [w64_in (by omega) (by omega)]
          refine ix_arg ha (by omega) (by omega) fun b o u hu hc => ldI.mk (hc _ ⟨_, h.p2⟩) ?_
          rw [show (x.1 - 1).toNat = j by omega, hy] at hu
          cases hu
          have hyr := ha.u8 (List.mem_of_getElem? hy)
          have hy0r := ha.u8 (List.mem_of_getElem? hy0)
          rw [Int.tmod_eq_emod_of_nonneg hyr.1, Int.tmod_eq_emod_of_nonneg hy0r.1]
          refine jn.bool false (fun J2 hJ2 => cs.mk (fun hb => ?_) (fun _ => hJ2)) ?_
          · subst hb
            have hzx : bef z x := by simpa [ordR] using hzx
            refine jn.bool false (fun J3 hJ3 => ?_) hJ2
            refine cs.no (by rcases hzx with hb | hb <;> simp <;> omega) ?_
            refine jn.bool false (fun J4 hJ4 => cs.mk (fun he => ?_) (fun _ => hJ4)) hJ3
            have he : y0 % 4 = y % 4 := by simpa using he
            rw [show decide (z.1 ≥ x.1) = false by rcases hzx with hb | hb <;> simp <;> omega]
            exact hJ4
          refine jn.bool false (fun J2 hJ2 => cs.no rfl ?_) ?_
          · refine jn.bool false (fun J3 hJ3 => cs.mk (fun hb => ?_) (fun _ => hJ3)) hJ2
            have hb : a0 = false := by simpa using hb
            subst hb
            have hzx : z.1 < x.1 := by simpa [ordR] using hzx
            rw [show decide (z.1 ≥ x.1) = false by simp; omega]
            exact hJ3
          exact cs.no rfl (hJ _ rfl)
        subst hw
        refine ⟨⟨r, x, n + 1, rfl, ?_, by simp at hn1; omega, (List.pairwise_cons.1 hs).2, fun q hq => hm q (List.mem_cons_of_mem _ hq), fun _ => ⟨(List.pairwise_cons.1 hs).1, j, hj, hx1, y, hy, hx2⟩, h⟩, ?_⟩
        · show w64 ((n : Int) + 1) = _
          rw [w64_in (by omega) (by omega)]; rfl
        · show _ - (w64 ((n : Int) + 1)).toNat < _ - Int.toNat (n : Int)
          rw [w64_in (by omega) (by omega)]
          omega
    · have hge : a1.len ≤ n := by have := of_decide_eq_false hge; dsimp only at this; omega
      have : l = [] := List.eq_nil_of_length_eq_zero (by omega)
      subst this
      refine call10 (Poll_mbx h (by decide) fun w4 h => ⟨((0 : Int), false, ()), rfl, ?_⟩)
      exact ⟨rfl, h.drop.drop⟩

end Go.Proofs.Ytiepcdoknmpemaa.B
