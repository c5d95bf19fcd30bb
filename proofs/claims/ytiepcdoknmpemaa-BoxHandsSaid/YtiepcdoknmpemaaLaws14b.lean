/- A law of layer 14: messages go to those that wait, in order, and the rest is kept. -/
import Derived.Test.YtiepcdoknmpemaaLaws14
import Derived.Test.YtiepcdoknmpemaaSorted
namespace Go.Proofs.Ytiepcdoknmpemaa.B
open Go
set_option linter.unusedVariables false

def whoL (byPri : Bool) (n : Nat) : List Int := if byPri then (List.range n).reverse.map (fun (i : Nat) => (i : Int) + 1) else (List.range n).map (fun (i : Nat) => (i : Int) + 1)

theorem whoL_len (byPri : Bool) (n : Nat) : (whoL byPri n).length = n := by unfold whoL; split <;> simp

theorem whoL_get {byPri : Bool} {n m : Nat} (h : m < n) : (whoL byPri n)[m]? = some (if byPri then (n : Int) - m else (m : Int) + 1) := by
  unfold whoL
  split
  · rw [List.getElem?_map, List.getElem?_reverse (by simpa using h)]
    simp only [List.length_range]
    rw [List.getElem?_range (by omega)]
    simp only [Option.map_some, Option.some.injEq]
    omega
  · rw [List.getElem?_map, List.getElem?_range h]; rfl

theorem whoL_put {byPri : Bool} {n : Nat} {l : List (Int × Int)} (hl : l.map Prod.fst = whoL byPri n) (hp : ∀ q ∈ l, 17 - (n : Int) ≤ q.2) : (putL byPri l ((n : Int) + 1, 17 - ((n : Int) + 1))).map Prod.fst = whoL byPri (n + 1) := by
  cases byPri with
  | false =>
    have : putL false l ((n : Int) + 1, 17 - ((n : Int) + 1)) = l ++ [((n : Int) + 1, 17 - ((n : Int) + 1))] := by simp [putL, putK]
    rw [this, List.map_append, hl]
    simp [whoL, List.range_succ]
  | true =>
    have hk : putK true l (17 - ((n : Int) + 1)) = 0 := by
      obtain ⟨s1, s2⟩ := pp_spec l (17 - ((n : Int) + 1)) l.length
      show pp l (17 - ((n : Int) + 1)) l.length = 0
      have hle := pp_le l (17 - ((n : Int) + 1)) l.length
      generalize pp l (17 - ((n : Int) + 1)) l.length = K at *
      rcases Nat.eq_zero_or_pos K with h0 | h0
      · exact h0
      · have h1 := s2 h0
        rw [List.getElem?_eq_getElem (by omega)] at h1
        simp only [Option.getD_some] at h1
        have := hp _ (List.getElem_mem (l := l) (n := K - 1) (by omega))
        omega
    have : putL true l ((n : Int) + 1, 17 - ((n : Int) + 1)) = ((n : Int) + 1, 17 - ((n : Int) + 1)) :: l := by simp [putL, hk]
    rw [this, List.map_cons, hl]
    simp [whoL, List.range_succ]

theorem BoxHands_walk {e : World} {a0 a1 : Int} {a2 : Bool} (_ : (Lit.int .i64 a0).wf = true) (_ : (Lit.int .i64 a1).wf = true) : sh5 a0 a1 a2 (LawEnd e) e := by
  unfold sh5
  refine call7 (known_14 (Ok.start e) fun w1 h => ⟨(true, ()), enc_b rfl, ?_⟩)
  refine cs.no rfl ?_
  refine jn.bool (decide (a0 < 0 ∨ a0 > 16)) (fun J hJ => cs.mk (fun h1 => ?_) (fun h1 => ?_)) ?_
  · have h1 := of_decide_eq_true h1
    rw [decide_eq_true (.inl h1)] at hJ
    exact hJ
  · have h1 := of_decide_eq_false h1
    rw [show decide (a0 > 16) = decide (a0 < 0 ∨ a0 > 16) from decide_eq_decide.2 (by omega)]
    exact hJ
  refine jn.bool (decide (a0 < 0 ∨ a0 > 16 ∨ a1 < 0)) (fun J hJ => cs.mk (fun h1 => ?_) (fun h1 => ?_)) ?_
  · have h1 := of_decide_eq_true h1
    rw [decide_eq_true (by omega)] at hJ
    exact hJ
  · have h1 := of_decide_eq_false h1
    rw [show decide (a1 < 0) = decide (a0 < 0 ∨ a0 > 16 ∨ a1 < 0) from decide_eq_decide.2 (by omega)]
    exact hJ
  refine jn.bool (decide (a0 < 0 ∨ a0 > 16 ∨ a1 < 0 ∨ a1 > 40)) (fun J hJ => cs.mk (fun h1 => ?_) (fun h1 => ?_)) ?_
  · have h1 := of_decide_eq_true h1
    rw [decide_eq_true (by omega)] at hJ
    exact hJ
  · have h1 := of_decide_eq_false h1
    rw [show decide (a1 > 40) = decide (a0 < 0 ∨ a0 > 16 ∨ a1 < 0 ∨ a1 > 40) from decide_eq_decide.2 (by omega)]
    exact hJ
  refine cs.mk (fun _ => ⟨rfl, h⟩) (fun hc => ?_)
  have hc := of_decide_eq_false hc
  obtain ⟨W, rfl⟩ : ∃ W : Nat, a0 = W := ⟨a0.toNat, by omega⟩
  obtain ⟨M, rfl⟩ : ∃ M : Nat, a1 = M := ⟨a1.toNat, by omega⟩
  refine call8 (New_mbx h (fun h0 => absurd (by decide) h0) fun _ b p w2 h => ⟨(some ⟨b, 0, none⟩, (0 : Int), ()), rfl, ?_⟩)
  dsimp only
  refine lp.mk (fun t w' => ∃ l : List (Int × Int), ∃ n : Nat, @Eq Int t.1 ((n : Int) + 1) ∧ n ≤ W ∧ l.map Prod.fst = whoL a2 n ∧ (∀ q ∈ l, 17 - (n : Int) ≤ q.2) ∧ Ok e [boxP b p false 1 [], lineP p [.bool a2] l, old e] w')
    (fun t _ => W + 1 - t.1.toNat) ⟨[], 0, rfl, Nat.zero_le _, by cases a2 <;> rfl, fun q hq => by simp at hq, h⟩ ?_
  clear h
  rintro ⟨(i : Int), _⟩ w3 ⟨l, n, hn, hn1, hl, hp, h⟩
  dsimp only at hn
  subst hn
  have hlen : l.length = n := by have := congrArg List.length hl; rw [whoL_len] at this; simpa using this
  refine cs.mk (fun hlt => ?_) (fun hge => ?_)
  · have hlt : n < W := by have := of_decide_eq_true hlt; dsimp only at this; omega
    dsimp only
    rw [w64_in (x := 17 - ((n : Int) + 1)) (by omega) (by omega), w64_in (x := (n : Int) + 1 + 1) (by omega) (by omega)]
    have hno : atI l ((n : Int) + 1) = -1 := atI_none fun q hq => by
      have : q.1 ∈ l.map Prod.fst := List.mem_map_of_mem hq
      rw [hl] at this
      obtain ⟨m, hm, hm2⟩ := List.getElem_of_mem this
      rw [whoL_len] at hm
      have h5 := whoL_get (byPri := a2) hm
      rw [List.getElem?_eq_getElem (by rw [whoL_len]; exact hm), hm2] at h5
      simp only [Option.some.injEq] at h5
      rw [h5]
      split <;> omega
    have he : recvM a2 [] l ((n : Int) + 1) (17 - ((n : Int) + 1)) = ⟨0, false, 0, [], putL a2 l ((n : Int) + 1, 17 - ((n : Int) + 1))⟩ := by
      unfold recvM addL; simp only; rw [if_neg (by omega), if_neg (by omega)]
    refine call12 (Recv_mbx h (by decide) (by omega) fun w4 h => ⟨((0 : Int), false, (0 : Int), ()), by rw [he]; rfl, ?_⟩)
    rw [he] at h
    refine jn.bool false (fun J hJ => cs.no rfl hJ) ?_
    refine cs.no rfl ⟨⟨_, n + 1, rfl, hlt, whoL_put hl hp, fun q hq => ?_, h⟩, ?_⟩
    · rcases putL_mem.1 hq with rfl | hq
      · simp only; omega
      · have := hp q hq; omega
    · show W + 1 - Int.toNat ((n : Int) + 1 + 1) < W + 1 - Int.toNat ((n : Int) + 1)
      omega
  have hnW : n = W := by have := of_decide_eq_false hge; dsimp only at this; omega
  subst hnW
  clear hge hn1
  refine lp.mk (fun t w' => ∃ l ms : List (Int × Int), ∃ m : Nat, @Eq Int t.1 ((m : Int) + 1) ∧ m ≤ M ∧ l.map Prod.fst = (whoL a2 n).drop m ∧ ms.length = m - n ∧ (∀ q ∈ ms, q.1 ≤ m) ∧ Ok e [boxP b p false 1 ms, lineP p [.bool a2] l, old e] w')
    (fun t _ => M + 1 - t.1.toNat) ⟨l, [], 0, rfl, Nat.zero_le _, hl, by simp, fun q hq => by simp at hq, h⟩ ?_
  clear h hl hp hlen l
  rintro ⟨(i : Int), _⟩ w4 ⟨l, ms, m, hm, hm1, hl, hms, hid, h⟩
  dsimp only at hm
  subst hm
  have hlen : l.length = n - m := by have := congrArg List.length hl; rw [List.length_drop, whoL_len] at this; simpa using this
  refine cs.mk (fun hlt => ?_) (fun hge => ?_)
  · have hlt : m < M := by have := of_decide_eq_true hlt; dsimp only at this; omega
    have hmu : M + 1 - Int.toNat ((m : Int) + 1 + 1) < M + 1 - Int.toNat ((m : Int) + 1) := by omega
    dsimp only
    rw [w64_in (x := (m : Int) + 1 + 1) (by omega) (by omega)]
    have hno : atI ms ((m : Int) + 1) = -1 := atI_none fun q hq => by have := hid q hq; omega
    have hnb : ¬ badMsg false 1 ((m : Int) + 1) 0 := fun h3 => h3.elim (fun h4 => by omega) fun h4 => by cases h4.1
    refine call9 (Send_mbx h (by omega) (by omega) fun w5 h => ⟨((sendM false 1 ms l ((m : Int) + 1) 0).who, (sendM false 1 ms l ((m : Int) + 1) 0).code, ()), rfl, ?_⟩)
    dsimp only
    cases l with
    | cons x r =>
      have he : sendM false 1 ms (x :: r) ((m : Int) + 1) 0 = ⟨x.1, 0, ms, r⟩ := by unfold sendM; rw [if_neg hnb, if_neg (by omega)]
      rw [he] at h ⊢
      have hmn : m < n := by simp at hlen; omega
      have hx : x.1 = (if a2 then (n : Int) - m else (m : Int) + 1) ∧ r.map Prod.fst = (whoL a2 n).drop (m + 1) := by
        rw [List.drop_eq_getElem_cons (by rw [whoL_len]; exact hmn)] at hl
        simp only [List.map_cons, List.cons.injEq] at hl
        refine ⟨?_, hl.2⟩
        have h5 := whoL_get (byPri := a2) hmn
        rw [List.getElem?_eq_getElem (by rw [whoL_len]; exact hmn)] at h5
        simp only [Option.some.injEq] at h5
        rw [hl.1, h5]
      refine jn.at (x.1, ()) (fun w' => w5 = w') (fun J hJ => cs.yes (by simp; omega) ?_) (fun w' hw => ?_)
      · refine jn.at (x.1, ()) (fun w' => w5 = w') (fun J2 hJ2 => cs.mk (fun hb => ?_) (fun hb => ?_)) (fun w' hw => hJ _ hw)
        · rw [w64_in (x := (n : Int) + 1) (by omega) (by omega), w64_in (by omega) (by omega)]
          have := hx.1
          rw [hb, if_pos rfl] at this
          rw [show (n : Int) + 1 - ((m : Int) + 1) = x.1 by omega]
          exact hJ2 _ rfl
        · have := hx.1
          rw [hb, if_neg (by simp)] at this
          rw [← this]
          exact hJ2 _ rfl
      subst hw
      refine jn.bool false (fun J hJ => cs.no (by simp) hJ) ?_
      exact cs.no rfl ⟨⟨r, ms, m + 1, rfl, hlt, hx.2, by omega, fun q hq => by have := hid q hq; omega, h⟩, hmu⟩
    | nil =>
      have hmn : n ≤ m := by simp at hlen; omega
      have he : sendM false 1 ms [] ((m : Int) + 1) 0 = ⟨0, 0, ms ++ [((m : Int) + 1, 0)], []⟩ := by unfold sendM; rw [if_neg hnb, if_neg (by omega)]; simp [putL, putK]
      rw [he] at h ⊢
      refine jn.at ((0 : Int), ()) (fun w' => w5 = w') (fun J hJ => cs.no (by simp; omega) (hJ _ rfl)) (fun w' hw => ?_)
      subst hw
      refine jn.bool false (fun J hJ => cs.no rfl hJ) ?_
      refine cs.no rfl ⟨⟨[], _, m + 1, rfl, hlt, ?_, by rw [List.length_append, hms]; simp; omega, fun q hq => ?_, h⟩, hmu⟩
      · rw [List.drop_eq_nil_of_le (by rw [whoL_len]; omega)]; rfl
      · rcases List.mem_append.1 hq with hq | hq
        · have := hid q hq; omega
        · simp only [List.mem_singleton] at hq
          rw [hq]; simp only; omega
  have hmM : m = M := by have := of_decide_eq_false hge; dsimp only at this; omega
  subst hmM
  refine jn.at (((m - n : Nat) : Int), ()) (fun w' => w4 = w') (fun J hJ => ?_) (fun w' hw => ?_)
  · rw [w64_in (by omega) (by omega)]
    refine cs.mk (fun h1 => ?_) (fun h1 => ?_)
    · have h1 := of_decide_eq_true h1
      rw [show ((m - n : Nat) : Int) = 0 by omega] at hJ
      exact hJ _ rfl
    · have h1 := of_decide_eq_false h1
      rw [show ((m - n : Nat) : Int) = (m : Int) - n by omega] at hJ
      exact hJ _ rfl
  subst hw
  dsimp only
  refine call11 (Messages_mbx h (by omega) fun r w5 hr h => ⟨(r, ()), rfl, ?_⟩)
  dsimp only
  have hend : Ok e [old e] w5 := h.drop.drop.drop
  refine jn.bool true (fun J hJ => cs.yes (by simp; omega) ?_) ⟨rfl, hend⟩
  refine jn.bool true (fun J2 hJ2 => cs.mk (fun _ => hJ2) (fun h1 => ?_)) hJ
  have h1 : ¬ ((m - n : Nat) : Int) = 0 := by simpa using h1
  have hl0 : l = [] := List.eq_nil_of_length_eq_zero (by omega)
  subst hl0
  obtain ⟨s, hs, h⟩ := boxE h.p1
  refine nn.mk (ldP.mk (h.cell rfl) (nn.mk ?_))
  exact call13 (Len_order h.p3 ⟨((0 : Int), ()), rfl, hJ2⟩)

end Go.Proofs.Ytiepcdoknmpemaa.B
