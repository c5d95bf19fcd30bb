/- A law of layer 4: what is put in comes out by its priority, and who came first goes first. -/
import Derived.Test.YtnbjikhhkdkjaaaLaws4a
import Derived.Test.YtnbjikhhkdkjaaaSep4
namespace Go.Proofs.Ytnbjikhhkdkjaaa.B
open Go
set_option linter.unusedVariables false

theorem pp_spec (l : List (Int × Int)) (y : Int) (n : Nat) : (∀ j, pp l y n ≤ j → j < n → y < (l[j]?.getD (0, 0)).2) ∧ (0 < pp l y n → ¬ y < (l[pp l y n - 1]?.getD (0, 0)).2) := by
  induction n with
  | zero => exact ⟨fun j _ h => absurd h (Nat.not_lt_zero _), fun h => absurd h (Nat.lt_irrefl _)⟩
  | succ n ih =>
    rw [show pp l y (n + 1) = if y < (l[n]?.getD (0, 0)).2 then pp l y n else n + 1 from rfl]
    split
    · next h =>
      refine ⟨fun j h1 h2 => ?_, ih.2⟩
      rcases Nat.lt_or_ge j n with h3 | h3
      · exact ih.1 j h1 h3
      · have : j = n := by omega
        rw [this]; exact h
    · next h => exact ⟨fun j h1 h2 => by omega, fun _ => h⟩

/-- before another: a lower number, or the same and came first -/
abbrev bef (a b : Int × Int) : Prop := a.2 < b.2 ∨ (a.2 = b.2 ∧ a.1 < b.1)

theorem putL_sorted {l : List (Int × Int)} {x : Int × Int} (h : l.Pairwise bef) (hx : ∀ p ∈ l, p.1 < x.1) : (putL true l x).Pairwise bef := by
  obtain ⟨s1, s2⟩ := pp_spec l x.2 l.length
  have hk := pp_le l x.2 l.length
  have hp : putK true l x.2 = pp l x.2 l.length := rfl
  unfold putL
  rw [hp]
  generalize pp l x.2 l.length = k at *
  have hg := List.pairwise_iff_getElem.1 h
  have hdrop : ∀ b ∈ l.drop k, x.2 < b.2 := by
    intro b hb
    obtain ⟨i, hi, rfl⟩ := List.getElem_of_mem hb
    rw [List.getElem_drop]
    have hlt : k + i < l.length := by simp at hi; omega
    have := s1 (k + i) (by omega) hlt
    rwa [List.getElem?_eq_getElem hlt] at this
  have htake : ∀ a ∈ l.take k, a.2 ≤ x.2 := by
    intro a ha
    obtain ⟨i, hi, rfl⟩ := List.getElem_of_mem ha
    rw [List.getElem_take]
    have hlt : i < k := by simp at hi; omega
    have h2 := s2 (by omega)
    rw [List.getElem?_eq_getElem (by omega)] at h2
    simp only [Option.getD_some] at h2
    rcases Nat.lt_or_ge i (k - 1) with h3 | h3
    · have := hg i (k - 1) (by omega) (by omega) h3
      rcases this with h4 | h4 <;> omega
    · have : i = k - 1 := by omega
      subst this
      omega
  rw [List.append_assoc]
  refine List.pairwise_append.2 ⟨h.sublist (List.take_sublist ..), ?_, ?_⟩
  · refine List.pairwise_append.2 ⟨List.pairwise_singleton .., h.sublist (List.drop_sublist ..), ?_⟩
    intro a ha b hb
    simp only [List.mem_singleton] at ha
    subst ha
    exact .inl (hdrop b hb)
  · intro a ha b hb
    rcases List.mem_append.1 hb with hb | hb
    · simp only [List.mem_singleton] at hb
      subst hb
      have h1 := htake a ha
      have h2 := hx a (List.mem_of_mem_take ha)
      rcases Int.lt_or_eq_of_le h1 with h3 | h3
      · exact .inl h3
      · exact .inr ⟨h3, h2⟩
    · have h1 := htake a ha
      have h2 := hdrop b hb
      exact .inl (by omega)

theorem putL_mem {byPri : Bool} {l : List (Int × Int)} {x p : Int × Int} : p ∈ putL byPri l x ↔ p = x ∨ p ∈ l := by
  unfold putL
  generalize putK byPri l x.2 = k
  have : p ∈ l ↔ p ∈ l.take k ∨ p ∈ l.drop k := by
    rw [← List.mem_append, List.take_append_drop]
  rw [List.mem_append, List.mem_append, List.mem_singleton, this]
  constructor
  · rintro ((h | h) | h)
    · exact .inr (.inl h)
    · exact .inl h
    · exact .inr (.inr h)
  · rintro (h | h | h)
    · exact .inl (.inr h)
    · exact .inl (.inl h)
    · exact .inr h

theorem OrderSorts_walk {e : World} {a0 : Sl} {xs : List Int} (ha : ArgI .u8 e a0 xs) : sh3 a0 (LawEnd e) e := by
  unfold sh3
  refine call10 (known_4 (Ok.start e) fun w1 h => ⟨(true, ()), enc_b rfl, ?_⟩)
  refine cs.no rfl ?_
  refine cs.mk (fun _ => ⟨rfl, h⟩) (fun h1 => ?_)
  have hle : a0.len ≤ 16 := by have := of_decide_eq_false h1; omega
  refine call11 (New_order h fun p w2 h => ⟨(some ⟨p, 0, none⟩, ()), rfl, ?_⟩)
  dsimp only
  refine lp.mk (fun t w' => ∃ l : List (Int × Int), ∃ n : Nat, t.1 = (n : Int) ∧ n ≤ a0.len ∧ l.length = n ∧ l.Pairwise bef ∧ (∀ q ∈ l, ∃ j : Nat, j < n ∧ q.1 = (j : Int) + 1 ∧ ∃ x, xs[j]? = some x ∧ q.2 = 1 + x % 16) ∧ Ok e [lineP p [.bool true] l, old e] w')
    (fun t _ => a0.len - t.1.toNat) ⟨[], 0, rfl, Nat.zero_le _, rfl, List.Pairwise.nil, fun q hq => by simp at hq, h⟩ ?_
  rintro ⟨i, _⟩ w3 ⟨l, n, hn, hn1, hlen, hs, hm, h⟩
  dsimp only at hn
  subst hn
  refine cs.mk (fun hlt => ?_) (fun hge => ?_)
  · have hlt : n < a0.len := by have := of_decide_eq_true hlt; dsimp only at this; omega
    refine ix_arg ha (by simp) (by simpa using hlt) fun b o x hx hc => ?_
    refine ldI.mk (hc _ ⟨_, h.p1⟩) ?_
    have hxr := ha.u8 (List.mem_of_getElem? hx)
    have hmod : Int.tmod x 16 = x % 16 := Int.tmod_eq_emod_of_nonneg hxr.1
    rw [hmod, w64_in (x := x % 16) (by omega) (by omega), w64_in (by omega) (by omega), w64_in (by omega) (by omega)]
    have hlow : ∀ q ∈ l, q.1 < (n : Int) + 1 := fun q hq => by
      obtain ⟨j, hj, hq1, _⟩ := hm q hq
      omega
    have hno : atI l ((n : Int) + 1) = -1 := atI_none fun q hq => by have := hlow q hq; omega
    refine call12 (Add_order h (by omega) fun w4 h => ⟨((0 : Int), ()), enc_i ?_, ?_⟩)
    · simp only [addL]; rw [if_neg (by omega), if_neg (by omega)]
    · have he : (addL true l ((n : Int) + 1) (1 + x % 16)).2 = putL true l ((n : Int) + 1, 1 + x % 16) := by
        simp only [addL]; rw [if_neg (by omega), if_neg (by omega)]
      rw [he] at h
      refine cs.no rfl ?_
      refine ⟨⟨_, n + 1, rfl, hlt, by rw [putL_len, hlen], putL_sorted hs hlow, fun q hq => ?_, h⟩, ?_⟩
      · rcases putL_mem.1 hq with rfl | hq
        · exact ⟨n, by omega, rfl, x, by simpa using hx, rfl⟩
        · obtain ⟨j, hj, hq1, hq2⟩ := hm q hq
          exact ⟨j, by omega, hq1, hq2⟩
      · show _ - Int.toNat ((n : Int) + 1) < _ - Int.toNat _
        omega
  · have hge : a0.len ≤ n := by have := of_decide_eq_false hge; dsimp only at this; omega
    have hna : n = a0.len := by omega
    refine al.mk h fun c w4 h => st1.mk h (by simp) fun w5 h => st1.mk h (by simp) fun w6 h => ?_
    have h : Ok e [pts c [.int .i64 0, .int .i64 0], lineP p [.bool true] l, old e] w6 := h
    refine lp.mk (fun t w' => ∃ l : List (Int × Int), ∃ z : Int × Int, ∃ n : Nat, ∃ L, t.1 = (n : Int) ∧ n + l.length = a0.len ∧ (z :: l).Pairwise bef ∧ (∀ q ∈ l, ∃ j : Nat, j < a0.len ∧ q.1 = (j : Int) + 1 ∧ ∃ x, xs[j]? = some x ∧ q.2 = 1 + x % 16) ∧ Ok e (pts c [.int .i64 z.1, .int .i64 z.2] :: lineP p [.bool true] l :: old e :: L) w')
      (fun t _ => a0.len - t.1.toNat) ⟨l, (0, 0), 0, [], rfl, by omega, List.pairwise_cons.2 ⟨fun q hq => ?_, hs⟩, fun q hq => ?_, h⟩ ?_
    · obtain ⟨j, hj, hq1, x, hx, hq2⟩ := hm q hq
      have hxr := ha.u8 (List.mem_of_getElem? hx)
      exact .inl (by simp only; omega)
    · obtain ⟨j, hj, hq1, hq2⟩ := hm q hq
      exact ⟨j, by omega, hq1, hq2⟩
    rintro ⟨i, _⟩ w3 ⟨l, z, n, L, hn, hn1, hs, hm, h⟩
    dsimp only at hn
    subst hn
    refine cs.mk (fun hlt => ?_) (fun hge => ?_)
    · have hlt : n < a0.len := by have := of_decide_eq_true hlt; dsimp only at this; omega
      cases l with
      | nil => simp at hn1; omega
      | cons x r =>
        refine call13 (Take_order h.p1 (by omega) fun w4 h => ⟨((x.1, x.2, ()), true, ()), rfl, ?_⟩)
        have h : Ok e (lineP p [.bool true] r :: pts c [.int .i64 z.1, .int .i64 z.2] :: old e :: L) w4 := h
        refine al.mk h fun b w5 h => st1.mk h (by simp) fun w6 h => st1.mk h (by simp) fun w7 h => ?_
        have h : Ok e (pts b [.int .i64 x.1, .int .i64 x.2] :: lineP p [.bool true] r :: pts c [.int .i64 z.1, .int .i64 z.2] :: old e :: L) w7 := h
        refine dr.mk h fun w8 h => ?_
        obtain ⟨j, hj, hx1, y, hy, hx2⟩ := hm x (List.mem_cons_self ..)
        have hbef := (List.pairwise_cons.1 hs).1 x (List.mem_cons_self ..)
        have hyr := ha.u8 (List.mem_of_getElem? hy)
        have hmod : Int.tmod y 16 = y % 16 := Int.tmod_eq_emod_of_nonneg hyr.1
        dsimp only
        refine jn.bool false (fun J hJ => ?_) ?_
        · refine cs.no rfl (ldI.mk (h.cell rfl) ?_)
          refine cs.no (by simp; omega) (ldI.mk (h.cell rfl) ?_)
          refine cs.no (by simp; omega) (ldI.mk (h.cell rfl) (ldI.mk (h.cell rfl) ?_))
          rw [w64_in (by omega) (by omega)]
          refine ix_arg ha (by omega) (by omega) fun b' o' y' hy' hc' => ?_
          refine ldI.mk (hc' _ ⟨_, h.p3⟩) ?_
          rw [show (x.1 - 1).toNat = j by omega, hy] at hy'
          cases hy'
          rw [hmod, w64_in (x := y % 16) (by omega) (by omega), w64_in (by omega) (by omega)]
          refine cs.no (by simp; omega) (ldI.mk (h.cell rfl) (ldI.mk (h.p2.cell rfl) ?_))
          refine cs.no (by rcases hbef with hb | hb <;> simp <;> omega) (ldI.mk (h.cell rfl) (ldI.mk (h.p2.cell rfl) ?_))
          refine cs.mk (fun he => ?_) (fun _ => hJ)
          have he : x.2 = z.2 := by simpa using he
          refine ldI.mk (h.cell rfl) (ldI.mk (h.p2.cell rfl) ?_)
          rw [show decide (x.1 < z.1) = false by rcases hbef with hb | hb <;> simp <;> omega]
          exact hJ
        · refine cs.no rfl (ldI.mk (h.cell rfl) (ldI.mk (h.cell rfl) ?_))
          refine st1.mk h.p2 (by simp) fun w9 h => st1.mk h (by simp) fun w10 h => ?_
          refine ⟨⟨r, x, n + 1, _, ?_, ?_, (List.pairwise_cons.1 hs).2, fun q hq => hm q (List.mem_cons_of_mem _ hq), h.p2.p2.drop.p1⟩, ?_⟩
          · show w64 _ = _
            rw [w64_in (by omega) (by omega)]; rfl
          · simp at hn1 ⊢; omega
          · show _ - (w64 _).toNat < _ - Int.toNat _
            rw [w64_in (by omega) (by omega)]
            omega
    · have hge : a0.len ≤ n := by have := of_decide_eq_false hge; dsimp only at this; omega
      have : l = [] := List.eq_nil_of_length_eq_zero (by omega)
      subst this
      refine call13 (Take_order h.p1 (by decide) fun w4 h => ⟨(((0 : Int), (0 : Int), ()), false, ()), rfl, ?_⟩)
      refine al.mk h fun b w5 h => st1.mk h (by simp) fun w6 h => st1.mk h (by simp) fun w7 h => ?_
      exact ⟨rfl, h.drop.drop.drop.only⟩

end Go.Proofs.Ytnbjikhhkdkjaaa.B
