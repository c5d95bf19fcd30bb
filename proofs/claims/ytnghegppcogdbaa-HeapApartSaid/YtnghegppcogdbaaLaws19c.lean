/- For HeapApart: what is free in all; blocks lie apart. -/
import Derived.Test.YtnghegppcogdbaaLaws19
namespace Go.Proofs.Ytnghegppcogdbaa.B
open Go
set_option linter.unusedVariables false

/-- what blocks take, all told -/
def sumT : List (Int × Int) → Int
  | [] => 0
  | b :: l => tk b.2 + sumT l

theorem sumT_perm {l m : List (Int × Int)} (h : l.Perm m) : sumT l = sumT m := by
  induction h with
  | nil => rfl
  | cons x _ ih => simp only [sumT, ih]
  | swap x y l => simp only [sumT]; omega
  | trans _ _ h1 h2 => exact h1.trans h2

theorem freeF_cons {a hi : Int} {b : Int × Int} {l : List (Int × Int)} : ∀ i, (freeF a hi (b :: l) (i + 1)).1 = (b.1 - a) + (freeF (b.1 + tk b.2) hi l i).1
  | 0 => by
    show 0 + (b.1 - frL a (b :: l) 0) = _ + 0
    rw [frL_zero]
    omega
  | i + 1 => by
    have ih := freeF_cons (a := a) (hi := hi) (b := b) (l := l) i
    rw [freeF]
    show (freeF a hi (b :: l) (i + 1)).1 + (toL hi l i - frL (b.1 + tk b.2) l i) = _ + ((freeF (b.1 + tk b.2) hi l i).1 + (toL hi l i - frL (b.1 + tk b.2) l i))
    omega

/-- what is free and what is taken are all -/
theorem freeF_sum {hi : Int} : ∀ {l : List (Int × Int)} {a : Int}, (freeF a hi l (l.length + 1)).1 = hi - a - sumT l
  | [], a => by
    show 0 + (hi - frL a [] 0) = hi - a - 0
    rw [frL_zero]
    omega
  | b :: l, a => by
    have ih := freeF_sum (hi := hi) (l := l) (a := b.1 + tk b.2)
    rw [List.length_cons, freeF_cons, ih]
    simp only [sumT]
    omega

theorem chL_pair {hi : Int} : ∀ {l : List (Int × Int)} {lo : Int}, chL hi lo l → l.Pairwise fun b c => b.1 + tk b.2 ≤ c.1
  | [], _, _ => List.Pairwise.nil
  | b :: l, lo, h => List.pairwise_cons.2 ⟨fun c hc => (chL_mem h.2.2 hc).1, chL_pair h.2.2⟩

theorem chL_nodup {hi lo : Int} {l : List (Int × Int)} (h : chL hi lo l) : (ids l).Nodup := by
  refine List.pairwise_map.2 ((List.Pairwise.and_mem.1 (chL_pair h)).imp fun {b c} hbc he => ?_)
  have h1 := chL_mem h hbc.1
  have h2 := tk_ge (n := b.2) (by omega)
  have := hbc.2.2
  omega

/-- a block that was found: where it lies -/
theorem findL_got {a hi n y : Int} {l m : List (Int × Int)} (h : findL a hi l n = ((y, true), m)) : m.Perm ((y - 8, n) :: l) := by
  unfold findL at h
  split at h
  · next i hi' =>
    have h1 : frL a l i + 8 = y := congrArg (·.1.1) h
    have h2 : l.take i ++ [(frL a l i, n)] ++ l.drop i = m := congrArg (·.2) h
    rw [← h2, show y - 8 = frL a l i by omega, List.append_assoc, List.singleton_append]
    refine List.perm_middle.trans ?_
    rw [List.take_append_drop]
  · have h1 : false = true := congrArg (·.1.2) h
    cases h1

theorem pair_apart {hi lo : Int} {p b : Int × Int} {l m : List (Int × Int)} (h : chL hi lo m) (hp : m.Perm (p :: l)) (hb : b ∈ l) : p.1 + tk p.2 ≤ b.1 ∨ b.1 + tk b.2 ≤ p.1 := by
  have h1 : m.Pairwise fun b c => b.1 + tk b.2 ≤ c.1 ∨ c.1 + tk c.2 ≤ b.1 := (chL_pair h).imp fun h => .inl h
  have h2 := (hp.pairwise_iff (fun h => h.symm)).1 h1
  exact (List.pairwise_cons.1 h2).1 b hb

theorem tk_mod (n : Int) : tk n % 8 = 0 := by unfold tk; omega

theorem frL_mod : ∀ {a : Int} {l : List (Int × Int)} {i : Nat}, (∀ b ∈ l, b.1 % 8 = 0) → a % 8 = 0 → frL a l i % 8 = 0
  | a, l, 0, _, ha => by rw [frL_zero]; exact ha
  | a, [], i + 1, _, ha => ha
  | a, b :: l, i + 1, h, _ => frL_mod (a := b.1 + tk b.2) (l := l) (i := i) (fun c hc => h c (List.mem_cons_of_mem _ hc)) (by have := h b (List.mem_cons_self ..); have := tk_mod b.2; omega)

theorem findL_mod {a hi n y : Int} {l m : List (Int × Int)} (h : findL a hi l n = ((y, true), m)) (hl : ∀ b ∈ l, b.1 % 8 = 0) (ha : a % 8 = 0) : y % 8 = 0 := by
  unfold findL at h
  split at h
  · next i hi' =>
    have h1 : frL a l i + 8 = y := congrArg (·.1.1) h
    have := frL_mod (i := i) hl ha
    omega
  · have h1 : false = true := congrArg (·.1.2) h
    cases h1

theorem take_perm {α : Type} {l : List α} {k : Nat} {x : α} (h : l[k]? = some x) : l.Perm (x :: (l.take k ++ l.drop (k + 1))) := by
  obtain ⟨hk, he⟩ := List.getElem?_eq_some_iff.1 h
  have h1 : l = l.take k ++ x :: l.drop (k + 1) := by
    conv => lhs; rw [← List.take_append_drop k l, List.drop_eq_getElem_cons hk, he]
  exact (List.Perm.of_eq h1).trans List.perm_middle

/-- given back, where nobody waits -/
theorem put_back {a z x : Int} {q : LP} (ho : LPo a z q) (hS : q.S = []) (hx : x ∈ heldB q.L) : ∃ q1, q.put a z x = (([], 0), q1) ∧ q1.S = [] ∧ (heldB q.L).Perm (x :: heldB q1.L) ∧ q1.put a z x = (([], -17), q1) := by
  obtain ⟨p0, hp0, he⟩ := List.mem_map.1 hx
  have hid : x - 8 ∈ ids q.L := List.mem_map.2 ⟨p0, hp0, by omega⟩
  have h0 : 0 ≤ atI q.L (x - 8) := atI_pos.2 hid
  obtain ⟨hlt, p, hp, hpx⟩ := atI_lt h0
  have hperm := take_perm hp
  have hnd := (hperm.map Prod.fst).nodup_iff.1 (chL_nodup ho.ch)
  have hno : x - 8 ∉ ids (q.cut (atI q.L (x - 8)).toNat).L := by
    rw [List.map_cons, hpx] at hnd
    exact (List.nodup_cons.1 hnd).1
  have hf : (q.cut (atI q.L (x - 8)).toNat).fill a z = ([], q.cut (atI q.L (x - 8)).toNat) := by
    unfold LP.fill LP.cut
    dsimp only
    rw [hS]
    rfl
  refine ⟨q.cut (atI q.L (x - 8)).toNat, ?_, hS, ?_, ?_⟩
  · unfold LP.put
    rw [if_pos h0, hf]
  · have := hperm.map (fun b : Int × Int => b.1 + 8)
    rw [List.map_cons, show p.1 + 8 = x by omega] at this
    exact this
  · have hneg : ¬ 0 ≤ atI (q.cut (atI q.L (x - 8)).toNat).L (x - 8) := fun h => hno (atI_pos.1 h)
    generalize q.cut (atI q.L (x - 8)).toNat = q1 at hneg
    unfold LP.put
    rw [if_neg hneg]

end Go.Proofs.Ytnghegppcogdbaa.B
