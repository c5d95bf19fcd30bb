/- A law of layer 12: bits at once, or one by one. -/
import Derived.Test.YtkhalaoonamkjaaLaws12c
namespace Go.Proofs.Ytkhalaoonamkjaa.B
open Go
set_option linter.unusedVariables false

theorem atI_cons (x : Int × Int) (l : List (Int × Int)) (j : Int) : atI (x :: l) j = if x.1 = j then 0 else if atI l j < 0 then -1 else atI l j + 1 := by
  by_cases h : x.1 = j
  · rw [if_pos h]
    exact atI_some (n := 0) (p := x) rfl h (fun m hm => absurd hm (Nat.not_lt_zero _))
  · rw [if_neg h]
    by_cases h2 : atI l j < 0
    · rw [if_pos h2]
      refine atI_none fun p hp => ?_
      rcases List.mem_cons.1 hp with rfl | hp
      · exact h
      · exact fun he => (atI_neg.1 h2) (List.mem_map.2 ⟨p, hp, he⟩)
    · rw [if_neg h2]
      unfold atI at h2 ⊢
      rw [List.findIdx?_cons]
      simp only [h, beq_iff_eq]
      cases hf : l.findIdx? (fun p => p.1 == j) with
      | none => rw [hf] at h2; exact absurd (by decide) h2
      | some i => simp

theorem rmL_cons (x : Int × Int) (l : List (Int × Int)) (j : Int) : rmL (x :: l) j = if x.1 = j then l else x :: rmL l j := by
  unfold rmL
  rw [atI_cons]
  by_cases h : x.1 = j
  · rw [if_pos h, if_pos h, if_neg (by decide)]; rfl
  · rw [if_neg h, if_neg h]
    by_cases h2 : atI l j < 0
    · rw [if_pos h2, if_pos (by decide), if_pos h2]
    · rw [if_neg h2, if_neg (by omega), if_neg h2, show (atI l j + 1).toNat = (atI l j).toNat + 1 by omega]
      simp [rmAt]

theorem rmL_filterL {l : List (Int × Int)} {j : Int} (h : (ids l).Nodup) : rmL l j = l.filter (fun x => decide (x.1 ≠ j)) := by
  induction l with
  | nil => rfl
  | cons x l ih =>
    rw [ids, List.map_cons] at h
    have hn := List.nodup_cons.1 h
    rw [rmL_cons]
    by_cases hx : x.1 = j
    · rw [if_pos hx, List.filter_cons_of_neg (by simpa using hx)]
      refine (List.filter_eq_self.2 fun a ha => ?_).symm
      rw [decide_eq_true_iff]
      intro he
      exact hn.1 (hx ▸ he ▸ List.mem_map_of_mem ha)
    · rw [if_neg hx, List.filter_cons_of_pos (by simpa using hx)]
      exact congrArg _ (ih hn.2)

theorem wake_filter {g : Int → Int × Int} {b : Int} : ∀ {l S : List (Int × Int)}, (ids S).Nodup → (wakeL false g l S b).2 = (S.filter (fun x => !(decide (x.1 ∈ ids l) && metB b (g x.1))), b)
  | [], S, _ => by
    show (S, b) = _
    rw [List.filter_eq_self.2]
    intro a _
    simp
  | x :: r, S, h => by
    cases hm : metB b (g x.1) with
    | true =>
      rw [wake_yes hm, if_neg (by simp)]
      have h2 : (ids (rmL S x.1)).Nodup := ((rmL_sub S x.1).map Prod.fst).nodup h
      show (wakeL false g r (rmL S x.1) b).2 = _
      rw [wake_filter h2, rmL_filterL h, List.filter_filter]
      congr 1
      refine List.filter_congr fun y _ => ?_
      by_cases hy : y.1 = x.1
      · simp [hy, hm]
      · rw [show decide (y.1 ∈ ids (x :: r)) = decide (y.1 ∈ ids r) from decide_eq_decide.2 (by rw [ids, List.map_cons, List.mem_cons]; exact ⟨fun h => h.resolve_left hy, .inr⟩)]
        simp [hy]
    | false =>
      rw [wake_no hm, wake_filter h]
      congr 1
      refine List.filter_congr fun y _ => ?_
      by_cases hy : y.1 = x.1
      · simp [hy, hm]
      · rw [show decide (y.1 ∈ ids (x :: r)) = decide (y.1 ∈ ids r) from decide_eq_decide.2 (by rw [ids, List.map_cons, List.mem_cons]; exact ⟨fun h => h.resolve_left hy, .inr⟩)]

theorem wake_count {g : Int → Int × Int} {b : Int} : ∀ {l S : List (Int × Int)}, (wakeL false g l S b).1.length = (l.filter (fun x => metB b (g x.1))).length
  | [], S => rfl
  | x :: r, S => by
    cases hm : metB b (g x.1) with
    | true =>
      rw [wake_yes hm, if_neg (by simp), List.filter_cons_of_pos (by simpa using hm)]
      simp only [List.length_cons]
      rw [wake_count]
    | false =>
      rw [wake_no hm, List.filter_cons_of_neg (by simp [hm])]
      exact wake_count

theorem filter_both (p : Int × Int → Bool) (l : List (Int × Int)) : (l.filter p).length + (l.filter (fun x => !p x)).length = l.length := by
  induction l with
  | nil => rfl
  | cons x l ih =>
    cases h : p x with
    | true => rw [List.filter_cons_of_pos h, List.filter_cons_of_neg (by simp [h])]; simp only [List.length_cons]; omega
    | false => rw [List.filter_cons_of_neg (by simp [h]), List.filter_cons_of_pos (by simp [h])]; simp only [List.length_cons]; omega

theorem raise_all {S : List (Int × Int)} {b : Int} {g : Int → Int × Int} {xs : List Int} (h : okL S) : (FQ.raise false ⟨S, b, g⟩ xs).2 = ⟨S.filter (fun x => !metB (xs.foldl orB b) (g x.1)), xs.foldl orB b, g⟩ ∧
    (FQ.raise false ⟨S, b, g⟩ xs).1.length + (S.filter (fun x => !metB (xs.foldl orB b) (g x.1))).length = S.length := by
  have hw := wake_filter (g := g) (b := xs.foldl orB b) (l := S) h.1
  have hc := wake_count (g := g) (b := xs.foldl orB b) (l := S) (S := S)
  have hf : S.filter (fun x => !(decide (x.1 ∈ ids S) && metB (xs.foldl orB b) (g x.1))) = S.filter (fun x => !metB (xs.foldl orB b) (g x.1)) :=
    List.filter_congr fun y hy => by rw [decide_eq_true (List.mem_map_of_mem hy)]; simp
  rw [hf] at hw
  constructor
  · unfold FQ.raise
    simp only
    rw [hw]
  · show (wakeL false g S S (xs.foldl orB b)).1.length + _ = _
    rw [hc]
    exact filter_both (fun x => metB (xs.foldl orB b) (g x.1)) S

/-- a wish that may be -/
def okW (w : Int × Int) : Prop := (Lit.int .u32 w.1).wf = true ∧ w.1 ≠ 0 ∧ (w.2 = 0 ∨ w.2 = 1)

theorem met_mono {B : BitVec 32} {y : Int} {w : Int × Int} (hw : okW w) (h : metB (T32 B) w = true) : metB (orB (T32 B) y) w = true := by
  obtain ⟨w1, w2⟩ := w
  obtain ⟨h1, h2, h3⟩ := hw
  dsimp only at h1 h2 h3
  obtain ⟨W, rfl⟩ := T32_ex h1
  have ho : orB (T32 B) y = T32 (B ||| V32 y) := by show bOr .u32 _ _ = _; rw [bOr_T, V_T]
  rw [ho]
  rcases h3 with rfl | rfl
  · rw [met_all, beq_iff_eq] at h ⊢
    apply BitVec.eq_of_getLsbD_eq
    intro i hi
    have := congrArg (fun v => v.getLsbD i) h
    simp only [BitVec.getLsbD_and, BitVec.getLsbD_or] at this ⊢
    cases hW : W.getLsbD i <;> cases hB : B.getLsbD i <;> simp_all
  · rw [met_one, bne_iff_ne] at h ⊢
    intro h0
    apply h
    apply BitVec.eq_of_getLsbD_eq
    intro i hi
    have := congrArg (fun v => v.getLsbD i) h0
    simp only [BitVec.getLsbD_and, BitVec.getLsbD_or] at this ⊢
    cases hW : W.getLsbD i <;> cases hB : B.getLsbD i <;> simp_all

theorem fold_T : ∀ (ys : List Int) (B : BitVec 32), ∃ C, ys.foldl orB (T32 B) = T32 C
  | [], B => ⟨B, rfl⟩
  | y :: ys, B => by
    rw [List.foldl_cons]
    have ho : orB (T32 B) y = T32 (B ||| V32 y) := by show bOr .u32 _ _ = _; rw [bOr_T, V_T]
    rw [ho]
    exact fold_T ys _

theorem filter_twice {S : List (Int × Int)} {g : Int → Int × Int} {b : Int} {y : Int} (hb : ∃ B, b = T32 B) (hg : ∀ i ∈ ids S, okW (g i)) :
    (S.filter (fun x => !metB b (g x.1))).filter (fun x => !metB (orB b y) (g x.1)) = S.filter (fun x => !metB (orB b y) (g x.1)) := by
  obtain ⟨B, rfl⟩ := hb
  rw [List.filter_filter]
  refine List.filter_congr fun x hx => ?_
  have := met_mono (B := B) (y := y) (hg x.1 (List.mem_map_of_mem hx))
  cases h1 : metB (T32 B) (g x.1) with
  | true => simp [this h1]
  | false => simp

set_option maxHeartbeats 1000000 in
theorem FlagParts_walk {e : World} {a0 a1 a2 : Sl} {xs ys : List Int} {vs : List Value} (ha : ArgI .u32 e a0 xs) (hb : ArgF [.b] e a1 vs) (hy : ArgI .u32 e a2 ys) : sh3 a0 a1 a2 (LawEnd e) e := by
  unfold sh3
  have hr := rd_arg ha
  have hry := rd_arg hy
  refine call9 (known_12 (Ok.start e) fun w1 h => ⟨(true, ()), enc_b rfl, ?_⟩)
  refine cs.no rfl ?_
  refine jn.bool (decide (a0.len > 16 ∨ a1.len < a0.len)) (fun J hJ => ?_) ?_
  · refine cs.mk (fun h1 => ?_) (fun h1 => ?_)
    · have h1 := of_decide_eq_true h1
      rw [decide_eq_true (by omega)] at hJ
      exact hJ
    · have h1 := of_decide_eq_false h1
      rw [show decide ((a1.len : Int) < a0.len) = decide (a0.len > 16 ∨ a1.len < a0.len) from decide_eq_decide.2 (by omega)]
      exact hJ
  refine jn.bool (decide (a0.len > 16 ∨ a1.len < a0.len ∨ a2.len > 20)) (fun J hJ => ?_) ?_
  · refine cs.mk (fun h1 => ?_) (fun h1 => ?_)
    · have h1 := of_decide_eq_true h1
      rw [decide_eq_true (by omega)] at hJ
      exact hJ
    · have h1 := of_decide_eq_false h1
      rw [show decide ((a2.len : Int) > 20) = decide (a0.len > 16 ∨ a1.len < a0.len ∨ a2.len > 20) from decide_eq_decide.2 (by omega)]
      exact hJ
  refine cs.mk (fun _ => ⟨rfl, h⟩) (fun hc => ?_)
  have hc := of_decide_eq_false hc
  refine call10 (New_flag h fun b w2 h => ⟨(some ⟨b, 0, none⟩, ()), rfl, ?_⟩)
  refine call10 (New_flag h fun u w2 h => ⟨(some ⟨u, 0, none⟩, ()), rfl, ?_⟩)
  have h : Ok e [flagP b false true false ⟨seqS 0, 0, fun _ => (0, 0)⟩, flagP u false true false ⟨seqS 0, 0, fun _ => (0, 0)⟩, old e] w2 := h.p1
  have hw : ∀ n : Nat, n < 100 → w64 ((n : Int) + 1) = ((n + 1 : Nat) : Int) := fun n _ => by rw [w64_in (by omega) (by omega)]; rfl
  refine lp.mk (fun t w' => ∃ (n : Nat) (g : Int → Int × Int), t.1 = (n : Int) ∧ n ≤ a0.len ∧ (∀ i ∈ ids (seqS n), okW (g i)) ∧ Ok e [flagP b false true false ⟨seqS n, 0, g⟩, flagP u false true false ⟨seqS n, 0, g⟩, old e] w')
    (fun t _ => a0.len - t.1.toNat) ⟨0, fun _ => (0, 0), rfl, Nat.zero_le _, fun i hi => by simp [seqS] at hi, h⟩ ?_
  clear h
  rintro ⟨i, _⟩ w3 ⟨n, g, hn, hn1, hg, h⟩
  dsimp only at hn
  subst hn
  have ho : FQ.ok ⟨seqS n, 0, g⟩ := ⟨seqS_ok (by omega), fun i hi => (hg i hi).2.1⟩
  refine cs.mk (fun hlt => ?_) (fun hge => ?_)
  · have hlt : n < a0.len := by have := of_decide_eq_true hlt; dsimp only at this; omega
    obtain ⟨_, hv0, c0, rfl⟩ := hb.2 n (by omega) 0 _ rfl
    refine ix_args hb.1 (by decide) (by simp) (by show (n : Int) < (a1.len : Int); omega) fun b1 o hh => ?_
    refine ldB.mk (hh 0 _ (by decide) (by simpa using hv0) _ ⟨_, h.p2⟩) ?_
    clear hh
    refine jn.at ((if c0 then 1 else 0 : Int), ()) (fun w' => w3 = w') (fun J hJ => cs.mk (fun hc0 => ?_) (fun hc0 => ?_)) (fun w4 hw4 => ?_)
    · subst hc0
      exact hJ _ rfl
    · subst hc0
      exact hJ _ rfl
    subst hw4
    refine ix_rd hr (by simp) (by simpa using hlt) fun c o x hx hcell => ldI.mk (hcell _ _ (Ok.emb (h) (.cons (A := old e) (by with_reducible first | exact sl0 | exact .there sl0 | exact .there sl1 | exact .there sl2 | exact .there sl3 | exact .there sl4 | exact .there sl5 | exact .there sl6 | exact .there sl7 | exact .there sl8 | exact .there sl9 | exact .there sl10 | exact .there sl11 | exact .there sl12) (.same _)))) ?_
    rw [Int.toNat_natCast] at hx
    clear hcell
    refine cs.mk (fun _ => ⟨rfl, (h.emb (by repeat' (first | with_reducible exact Emb.same _ | exact Emb.nil _ | refine Emb.cons (by with_reducible first | exact sl0 | exact .there sl0 | exact .there sl1 | exact .there sl2 | exact .there sl3 | exact .there sl4 | exact .there sl5 | exact .there sl6 | exact .there sl7 | exact .there sl8 | exact .there sl9 | exact .there sl10 | exact .there sl11 | exact .there sl12) ?_ | refine Emb.skip ?_)))⟩) (fun hx0 => ?_)
    have hx0 : x ≠ 0 := by simpa using hx0
    have hmode : (if c0 then (1 : Int) else 0) = 0 ∨ (if c0 then (1 : Int) else 0) = 1 := by cases c0 <;> simp
    have hq := wait_seq (clr := false) (g := g) (show n < 16 by omega) (ha.wf x (List.mem_of_getElem? hx)) hx0 hmode
    dsimp only
    generalize (if c0 then (1 : Int) else 0) = mode at hq hmode ⊢
    rw [hw n (by omega)]
    have hq : FQ.wait false true false ⟨seqS n, 0, g⟩ ((n + 1 : Nat) : Int) 1 x mode = ((0, false, 0), ⟨seqS (n + 1), 0, fun i => if i = (n : Int) + 1 then (x, mode) else g i⟩) := hq
    refine ix_rd hr (by simp) (by simpa using hlt) fun c o y hy2 hcell => ldI.mk (hcell _ _ (Ok.emb (h) (.cons (A := old e) (by with_reducible first | exact sl0 | exact .there sl0 | exact .there sl1 | exact .there sl2 | exact .there sl3 | exact .there sl4 | exact .there sl5 | exact .there sl6 | exact .there sl7 | exact .there sl8 | exact .there sl9 | exact .there sl10 | exact .there sl11 | exact .there sl12) (.same _)))) ?_
    rw [Int.toNat_natCast, hx] at hy2
    cases hy2
    clear hcell
    refine call11 (Wait_flag (Ok.emb (h) (.cons (A := flagP b _ _ _ _) (by with_reducible first | exact sl0 | exact .there sl0 | exact .there sl1 | exact .there sl2 | exact .there sl3 | exact .there sl4 | exact .there sl5 | exact .there sl6 | exact .there sl7 | exact .there sl8 | exact .there sl9 | exact .there sl10 | exact .there sl11 | exact .there sl12) (.same _))) ho fun w4 h => ⟨((0 : Int), false, (0 : Int), ()), by rw [hq]; rfl, ?_⟩)
    rw [hq] at h
    refine ix_rd hr (by simp) (by simpa using hlt) fun c o y hy2 hcell => ldI.mk (hcell _ _ (Ok.emb (h) (.cons (A := old e) (by with_reducible first | exact sl0 | exact .there sl0 | exact .there sl1 | exact .there sl2 | exact .there sl3 | exact .there sl4 | exact .there sl5 | exact .there sl6 | exact .there sl7 | exact .there sl8 | exact .there sl9 | exact .there sl10 | exact .there sl11 | exact .there sl12) (.same _)))) ?_
    rw [Int.toNat_natCast, hx] at hy2
    cases hy2
    clear hcell
    refine call11 (Wait_flag (Ok.emb (h) (.cons (A := flagP u _ _ _ _) (by with_reducible first | exact sl0 | exact .there sl0 | exact .there sl1 | exact .there sl2 | exact .there sl3 | exact .there sl4 | exact .there sl5 | exact .there sl6 | exact .there sl7 | exact .there sl8 | exact .there sl9 | exact .there sl10 | exact .there sl11 | exact .there sl12) (.same _))) ho fun w4 h => ⟨((0 : Int), false, (0 : Int), ()), by rw [hq]; rfl, ?_⟩)
    rw [hq] at h
    refine ⟨⟨n + 1, _, rfl, hlt, fun i hi => ?_, (h.emb (by repeat' (first | with_reducible exact Emb.same _ | exact Emb.nil _ | refine Emb.cons (by with_reducible first | exact sl0 | exact .there sl0 | exact .there sl1 | exact .there sl2 | exact .there sl3 | exact .there sl4 | exact .there sl5 | exact .there sl6 | exact .there sl7 | exact .there sl8 | exact .there sl9 | exact .there sl10 | exact .there sl11 | exact .there sl12) ?_ | refine Emb.skip ?_)))⟩, ?_⟩
    · by_cases hin : i = (n : Int) + 1
      · rw [if_pos hin]
        exact ⟨ha.wf x (List.mem_of_getElem? hx), hx0, hmode⟩
      · rw [if_neg hin]
        have := seqS_mem.1 hi
        exact hg i (seqS_mem.2 (by omega))
    · show a0.len - Int.toNat ((n : Int) + 1) < a0.len - Int.toNat (n : Int)
      omega
  have hyl := hry.1
  obtain ⟨hra, hrc⟩ := raise_all (b := 0) (g := g) (xs := ys) ho.1
  dsimp only at hra hrc
  refine call12 (Raise_flag (Ok.emb (h) (.cons (A := flagP b _ _ _ _) (by with_reducible first | exact sl0 | exact .there sl0 | exact .there sl1 | exact .there sl2 | exact .there sl3 | exact .there sl4 | exact .there sl5 | exact .there sl6 | exact .there sl7 | exact .there sl8 | exact .there sl9 | exact .there sl10 | exact .there sl11 | exact .there sl12) (.cons (A := old e) (by with_reducible first | exact sl0 | exact .there sl0 | exact .there sl1 | exact .there sl2 | exact .there sl3 | exact .there sl4 | exact .there sl5 | exact .there sl6 | exact .there sl7 | exact .there sl8 | exact .there sl9 | exact .there sl10 | exact .there sl11 | exact .there sl12) (.same _)))) ho hry (by omega) fun r1 w4 hr1 h => ⟨(r1, ()), rfl, ?_⟩)
  rw [hra] at h
  have h0 : (seqS n).filter (fun x => !metB 0 (g x.1)) = seqS n := List.filter_eq_self.2 fun x hx => by
    have := hg x.1 (List.mem_map_of_mem hx)
    have hz : metB 0 (g x.1) = false := met_zero (w := (g x.1).1) (m := (g x.1).2) this.1 this.2.1 this.2.2
    simp [hz]
  have h : Ok e [flagP b false true false ⟨(seqS n).filter (fun x => !metB (ys.foldl orB 0) (g x.1)), ys.foldl orB 0, g⟩, flagP u false true false ⟨(seqS n).filter (fun x => !metB 0 (g x.1)), 0, g⟩, old e] w4 := by rw [h0]; exact (h.emb (by repeat' (first | with_reducible exact Emb.same _ | exact Emb.nil _ | refine Emb.cons (by with_reducible first | exact sl0 | exact .there sl0 | exact .there sl1 | exact .there sl2 | exact .there sl3 | exact .there sl4 | exact .there sl5 | exact .there sl6 | exact .there sl7 | exact .there sl8 | exact .there sl9 | exact .there sl10 | exact .there sl11 | exact .there sl12) ?_ | refine Emb.skip ?_)))
  let Sk : Nat → List (Int × Int) := fun k => (seqS n).filter (fun x => !metB ((ys.take k).foldl orB 0) (g x.1))
  have hSl : ∀ k, (Sk k).length ≤ n := fun k => by
    have := List.length_filter_le (fun x => !metB ((ys.take k).foldl orB 0) (g x.1)) (seqS n)
    rw [seqS_len] at this
    exact this
  have hS0 : Sk 0 = seqS n := h0
  refine lp.mk (fun t w' => ∃ k : Nat, t.2.1 = (k : Int) ∧ k ≤ a2.len ∧ @Eq Int t.1 ((n : Int) - ((Sk k).length : Int)) ∧ Ok e [flagP b false true false ⟨(seqS n).filter (fun x => !metB (ys.foldl orB 0) (g x.1)), ys.foldl orB 0, g⟩, flagP u false true false ⟨Sk k, (ys.take k).foldl orB 0, g⟩, old e] w')
    (fun t _ => a2.len - t.2.1.toNat) ⟨0, rfl, Nat.zero_le _, by rw [hS0, seqS_len]; simp, h⟩ ?_
  clear h
  rintro ⟨(ct : Int), i, _⟩ w5 ⟨k, hk, hk1, hct, h⟩
  dsimp only at hk hct
  subst hk hct
  have hSk := hSl k
  have hsub : (Sk k).Sublist (seqS n) := List.filter_sublist
  have ok2 : FQ.ok ⟨Sk k, (ys.take k).foldl orB 0, g⟩ := fok_sub ho hsub
  refine cs.mk (fun hlt => ?_) (fun hge2 => ?_)
  · have hlt : k < a2.len := by have := of_decide_eq_true hlt; dsimp only at this; omega
    refine ix_rd hry (by simp) (by simpa using hlt) fun c o y hy2 hcell => ldI.mk (hcell _ _ (Ok.emb (h) (.cons (A := old e) (by with_reducible first | exact sl0 | exact .there sl0 | exact .there sl1 | exact .there sl2 | exact .there sl3 | exact .there sl4 | exact .there sl5 | exact .there sl6 | exact .there sl7 | exact .there sl8 | exact .there sl9 | exact .there sl10 | exact .there sl11 | exact .there sl12) (.same _)))) ?_
    rw [Int.toNat_natCast] at hy2
    clear hcell
    refine al.mk h fun c w6 h => ?_
    have h : Ok e (slc 1 ⟨some ⟨c, 0, none⟩, 1, 1⟩ ([y].map (Value.int .u32)) :: _) _ := Ok.u32s (xs := [y]) h
    have hrs := rd_slc h
    obtain ⟨hr2, hc2⟩ := raise_all (b := (ys.take k).foldl orB 0) (g := g) (xs := [y]) ok2.1
    simp only [List.foldl_cons, List.foldl_nil] at hr2 hc2
    obtain ⟨C, hC⟩ := fold_T (ys.take k) 0
    rw [T32_zero] at hC
    have hft := filter_twice (S := seqS n) (g := g) (b := (ys.take k).foldl orB 0) (y := y) ⟨C, hC⟩ hg
    have hfold : (ys.take (k + 1)).foldl orB 0 = orB ((ys.take k).foldl orB 0) y := by rw [List.take_add_one, hy2, List.foldl_append]; rfl
    have hS2 : (Sk k).filter (fun x => !metB (orB ((ys.take k).foldl orB 0) y) (g x.1)) = Sk (k + 1) := by
      show List.filter _ (List.filter _ _) = List.filter _ _
      rw [hfold]
      exact hft
    rw [hS2] at hr2 hc2
    rw [← hfold] at hr2
    refine call12 (Raise_flag (Ok.emb (h) (.cons (A := flagP u _ _ _ _) (by with_reducible first | exact sl0 | exact .there sl0 | exact .there sl1 | exact .there sl2 | exact .there sl3 | exact .there sl4 | exact .there sl5 | exact .there sl6 | exact .there sl7 | exact .there sl8 | exact .there sl9 | exact .there sl10 | exact .there sl11 | exact .there sl12) (.cons (A := slc 1 ⟨some ⟨c, 0, none⟩, 1, 1⟩ _) (by with_reducible first | exact sl0 | exact .there sl0 | exact .there sl1 | exact .there sl2 | exact .there sl3 | exact .there sl4 | exact .there sl5 | exact .there sl6 | exact .there sl7 | exact .there sl8 | exact .there sl9 | exact .there sl10 | exact .there sl11 | exact .there sl12) (.same _)))) ok2 hrs (by dsimp only; omega) fun r2 w7 hrl h => ⟨(r2, ()), rfl, ?_⟩)
    rw [hr2] at h
    dsimp only at hrl ⊢
    have hcount : ((n : Int) - ((Sk k).length : Int)) + (r2.len : Int) = (n : Int) - ((Sk (k + 1)).length : Int) := by omega
    have hSk2 := hSl (k + 1)
    rw [hcount, w64_in (x := (n : Int) - ((Sk (k + 1)).length : Int)) (by omega) (by omega), hw k (by omega)]
    refine ⟨⟨k + 1, rfl, hlt, rfl, (h.emb (by repeat' (first | with_reducible exact Emb.same _ | exact Emb.nil _ | refine Emb.cons (by with_reducible first | exact sl0 | exact .there sl0 | exact .there sl1 | exact .there sl2 | exact .there sl3 | exact .there sl4 | exact .there sl5 | exact .there sl6 | exact .there sl7 | exact .there sl8 | exact .there sl9 | exact .there sl10 | exact .there sl11 | exact .there sl12) ?_ | refine Emb.skip ?_)))⟩, ?_⟩
    show a2.len - Int.toNat ((k + 1 : Nat) : Int) < a2.len - Int.toNat (k : Int)
    omega
  have hge2 : ys.length ≤ k := by have := of_decide_eq_false hge2; dsimp only at this; omega
  have hSf : (seqS n).filter (fun x => !metB (ys.foldl orB 0) (g x.1)) = Sk k := by
    show _ = List.filter _ _
    rw [List.take_of_length_le hge2]
  rw [List.take_of_length_le hge2] at h
  rw [hSf] at h hrc
  rw [seqS_len] at hrc
  generalize Sk k = T at h hrc hSk
  generalize ys.foldl orB 0 = B at h
  obtain ⟨p1, m1, f1, hf1, h⟩ := flagE (Ok.emb (h) (.cons (A := flagP b _ _ _ _) (by with_reducible first | exact sl0 | exact .there sl0 | exact .there sl1 | exact .there sl2 | exact .there sl3 | exact .there sl4 | exact .there sl5 | exact .there sl6 | exact .there sl7 | exact .there sl8 | exact .there sl9 | exact .there sl10 | exact .there sl11 | exact .there sl12) (.same _)))
  obtain ⟨p2, m2, f2, hf2, h⟩ := flagE (Ok.emb (h) (.cons (A := flagP u _ _ _ _) (by with_reducible first | exact sl0 | exact .there sl0 | exact .there sl1 | exact .there sl2 | exact .there sl3 | exact .there sl4 | exact .there sl5 | exact .there sl6 | exact .there sl7 | exact .there sl8 | exact .there sl9 | exact .there sl10 | exact .there sl11 | exact .there sl12) (.same _)))
  dsimp only at h hr1 ⊢
  refine dr.mk h fun w6 h => ?_
  refine jn.bool (false) (fun J hJ => ?_) ?_
  · refine cs.no (by rw [bne_eq_false_iff_eq]; omega) ?_
    refine nn.mk (ldI.mk (by refine Ok.cellS h (by with_reducible first | exact sl0 | exact .there sl0 | exact .there sl1 | exact .there sl2 | exact .there sl3 | exact .there sl4 | exact .there sl5 | exact .there sl6 | exact .there sl7 | exact .there sl8 | exact .there sl9 | exact .there sl10 | exact .there sl11 | exact .there sl12) ?_; rfl) (nn.mk (ldI.mk (by refine Ok.cellS h (by with_reducible first | exact sl0 | exact .there sl0 | exact .there sl1 | exact .there sl2 | exact .there sl3 | exact .there sl4 | exact .there sl5 | exact .there sl6 | exact .there sl7 | exact .there sl8 | exact .there sl9 | exact .there sl10 | exact .there sl11 | exact .there sl12) ?_; rfl) (cs.no (bne_self_eq_false B) ?_))))
    refine nn.mk (ldP.mk (by refine Ok.cellS h (by with_reducible first | exact sl0 | exact .there sl0 | exact .there sl1 | exact .there sl2 | exact .there sl3 | exact .there sl4 | exact .there sl5 | exact .there sl6 | exact .there sl7 | exact .there sl8 | exact .there sl9 | exact .there sl10 | exact .there sl11 | exact .there sl12) ?_; rfl) (nn.mk (nn.mk (ldP.mk (by refine Ok.cellS h (by with_reducible first | exact sl0 | exact .there sl0 | exact .there sl1 | exact .there sl2 | exact .there sl3 | exact .there sl4 | exact .there sl5 | exact .there sl6 | exact .there sl7 | exact .there sl8 | exact .there sl9 | exact .there sl10 | exact .there sl11 | exact .there sl12) ?_; rfl) (nn.mk ?_)))))
    refine call13 (Len_order (Ok.emb (h) (.cons (A := lineP p1 _ _) (by with_reducible first | exact sl0 | exact .there sl0 | exact .there sl1 | exact .there sl2 | exact .there sl3 | exact .there sl4 | exact .there sl5 | exact .there sl6 | exact .there sl7 | exact .there sl8 | exact .there sl9 | exact .there sl10 | exact .there sl11 | exact .there sl12) (.same _))) ⟨((T.length : Int), ()), rfl, (by refine Ok.cellS h (by with_reducible first | exact sl0 | exact .there sl0 | exact .there sl1 | exact .there sl2 | exact .there sl3 | exact .there sl4 | exact .there sl5 | exact .there sl6 | exact .there sl7 | exact .there sl8 | exact .there sl9 | exact .there sl10 | exact .there sl11 | exact .there sl12) ?_; rfl), ?_⟩)
    exact call13 (Len_order (Ok.emb (h) (.cons (A := lineP p2 _ _) (by with_reducible first | exact sl0 | exact .there sl0 | exact .there sl1 | exact .there sl2 | exact .there sl3 | exact .there sl4 | exact .there sl5 | exact .there sl6 | exact .there sl7 | exact .there sl8 | exact .there sl9 | exact .there sl10 | exact .there sl11 | exact .there sl12) (.same _))) ⟨((T.length : Int), ()), rfl, Jb hJ (bne_self_eq_false (T.length : Int))⟩)
  refine cs.no rfl ?_
  refine lp.mk (fun t w' => ∃ j : Nat, @Eq Int t.1 ((j : Int) + 1) ∧ j ≤ 16 ∧ Ok e [pts b [.pointer (some ⟨p1, 0, none⟩), .int .u32 B, .bool true, .bool false, .map (some m1)], lineP p1 [.bool false] T, pts u [.pointer (some ⟨p2, 0, none⟩), .int .u32 B, .bool true, .bool false, .map (some m2)], lineP p2 [.bool false] T, old e] w')
    (fun t _ => 17 - t.1.toNat) ⟨0, rfl, by decide, (h.emb (by repeat' (first | with_reducible exact Emb.same _ | exact Emb.nil _ | refine Emb.cons (by with_reducible first | exact sl0 | exact .there sl0 | exact .there sl1 | exact .there sl2 | exact .there sl3 | exact .there sl4 | exact .there sl5 | exact .there sl6 | exact .there sl7 | exact .there sl8 | exact .there sl9 | exact .there sl10 | exact .there sl11 | exact .there sl12) ?_ | refine Emb.skip ?_)))⟩ ?_
  clear h
  rintro ⟨(t : Int), _⟩ w7 ⟨j, hj, hj1, h⟩
  dsimp only at hj
  subst hj
  refine cs.mk (fun hlt => ?_) (fun hge3 => ⟨rfl, (h.emb (by repeat' (first | with_reducible exact Emb.same _ | exact Emb.nil _ | refine Emb.cons (by with_reducible first | exact sl0 | exact .there sl0 | exact .there sl1 | exact .there sl2 | exact .there sl3 | exact .there sl4 | exact .there sl5 | exact .there sl6 | exact .there sl7 | exact .there sl8 | exact .there sl9 | exact .there sl10 | exact .there sl11 | exact .there sl12) ?_ | refine Emb.skip ?_)))⟩)
  have hlt : j < 16 := by have := of_decide_eq_true hlt; dsimp only at this; omega
  refine dr.mk h fun w8 h => ?_
  refine nn.mk (ldP.mk (by refine Ok.cellS h (by with_reducible first | exact sl0 | exact .there sl0 | exact .there sl1 | exact .there sl2 | exact .there sl3 | exact .there sl4 | exact .there sl5 | exact .there sl6 | exact .there sl7 | exact .there sl8 | exact .there sl9 | exact .there sl10 | exact .there sl11 | exact .there sl12) ?_; rfl) (nn.mk (nn.mk (ldP.mk (by refine Ok.cellS h (by with_reducible first | exact sl0 | exact .there sl0 | exact .there sl1 | exact .there sl2 | exact .there sl3 | exact .there sl4 | exact .there sl5 | exact .there sl6 | exact .there sl7 | exact .there sl8 | exact .there sl9 | exact .there sl10 | exact .there sl11 | exact .there sl12) ?_; rfl) (nn.mk ?_)))))
  refine call14 (Has_order (Ok.emb (h) (.cons (A := lineP p1 _ _) (by with_reducible first | exact sl0 | exact .there sl0 | exact .there sl1 | exact .there sl2 | exact .there sl3 | exact .there sl4 | exact .there sl5 | exact .there sl6 | exact .there sl7 | exact .there sl8 | exact .there sl9 | exact .there sl10 | exact .there sl11 | exact .there sl12) (.same _))) (by omega) fun w9 h => ⟨(decide (0 ≤ atI T ((j : Int) + 1)), ()), rfl, (by refine Ok.cellS h (by with_reducible first | exact sl0 | exact .there sl0 | exact .there sl1 | exact .there sl2 | exact .there sl3 | exact .there sl4 | exact .there sl5 | exact .there sl6 | exact .there sl7 | exact .there sl8 | exact .there sl9 | exact .there sl10 | exact .there sl11 | exact .there sl12) ?_; rfl), ?_⟩)
  refine call14 (Has_order (Ok.emb (h) (.cons (A := lineP p2 _ _) (by with_reducible first | exact sl0 | exact .there sl0 | exact .there sl1 | exact .there sl2 | exact .there sl3 | exact .there sl4 | exact .there sl5 | exact .there sl6 | exact .there sl7 | exact .there sl8 | exact .there sl9 | exact .there sl10 | exact .there sl11 | exact .there sl12) (.same _))) (by omega) fun w10 h => ⟨(decide (0 ≤ atI T ((j : Int) + 1)), ()), rfl, ?_⟩)
  refine cs.no (by simp) ?_
  dsimp only
  rw [w64_in (x := (j : Int) + 1 + 1) (by omega) (by omega)]
  refine ⟨⟨j + 1, rfl, hlt, (h.emb (by repeat' (first | with_reducible exact Emb.same _ | exact Emb.nil _ | refine Emb.cons (by with_reducible first | exact sl0 | exact .there sl0 | exact .there sl1 | exact .there sl2 | exact .there sl3 | exact .there sl4 | exact .there sl5 | exact .there sl6 | exact .there sl7 | exact .there sl8 | exact .there sl9 | exact .there sl10 | exact .there sl11 | exact .there sl12) ?_ | refine Emb.skip ?_)))⟩, ?_⟩
  show 17 - Int.toNat ((j : Int) + 1 + 1) < 17 - Int.toNat ((j : Int) + 1)
  omega

end Go.Proofs.Ytkhalaoonamkjaa.B
