/- Laws of layer 12: one that clears; bits at once or one by one. -/
import Derived.Test.YtkhalaoonamkjaaLaws12b
namespace Go.Proofs.Ytkhalaoonamkjaa.B
open Go
set_option linter.unusedVariables false

/-- those that came one by one -/
def seqS (n : Nat) : List (Int × Int) := (List.range n).map fun (k : Nat) => ((k : Int) + 1, (1 : Int))

theorem seqS_len (n : Nat) : (seqS n).length = n := by simp [seqS]

theorem seqS_ids (n : Nat) : ids (seqS n) = (List.range n).map fun (k : Nat) => (k : Int) + 1 := by simp [seqS, ids]

theorem seqS_mem {n : Nat} {i : Int} : i ∈ ids (seqS n) ↔ 1 ≤ i ∧ i ≤ n := by
  rw [seqS_ids, List.mem_map]
  constructor
  · rintro ⟨k, hk, rfl⟩
    have := List.mem_range.1 hk
    omega
  · intro h
    exact ⟨(i - 1).toNat, List.mem_range.2 (by omega), by omega⟩

theorem seqS_ok {n : Nat} (h : n ≤ 16) : okL (seqS n) := by
  refine ⟨?_, fun i hi => by have := seqS_mem.1 hi; omega⟩
  rw [seqS_ids]
  refine List.pairwise_map.2 (List.nodup_range.imp fun h h2 => h ?_)
  omega

theorem seqS_succ (n : Nat) : seqS (n + 1) = seqS n ++ [((n : Int) + 1, 1)] := by simp [seqS, List.range_succ]

theorem putL_false (l : List (Int × Int)) (x : Int × Int) : putL false l x = l ++ [x] := by simp [putL, putK]

theorem addL_seq {n : Nat} (h : n < 16) : addL false (seqS n) ((n : Int) + 1) 1 = (0, seqS (n + 1)) := by
  unfold addL
  rw [if_neg (by omega), if_neg (by rw [atI_pos, seqS_mem]; omega), putL_false, seqS_succ]

theorem met_zero {w m : Int} (hw : (Lit.int .u32 w).wf = true) (h0 : w ≠ 0) (hm : m = 0 ∨ m = 1) : metB 0 (w, m) = false := by
  obtain ⟨W, rfl⟩ := T32_ex hw
  rcases hm with rfl | rfl
  · have := met_all (A := 0) (W := W)
    rw [T32_zero] at this
    rw [this]
    simp
    rintro rfl
    exact h0 rfl
  · have := met_one (A := 0) (W := W)
    rw [T32_zero] at this
    rw [this]
    simp

/-- one more that waits, where no bit is there -/
theorem wait_seq {clr : Bool} {n : Nat} {g : Int → Int × Int} {w m : Int} (hn : n < 16) (hw : (Lit.int .u32 w).wf = true) (h0 : w ≠ 0) (hm : m = 0 ∨ m = 1) :
    FQ.wait false true clr ⟨seqS n, 0, g⟩ ((n : Int) + 1) 1 w m = ((0, false, 0), ⟨seqS (n + 1), 0, fun i => if i = (n : Int) + 1 then (w, m) else g i⟩) := by
  have hp : FQ.poll true clr ⟨seqS n, 0, g⟩ w m = ((0, false, 0), ⟨seqS n, 0, g⟩) := by
    unfold FQ.poll
    rw [if_neg (by omega), if_neg (by simp), if_neg (by show ¬ metB 0 (w, m) = true; rw [met_zero hw h0 hm]; simp)]
  unfold FQ.wait
  rw [hp, if_neg (by simp)]
  simp only [addL_seq hn]
  rfl

theorem wakeL_none {clr : Bool} {g : Int → Int × Int} {b : Int} : ∀ {l S : List (Int × Int)}, (∀ x ∈ l, metB b (g x.1) = false) → wakeL clr g l S b = ([], S, b)
  | [], S, _ => rfl
  | x :: r, S, h => by
    rw [wake_no (h x (List.mem_cons_self ..))]
    exact wakeL_none fun y hy => h y (List.mem_cons_of_mem _ hy)

theorem wakeL_first {g : Int → Int × Int} {b : Int} {x : Int × Int} : ∀ {l r S : List (Int × Int)}, (∀ y ∈ l, metB b (g y.1) = false) → metB b (g x.1) = true → wakeL true g (l ++ x :: r) S b = ([(x.1, b)], rmL S x.1, 0)
  | [], r, S, _, hx => by rw [List.nil_append, wake_yes hx, if_pos rfl]
  | y :: l, r, S, h, hx => by
    rw [List.cons_append, wake_no (h y (List.mem_cons_self ..))]
    exact wakeL_first (fun z hz => h z (List.mem_cons_of_mem _ hz)) hx

theorem an_comm {x y : Int} : anB x y = anB y x := by
  show bAnd .u32 x y = bAnd .u32 y x
  rw [bAnd_T, bAnd_T, BitVec.and_comm]

theorem or_zero {x : Int} (hx : (Lit.int .u32 x).wf = true) : orB 0 x = x := by
  obtain ⟨X, rfl⟩ := T32_ex hx
  show bOr .u32 0 (T32 X) = _
  rw [bOr_T, V_T, T32_inj]
  simp

theorem FlagClears_walk {e : World} {a0 : Sl} {a1 : Int} {xs : List Int} (ha : ArgI .u32 e a0 xs) (wa : (Lit.int .u32 a1).wf = true) : sh5 a0 a1 (LawEnd e) e := by
  unfold sh5
  have hr := rd_arg ha
  refine call9 (known_12 (Ok.start e) fun w1 h => ⟨(true, ()), enc_b rfl, ?_⟩)
  refine cs.no rfl ?_
  refine cs.mk (fun _ => ⟨rfl, h⟩) (fun hc => ?_)
  have hle : a0.len ≤ 16 := by have := of_decide_eq_false hc; omega
  refine call10 (New_flag h fun b w2 h => ⟨(some ⟨b, 0, none⟩, ()), rfl, ?_⟩)
  have hw : ∀ n, n < a0.len → w64 ((n : Int) + 1) = ((n + 1 : Nat) : Int) := fun n _ => by rw [w64_in (by omega) (by omega)]; rfl
  refine lp.mk (fun t w' => ∃ (n f : Nat) (g : Int → Int × Int), t.1 = (f : Int) ∧ t.2.1 = (n : Int) ∧ n ≤ a0.len ∧ (∀ (k : Nat) x, k < n → xs[k]? = some x → g ((k : Int) + 1) = (x, 1) ∧ x ≠ 0) ∧
      ((f = 0 ∧ ∀ (k : Nat) x, k < n → xs[k]? = some x → anB x a1 = 0) ∨ (1 ≤ f ∧ f ≤ n ∧ (∀ (k : Nat) x, k < f - 1 → xs[k]? = some x → anB x a1 = 0) ∧ ∃ x, xs[f - 1]? = some x ∧ anB x a1 ≠ 0)) ∧
      Ok e [flagP b false true true ⟨seqS n, 0, g⟩, old e] w')
    (fun t _ => a0.len - t.2.1.toNat) ⟨0, 0, fun _ => (0, 0), rfl, rfl, Nat.zero_le _, fun k x hk => absurd hk (Nat.not_lt_zero _), .inl ⟨rfl, fun k x hk => absurd hk (Nat.not_lt_zero _)⟩, h⟩ ?_
  clear h
  rintro ⟨f', i, _⟩ w3 ⟨n, f, g, hf, hn, hn1, hg, hfirst, h⟩
  dsimp only at hf hn
  subst hf hn
  have hgw : ∀ i ∈ ids (seqS n), ∃ k x, k < n ∧ i = ((k : Nat) : Int) + 1 ∧ xs[k]? = some x ∧ g i = (x, 1) ∧ x ≠ 0 := fun i hi => by
    have h1 := seqS_mem.1 hi
    have hlt : (i - 1).toNat < xs.length := by rw [hr.1]; omega
    have h2 := hg (i - 1).toNat xs[(i - 1).toNat] (by omega) (List.getElem?_eq_getElem hlt)
    rw [show (((i - 1).toNat : Nat) : Int) + 1 = i by omega] at h2
    exact ⟨(i - 1).toNat, _, by omega, by omega, List.getElem?_eq_getElem hlt, h2⟩
  have ho : FQ.ok ⟨seqS n, 0, g⟩ := ⟨seqS_ok (by omega), fun i hi => by
    obtain ⟨k, x, _, _, _, hgi, hx0⟩ := hgw i hi
    show (g i).1 ≠ 0
    rw [hgi]
    exact hx0⟩
  refine cs.mk (fun hlt => ?_) (fun hge => ?_)
  · have hlt : n < a0.len := by have := of_decide_eq_true hlt; dsimp only at this; omega
    have hmu : a0.len - Int.toNat ((n : Int) + 1) < a0.len - Int.toNat (n : Int) := by omega
    refine ix_rd hr (by simp) (by simpa using hlt) fun c o x hx hc => ldI.mk (hc _ _ h.p1) ?_
    rw [Int.toNat_natCast] at hx
    clear hc
    refine cs.mk (fun _ => ⟨rfl, (h.emb (by repeat' (first | with_reducible exact Emb.same _ | exact Emb.nil _ | refine Emb.cons (by with_reducible first | exact sl0 | exact .there sl0 | exact .there sl1 | exact .there sl2 | exact .there sl3 | exact .there sl4 | exact .there sl5 | exact .there sl6 | exact .there sl7 | exact .there sl8 | exact .there sl9 | exact .there sl10 | exact .there sl11 | exact .there sl12) ?_ | refine Emb.skip ?_)))⟩) (fun hx0 => ?_)
    have hx0 : x ≠ 0 := by simpa using hx0
    refine ix_rd hr (by simp) (by simpa using hlt) fun c o y hy hc => ldI.mk (hc _ _ h.p1) ?_
    rw [Int.toNat_natCast, hx] at hy
    cases hy
    clear hc
    have hw1 : w64 ((n : Int) + 1) = (n : Int) + 1 := hw n hlt
    dsimp only
    rw [hw1]
    have hq := wait_seq (clr := true) (g := g) (show n < 16 by omega) (ha.wf x (List.mem_of_getElem? hx)) hx0 (m := 1) (.inr rfl)
    refine call11 (Wait_flag h ho fun w4 h => ⟨((0 : Int), false, (0 : Int), ()), by rw [hq]; rfl, ?_⟩)
    rw [hq] at h
    have hg2 : ∀ (k : Nat) z, k < n + 1 → xs[k]? = some z → (fun i => if i = (n : Int) + 1 then (x, (1 : Int)) else g i) ((k : Int) + 1) = (z, 1) ∧ z ≠ 0 := fun k z hk hz => by
      by_cases hkn : k = n
      · subst hkn
        rw [hx] at hz
        cases hz
        exact ⟨if_pos rfl, hx0⟩
      · dsimp only
        rw [if_neg (by omega)]
        exact hg k z (by omega) hz
    refine jn.at (decide (f = 0 ∧ anB x a1 ≠ 0), ()) (fun w' => Ok e [flagP b false true true ⟨seqS (n + 1), 0, fun i => if i = (n : Int) + 1 then (x, 1) else g i⟩, old e] w') (fun J hJ => cs.mk (fun hf0 => ?_) (fun hf0 => ?_)) (fun w5 h => ?_)
    · have hf0 : f = 0 := by have : (f : Int) = 0 := by simpa using hf0
                             omega
      refine ix_rd hr (by simp) (by simpa using hlt) fun c o y hy hc => ldI.mk (hc _ _ h.p1) ?_
      rw [Int.toNat_natCast, hx] at hy
      cases hy
      have := hJ _ h
      rw [show decide (f = 0 ∧ anB x a1 ≠ 0) = (anB x a1 != 0) by simp [hf0, bne]; rfl] at this
      exact this
    · have hf0 : f ≠ 0 := by have : ¬ (f : Int) = 0 := by simpa using hf0
                             omega
      have := hJ _ h
      rw [show decide (f = 0 ∧ anB x a1 ≠ 0) = false by simp [hf0]] at this
      exact this
    dsimp only
    refine cs.mk (fun hc => ?_) (fun hc => ?_)
    · have hc := of_decide_eq_true hc
      obtain ⟨hf0, hxa⟩ := hc
      subst hf0
      have hall := hfirst.resolve_right (by omega)
      refine ⟨⟨n + 1, n + 1, _, rfl, rfl, by omega, hg2, .inr ⟨by omega, Nat.le_refl _, fun k z hk hz => hall.2 k z (by omega) hz, x, hx, hxa⟩, h⟩, hmu⟩
    · have hc := of_decide_eq_false hc
      refine ⟨⟨n + 1, f, _, rfl, rfl, hlt, hg2, ?_, h⟩, hmu⟩
      rcases hfirst with ⟨hf0, hall⟩ | ⟨h1, h2, h3⟩
      · refine .inl ⟨hf0, fun k z hk hz => ?_⟩
        by_cases hkn : k = n
        · subst hkn
          rw [hx] at hz
          cases hz
          exact Decidable.not_not.1 fun hne => hc ⟨hf0, hne⟩
        · exact hall k z (by omega) hz
      · exact .inr ⟨h1, by omega, h3⟩
  have hge : n = a0.len := by have := of_decide_eq_false hge; dsimp only at this; omega
  refine al.mk h fun c w10 h => ?_
  have h : Ok e (slc 1 ⟨some ⟨c, 0, none⟩, 1, 1⟩ ([a1].map (Value.int .u32)) :: _) _ := Ok.u32s (xs := [a1]) h
  have hrs := rd_slc h
  have hor := or_zero wa
  have hmet : ∀ x, (Lit.int .u32 x).wf = true → metB a1 (x, 1) = (anB x a1 != 0) := fun x _ => by
    unfold metB
    rw [if_neg (show ¬ (1 : Int) = 0 by decide), an_comm]
  refine call12 (Raise_flag (Ok.emb (h) (.cons (A := flagP b _ _ _ _) (by with_reducible first | exact sl0 | exact .there sl0 | exact .there sl1 | exact .there sl2 | exact .there sl3 | exact .there sl4 | exact .there sl5 | exact .there sl6 | exact .there sl7 | exact .there sl8 | exact .there sl9 | exact .there sl10 | exact .there sl11 | exact .there sl12) (.cons (A := slc 1 ⟨some ⟨c, 0, none⟩, 1, 1⟩ _) (by with_reducible first | exact sl0 | exact .there sl0 | exact .there sl1 | exact .there sl2 | exact .there sl3 | exact .there sl4 | exact .there sl5 | exact .there sl6 | exact .there sl7 | exact .there sl8 | exact .there sl9 | exact .there sl10 | exact .there sl11 | exact .there sl12) (.same _)))) ho hrs (by dsimp only; omega) fun r w9 hrl h => ⟨(r, ()), rfl, ?_⟩)
  rcases hfirst with ⟨hf0, hall⟩ | ⟨hf1, hf2, hf3, x, hx, hxa⟩
  · subst hf0
    have hq : FQ.raise true ⟨seqS n, 0, g⟩ [a1] = ([], ⟨seqS n, a1, g⟩) := by
      unfold FQ.raise
      simp only [List.foldl_cons, List.foldl_nil, hor]
      rw [wakeL_none fun y hy => by
        obtain ⟨k, x, hk, _, hxk, hgi, hx0⟩ := hgw y.1 (List.mem_map_of_mem hy)
        rw [hgi, hmet x (ha.wf x (List.mem_of_getElem? hxk)), hall k x hk hxk]
        rfl]
    rw [hq] at h hrl
    dsimp only at h hrl ⊢
    refine cs.yes rfl ?_
    obtain ⟨p, m, f, hf, h⟩ := flagE (Ok.emb (h) (.cons (A := flagP b _ _ _ _) (by with_reducible first | exact sl0 | exact .there sl0 | exact .there sl1 | exact .there sl2 | exact .there sl3 | exact .there sl4 | exact .there sl5 | exact .there sl6 | exact .there sl7 | exact .there sl8 | exact .there sl9 | exact .there sl10 | exact .there sl11 | exact .there sl12) (.same _)))
    refine jn.bool (true) (fun J hJ => ?_) ?_
    · refine cs.yes (by simp at hrl; simp [hrl]) (nn.mk (ldI.mk (by refine Ok.cellS h (by with_reducible first | exact sl0 | exact .there sl0 | exact .there sl1 | exact .there sl2 | exact .there sl3 | exact .there sl4 | exact .there sl5 | exact .there sl6 | exact .there sl7 | exact .there sl8 | exact .there sl9 | exact .there sl10 | exact .there sl11 | exact .there sl12) ?_; rfl) (Jb hJ (beq_self_eq_true a1))))
    refine jn.bool (true) (fun J hJ => ?_) ?_
    · refine cs.yes rfl (nn.mk (ldP.mk (by refine Ok.cellS h (by with_reducible first | exact sl0 | exact .there sl0 | exact .there sl1 | exact .there sl2 | exact .there sl3 | exact .there sl4 | exact .there sl5 | exact .there sl6 | exact .there sl7 | exact .there sl8 | exact .there sl9 | exact .there sl10 | exact .there sl11 | exact .there sl12) ?_; rfl) (nn.mk ?_)))
      refine call13 (Len_order (Ok.emb (h) (.cons (A := lineP p _ _) (by with_reducible first | exact sl0 | exact .there sl0 | exact .there sl1 | exact .there sl2 | exact .there sl3 | exact .there sl4 | exact .there sl5 | exact .there sl6 | exact .there sl7 | exact .there sl8 | exact .there sl9 | exact .there sl10 | exact .there sl11 | exact .there sl12) (.same _))) ⟨(((seqS n).length : Int), ()), rfl, Jb hJ ?_⟩)
      show (((seqS n).length : Int) == (a0.len : Int)) = true
      rw [seqS_len, beq_iff_eq]
      omega
    exact ⟨rfl, (h.emb (by repeat' (first | with_reducible exact Emb.same _ | exact Emb.nil _ | refine Emb.cons (by with_reducible first | exact sl0 | exact .there sl0 | exact .there sl1 | exact .there sl2 | exact .there sl3 | exact .there sl4 | exact .there sl5 | exact .there sl6 | exact .there sl7 | exact .there sl8 | exact .there sl9 | exact .there sl10 | exact .there sl11 | exact .there sl12) ?_ | refine Emb.skip ?_)))⟩
  · have hsplit : seqS n = (seqS n).take (f - 1) ++ ((f : Int), 1) :: (seqS n).drop f := by
      have hlt : f - 1 < (seqS n).length := by rw [seqS_len]; omega
      have := List.drop_eq_getElem_cons hlt
      have hgx : (seqS n)[f - 1] = ((f : Int), 1) := by simp [seqS]; omega
      rw [hgx, show f - 1 + 1 = f by omega] at this
      rw [← this, List.take_append_drop]
    have hgf : g (f : Int) = (x, 1) := by
      have := (hg (f - 1) x (by omega) hx).1
      rw [show (((f - 1 : Nat) : Int) + 1) = (f : Int) by omega] at this
      exact this
    have hq : FQ.raise true ⟨seqS n, 0, g⟩ [a1] = ([((f : Int), a1)], ⟨rmL (seqS n) (f : Int), 0, g⟩) := by
      unfold FQ.raise
      simp only [List.foldl_cons, List.foldl_nil, hor]
      have hw2 := wakeL_first (g := g) (b := a1) (x := ((f : Int), 1)) (l := (seqS n).take (f - 1)) (r := (seqS n).drop f) (S := seqS n) (fun y hy => by
        obtain ⟨j, hj, rfl⟩ := List.getElem_of_mem hy
        have hj2 : j < f - 1 := by rw [List.length_take] at hj; omega
        have hjx : j < xs.length := by rw [hr.1]; omega
        have hgj := hg j xs[j] (by omega) (List.getElem?_eq_getElem hjx)
        have hid : ((seqS n).take (f - 1))[j].1 = (j : Int) + 1 := by simp [seqS]
        rw [hid, hgj.1, hmet _ (ha.wf _ (List.getElem_mem hjx)), hf3 j xs[j] hj2 (List.getElem?_eq_getElem hjx)]
        rfl) (by rw [hgf, hmet x (ha.wf x (List.mem_of_getElem? hx))]; simpa using hxa)
      rw [← hsplit] at hw2
      rw [hw2]
    rw [hq] at h hrl
    dsimp only at h hrl ⊢
    have hin : 0 ≤ atI (seqS n) (f : Int) := atI_pos.2 (seqS_mem.2 (by omega))
    obtain ⟨pp, hpp, hperm⟩ := rmL_perm hin
    have hlen := hperm.length_eq
    rw [seqS_len, List.length_cons] at hlen
    have hout : atI (rmL (seqS n) (f : Int)) (f : Int) < 0 := atI_neg.2 (rmL_ids ho.1)
    refine cs.no (by simp; omega) ?_
    refine jn.bool (true) (fun J hJ => ?_) ?_
    · refine cs.yes (by simp at hrl; simp [hrl]) ?_
      refine ix_flat wkV_len (by decide) (Ok.emb (h) (.cons (A := slc 2 r (flat wkV [((f : Int), a1)])) (by with_reducible first | exact sl0 | exact .there sl0 | exact .there sl1 | exact .there sl2 | exact .there sl3 | exact .there sl4 | exact .there sl5 | exact .there sl6 | exact .there sl7 | exact .there sl8 | exact .there sl9 | exact .there sl10 | exact .there sl11 | exact .there sl12) (.same _))) (Int.le_refl _) (by simp) fun c1 o y hy _ ho hc => ?_
      cases hy
      exact ldI.mk (hc 0 _ rfl _ ⟨_, (Ok.emb (h) (.cons (A := slc 2 r (flat wkV [((f : Int), a1)])) (by with_reducible first | exact sl0 | exact .there sl0 | exact .there sl1 | exact .there sl2 | exact .there sl3 | exact .there sl4 | exact .there sl5 | exact .there sl6 | exact .there sl7 | exact .there sl8 | exact .there sl9 | exact .there sl10 | exact .there sl11 | exact .there sl12) (.same _)))⟩) (Jb hJ (beq_self_eq_true _))
    refine jn.bool (true) (fun J hJ => ?_) ?_
    · refine cs.yes rfl ?_
      refine ix_flat wkV_len (by decide) (Ok.emb (h) (.cons (A := slc 2 r (flat wkV [((f : Int), a1)])) (by with_reducible first | exact sl0 | exact .there sl0 | exact .there sl1 | exact .there sl2 | exact .there sl3 | exact .there sl4 | exact .there sl5 | exact .there sl6 | exact .there sl7 | exact .there sl8 | exact .there sl9 | exact .there sl10 | exact .there sl11 | exact .there sl12) (.same _))) (Int.le_refl _) (by simp) fun c1 o y hy _ ho hc => ?_
      cases hy
      exact ldI.mk (hc 1 _ rfl _ ⟨_, (Ok.emb (h) (.cons (A := slc 2 r (flat wkV [((f : Int), a1)])) (by with_reducible first | exact sl0 | exact .there sl0 | exact .there sl1 | exact .there sl2 | exact .there sl3 | exact .there sl4 | exact .there sl5 | exact .there sl6 | exact .there sl7 | exact .there sl8 | exact .there sl9 | exact .there sl10 | exact .there sl11 | exact .there sl12) (.same _)))⟩) (Jb hJ (beq_self_eq_true _))
    obtain ⟨p, m, ff, hf, h⟩ := flagE (Ok.emb (h) (.cons (A := flagP b _ _ _ _) (by with_reducible first | exact sl0 | exact .there sl0 | exact .there sl1 | exact .there sl2 | exact .there sl3 | exact .there sl4 | exact .there sl5 | exact .there sl6 | exact .there sl7 | exact .there sl8 | exact .there sl9 | exact .there sl10 | exact .there sl11 | exact .there sl12) (.same _)))
    refine jn.bool (true) (fun J hJ => ?_) ?_
    · refine cs.yes rfl (nn.mk (ldI.mk (by refine Ok.cellS h (by with_reducible first | exact sl0 | exact .there sl0 | exact .there sl1 | exact .there sl2 | exact .there sl3 | exact .there sl4 | exact .there sl5 | exact .there sl6 | exact .there sl7 | exact .there sl8 | exact .there sl9 | exact .there sl10 | exact .there sl11 | exact .there sl12) ?_; rfl) ?_))
      exact hJ
    refine jn.bool (true) (fun J hJ => ?_) ?_
    · refine cs.yes rfl (nn.mk (ldP.mk (by refine Ok.cellS h (by with_reducible first | exact sl0 | exact .there sl0 | exact .there sl1 | exact .there sl2 | exact .there sl3 | exact .there sl4 | exact .there sl5 | exact .there sl6 | exact .there sl7 | exact .there sl8 | exact .there sl9 | exact .there sl10 | exact .there sl11 | exact .there sl12) ?_; rfl) (nn.mk ?_)))
      refine call13 (Len_order (Ok.emb (h) (.cons (A := lineP p _ _) (by with_reducible first | exact sl0 | exact .there sl0 | exact .there sl1 | exact .there sl2 | exact .there sl3 | exact .there sl4 | exact .there sl5 | exact .there sl6 | exact .there sl7 | exact .there sl8 | exact .there sl9 | exact .there sl10 | exact .there sl11 | exact .there sl12) (.same _))) ⟨(((rmL (seqS n) (f : Int)).length : Int), ()), rfl, Jb hJ ?_⟩)
      rw [w64_in (by omega) (by omega)]
      show (((rmL (seqS n) (f : Int)).length : Int) == (a0.len : Int) - 1) = true
      rw [beq_iff_eq]
      omega
    refine jn.at (true, ()) (fun w' => Ok e [old e] w') (fun J hJ => cs.yes rfl (nn.mk (ldP.mk (by refine Ok.cellS h (by with_reducible first | exact sl0 | exact .there sl0 | exact .there sl1 | exact .there sl2 | exact .there sl3 | exact .there sl4 | exact .there sl5 | exact .there sl6 | exact .there sl7 | exact .there sl8 | exact .there sl9 | exact .there sl10 | exact .there sl11 | exact .there sl12) ?_; rfl) (nn.mk ?_)))) (fun w' h => ⟨rfl, h⟩)
    refine call14 (Has_order (Ok.emb (h) (.cons (A := lineP p _ _) (by with_reducible first | exact sl0 | exact .there sl0 | exact .there sl1 | exact .there sl2 | exact .there sl3 | exact .there sl4 | exact .there sl5 | exact .there sl6 | exact .there sl7 | exact .there sl8 | exact .there sl9 | exact .there sl10 | exact .there sl11 | exact .there sl12) (.same _))) (by show (rmL (seqS n) (f : Int)).length ≤ _; omega) fun w11 h => ⟨(false, ()), ?_, hJ _ (h.emb (by repeat' (first | with_reducible exact Emb.same _ | exact Emb.nil _ | refine Emb.cons (by with_reducible first | exact sl0 | exact .there sl0 | exact .there sl1 | exact .there sl2 | exact .there sl3 | exact .there sl4 | exact .there sl5 | exact .there sl6 | exact .there sl7 | exact .there sl8 | exact .there sl9 | exact .there sl10 | exact .there sl11 | exact .there sl12) ?_ | refine Emb.skip ?_)))⟩)
    rw [show decide (0 ≤ atI (rmL (seqS n) (f : Int)) (f : Int)) = false by simpa using hout]
    rfl

end Go.Proofs.Ytkhalaoonamkjaa.B
