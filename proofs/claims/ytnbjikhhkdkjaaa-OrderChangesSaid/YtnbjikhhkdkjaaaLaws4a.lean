/- Laws of layer 4 that ask the package order alone. -/
import Derived.Test.YtnbjikhhkdkjaaaOrder3
import Derived.Test.YtnbjikhhkdkjaaaRow
namespace Go.Proofs.Ytnbjikhhkdkjaaa.B
open Go
set_option linter.unusedVariables false

/-- what a law ends with -/
abbrev LawEnd (e : World) : List Value → World → Prop := fun vs w' => vs = [.bool true] ∧ Ok e [old e] w'

theorem known_4 {e w L R} (h : Ok e L w) (k : ∀ w', Ok e L w' → R [.bool true] w') : sh10 R w := by
  unfold sh10
  refine call11 (New_order h fun p w1 h => ⟨(some ⟨p, 0, none⟩, ()), rfl, ?_⟩)
  refine cs.no rfl ?_
  refine call12 (Add_order h (by decide) fun w2 h => ⟨((0 : Int), ()), enc_i (by decide), ?_⟩)
  have h : Ok e (lineP p [.bool true] [(1, 5)] :: L) w2 := h
  refine call12 (Add_order h (by decide) fun w3 h => ⟨((0 : Int), ()), enc_i (by decide), ?_⟩)
  have h : Ok e (lineP p [.bool true] [(2, 3), (1, 5)] :: L) w3 := h
  refine call12 (Add_order h (by decide) fun w4 h => ⟨((-41 : Int), ()), enc_i (by decide), ?_⟩)
  have h : Ok e (lineP p [.bool true] [(2, 3), (1, 5)] :: L) w4 := h
  refine nn.mk ?_
  refine call16 (First_order h fun w5 h => ⟨(((2 : Int), (3 : Int), ()), true, ()), rfl, ?_⟩)
  refine al.mk h fun b1 w6 h => st1.mk h (by simp) fun w7 h => st1.mk h (by simp) fun w8 h => nn.mk ?_
  have h : Ok e (pts b1 [.int .i64 2, .int .i64 3] :: _) w8 := h
  refine call17 (Pri_order h.p1 (by decide) fun w9 h => ⟨((5 : Int), true, ()), rfl, ?_⟩)
  refine call14 (Change_order h (by decide) fun w10 h => ⟨(true, ()), enc_b (by decide), ?_⟩)
  have h : Ok e (lineP p [.bool true] [(1, 2), (2, 3)] :: _) w10 := h
  refine call13 (Take_order h (by decide) fun w11 h => ⟨(((1 : Int), (2 : Int), ()), true, ()), rfl, ?_⟩)
  have h : Ok e (lineP p [.bool true] [(2, 3)] :: _) w11 := h
  refine al.mk h fun b2 w12 h => st1.mk h (by simp) fun w13 h => st1.mk h (by simp) fun w14 h => ?_
  have h : Ok e (pts b2 [.int .i64 1, .int .i64 2] :: lineP p [.bool true] [(2, 3)] :: pts b1 [.int .i64 2, .int .i64 3] :: L) w14 := h
  dsimp only
  repeat first
    | refine jn.mk fun J hJ => ?_
    | refine cs.yes rfl ?_
    | refine hJ _ _ ?_
    | refine nn.mk ?_
    | refine ldI.mk (h.cell rfl) ?_
    | refine ldI.mk (h.p2.cell rfl) ?_
    | refine call15 (Len_order h.p1 ⟨((1 : Int), ()), rfl, ?_⟩)
    | refine call18 (Has_order h.p1 (by decide) fun w15 h => ⟨(true, ()), enc_b (by decide), ?_⟩)
    | dsimp only
  refine call18 (Has_order h (by decide) fun w16 h => ⟨(false, ()), enc_b (by decide), ?_⟩)
  refine hJ _ _ ?_
  exact k w16 h.drop.drop.drop

theorem OrderZero_walk {e : World} {a0 : Int} (_ : (Lit.int .i64 a0).wf = true) : sh5 a0 (LawEnd e) e := by
  unfold sh5
  refine call10 (known_4 (Ok.start e) fun w1 h => ⟨(true, ()), enc_b rfl, ?_⟩)
  refine cs.no rfl ?_
  refine al.mk h fun p w2 h => ?_
  have h : Ok e [lineP p [] [], old e] w2 := lineI (s := ⟨none, 0, 0⟩) (h.slcNil 2).p1
  refine call16 (First_order h fun w3 h => ⟨(((0 : Int), (0 : Int), ()), false, ()), rfl, ?_⟩)
  refine al.mk h fun b1 w6 h => st1.mk h (by simp) fun w7 h => st1.mk h (by simp) fun w8 h => ?_
  have h : Ok e (pts b1 [.int .i64 0, .int .i64 0] :: _) w8 := h
  refine call17 (Pri_order h.p1 (by decide) fun w9 h => ⟨((0 : Int), false, ()), rfl, ?_⟩)
  refine call18 (Has_order h (by decide) fun w10 h => ⟨(false, ()), rfl, ?_⟩)
  dsimp only
  refine jn.mk fun J hJ => cs.yes rfl ?_
  refine call15 (Len_order h ⟨((0 : Int), ()), rfl, hJ _ _ ?_⟩)
  refine jn.mk fun J hJ => cs.yes rfl ?_
  refine call19 (Row_order h (by decide) fun s w11 hs h => ⟨(s, ()), rfl, hJ _ _ ?_⟩)
  refine jn.mk fun J hJ => cs.yes (by simp [hs]) (hJ _ _ ?_)
  refine jn.mk fun J hJ => cs.yes rfl ?_
  refine ldI.mk (h.p2.cell rfl) (hJ _ _ ?_)
  refine jn.mk fun J hJ => cs.yes rfl (hJ _ _ ?_)
  refine jn.mk fun J hJ => cs.yes rfl ?_
  refine call20 (Remove_order h.p1 (by decide) fun w12 h => ⟨(false, ()), rfl, hJ _ _ ?_⟩)
  exact ⟨rfl, h.drop.drop.drop⟩

theorem OrderArrives_walk {e : World} {a0 a1 : Sl} {xs ys : List Int} (ha : ArgI .u8 e a0 xs) (ha1 : ArgI .u8 e a1 ys) : sh4 a0 a1 (LawEnd e) e := by
  unfold sh4
  refine call10 (known_4 (Ok.start e) fun w1 h => ⟨(true, ()), enc_b rfl, ?_⟩)
  refine cs.no rfl ?_
  refine jn.bool (decide (a0.len > 16) || decide (a1.len > 60)) (fun J hJ => cs.mk (fun h1 => ?_) (fun h1 => ?_)) ?_
  · have h1 : a0.len > 16 := by have := of_decide_eq_true h1; omega
    simpa [h1] using hJ
  · have h1 : ¬ a0.len > 16 := by have := of_decide_eq_false h1; omega
    rw [decide_eq_false h1, Bool.false_or] at hJ
    rw [show decide ((a1.len : Int) > 60) = decide (a1.len > 60) from decide_eq_decide.2 (by omega)]
    exact hJ
  dsimp only
  refine cs.mk (fun _ => ⟨rfl, h⟩) (fun h1 => ?_)
  have hle : a0.len ≤ 16 ∧ a1.len ≤ 60 := by simp at h1; omega
  refine call11 (New_order h fun p w2 h => ⟨(some ⟨p, 0, none⟩, ()), rfl, ?_⟩)
  dsimp only
  refine lp.mk (fun t w' => ∃ l : List (Int × Int), ∃ n : Nat, t.1 = (n : Int) ∧ n ≤ a0.len ∧ l.map Prod.fst = (List.range n).map (fun (i : Nat) => ((i : Int) + 1)) ∧ Ok e [lineP p [.bool false] l, old e] w')
    (fun t _ => a0.len - t.1.toNat) ⟨[], 0, rfl, Nat.zero_le _, rfl, h⟩ ?_
  rintro ⟨i, _⟩ w3 ⟨l, n, hn, hn1, hl, h⟩
  dsimp only at hn
  subst hn
  have hlen : l.length = n := by have := congrArg List.length hl; simpa using this
  refine cs.mk (fun hlt => ?_) (fun hge => ?_)
  · have hlt : n < a0.len := by have := of_decide_eq_true hlt; dsimp only at this; omega
    refine ix_arg ha (by simp) (by simpa using hlt) fun b o x hx hc => ?_
    refine ldI.mk (hc _ ⟨_, h.p1⟩) ?_
    have hxr := ha.u8 (List.mem_of_getElem? hx)
    have hm : Int.tmod x 16 = x % 16 := Int.tmod_eq_emod_of_nonneg hxr.1
    rw [hm, w64_in (x := x % 16) (by omega) (by omega), w64_in (by omega) (by omega), w64_in (by omega) (by omega)]
    have hno : atI l ((n : Int) + 1) = -1 := atI_none fun q hq => by
      have : q.1 ∈ l.map Prod.fst := List.mem_map_of_mem hq
      rw [hl] at this
      obtain ⟨j, hj, hj2⟩ := List.mem_map.1 this
      have := List.mem_range.1 hj
      omega
    refine call12 (Add_order h (by omega) fun w4 h => ⟨((0 : Int), ()), enc_i ?_, ?_⟩)
    · simp only [addL]; rw [if_neg (by omega), if_neg (by omega)]
    · have he : (addL false l ((n : Int) + 1) (1 + x % 16)).2 = l ++ [((n : Int) + 1, 1 + x % 16)] := by
        simp only [addL]; rw [if_neg (by omega), if_neg (by omega)]; simp [putL, putK]
      rw [he] at h
      refine ⟨⟨_, n + 1, rfl, hlt, ?_, h⟩, ?_⟩
      · rw [List.map_append, hl, List.range_succ, List.map_append]; rfl
      · show _ - Int.toNat ((n : Int) + 1) < _ - Int.toNat _
        omega
  · have hge : a0.len ≤ n := by have := of_decide_eq_false hge; dsimp only at this; omega
    have hna : n = a0.len := by omega
    subst hna
    refine lp.mk (fun t w' => ∃ l : List (Int × Int), ∃ n : Nat, t.1 = (n : Int) ∧ n ≤ a1.len ∧ l.map Prod.fst = (List.range a0.len).map (fun (i : Nat) => ((i : Int) + 1)) ∧ Ok e [lineP p [.bool false] l, old e] w')
      (fun t _ => a1.len - t.1.toNat) ⟨l, 0, rfl, Nat.zero_le _, hl, h⟩ ?_
    clear hl hlen h l w3
    rintro ⟨i, _⟩ w3 ⟨l, n, hn, hn1, hl, h⟩
    dsimp only at hn
    subst hn
    have hlen : l.length = a0.len := by have := congrArg List.length hl; simpa using this
    refine jn.bool (decide (n < a1.len ∧ 0 < a0.len)) (fun J hJ => cs.mk (fun h1 => ?_) (fun h1 => ?_)) ?_
    · have h1 : n < a1.len := by have := of_decide_eq_true h1; dsimp only at this; omega
      rw [show decide ((a0.len : Int) > 0) = decide (n < a1.len ∧ 0 < a0.len) from decide_eq_decide.2 (by omega)]
      exact hJ
    · have h1 : ¬ n < a1.len := by have := of_decide_eq_false h1; dsimp only at this; omega
      rw [decide_eq_false (by omega)] at hJ
      exact hJ
    dsimp only
    refine cs.mk (fun h1 => ?_) (fun h1 => ?_)
    · obtain ⟨h1, h2⟩ := of_decide_eq_true h1
      refine dr.mk h fun w4 h => ?_
      refine ix_arg ha1 (by simp) (by simpa using h1) fun b o x hx hc => ?_
      refine ldI.mk (hc _ ⟨_, h.p1⟩) (ob.mk (by omega) ?_)
      refine ix_arg ha1 (by simp) (by simpa using h1) fun b' o' x' hx' hc' => ?_
      refine ldI.mk (hc' _ ⟨_, h.p1⟩) ?_
      rw [hx] at hx'
      cases hx'
      have hxr := ha1.u8 (List.mem_of_getElem? hx)
      have hm : Int.tmod (w64 x) (a0.len : Int) = x % (a0.len : Int) := by
        rw [w64_in (by omega) (by omega)]; exact Int.tmod_eq_emod_of_nonneg hxr.1
      have hmb : 0 ≤ x % (a0.len : Int) ∧ x % (a0.len : Int) < a0.len := ⟨Int.emod_nonneg _ (by omega), Int.emod_lt_of_pos _ (by omega)⟩
      have hf : Int.fdiv x (2 ^ 4) = x / 16 := Int.fdiv_eq_ediv_of_nonneg _ (by decide)
      have hat : atI l (1 + x % (a0.len : Int)) = (x % (a0.len : Int)) := by
        have hj : (x % (a0.len : Int)).toNat < l.length := by omega
        have hg : ∀ m, m < a0.len → ∀ q, l[m]? = some q → q.1 = (m : Int) + 1 := by
          intro m hm' q hq
          have : (l.map Prod.fst)[m]? = some q.1 := by rw [List.getElem?_map, hq]; rfl
          rw [hl, List.getElem?_map, List.getElem?_range hm'] at this
          simpa using this.symm
        have := atI_some (l := l) (id := 1 + x % (a0.len : Int)) (n := (x % (a0.len : Int)).toNat) (List.getElem?_eq_getElem hj) (by
          rw [hg _ (by omega) _ (List.getElem?_eq_getElem hj)]; omega) (fun m hm' q hq => by rw [hg m (by omega) q hq]; omega)
        rw [this]; omega
      rw [hm, hf, w64_in (x := x / 16) (by omega) (by omega), w64_in (by omega) (by omega), w64_in (by omega) (by omega)]
      refine call14 (Change_order h (by omega) fun w5 h => ⟨(true, ()), enc_b ?_, ?_⟩)
      · simp only [chgL]; rw [if_neg (by omega)]; rfl
      · have he : (chgL false l (1 + x % (a0.len : Int)) (1 + x / 16)).2 = l.set (x % (a0.len : Int)).toNat (1 + x % (a0.len : Int), 1 + x / 16) := by
          simp only [chgL]; rw [if_neg (by omega), hat]; rfl
        rw [he] at h
        refine cs.no rfl ?_
        refine ⟨⟨_, n + 1, ?_, h1, ?_, h⟩, ?_⟩
        · show w64 _ = _
          rw [w64_in (by omega) (by omega)]; rfl
        · rw [List.map_set, hl]
          apply List.ext_getElem?
          intro m
          rw [List.getElem?_set]
          split
          · next hm => subst hm
                       split
                       · next hm2 => rw [List.getElem?_map, List.getElem?_range (by omega)]; simp; omega
                       · next hm2 => simp at hm2; omega
          · rfl
        · show _ - (w64 _).toNat < _ - Int.toNat _
          rw [w64_in (by omega) (by omega)]
          omega
    · refine lp.mk (fun t w' => ∃ l : List (Int × Int), ∃ n : Nat, t.1 = (n : Int) ∧ n ≤ a0.len ∧ l.map Prod.fst = ((List.range a0.len).map (fun (i : Nat) => ((i : Int) + 1))).drop n ∧ Ok e [lineP p [.bool false] l, old e] w')
        (fun t _ => a0.len - t.1.toNat) ⟨l, 0, rfl, Nat.zero_le _, hl, h⟩ ?_
      clear hl hlen h l w3 h1 n hn1
      rintro ⟨i, _⟩ w3 ⟨l, n, hn, hn1, hl, h⟩
      dsimp only at hn
      subst hn
      have hlen : l.length = a0.len - n := by have := congrArg List.length hl; simpa using this
      refine cs.mk (fun hlt => ?_) (fun hge => ?_)
      · have hlt : n < a0.len := by have := of_decide_eq_true hlt; dsimp only at this; omega
        cases l with
        | nil => simp at hlen; omega
        | cons x r =>
          have hx : x.1 = (n : Int) + 1 ∧ r.map Prod.fst = ((List.range a0.len).map (fun (i : Nat) => ((i : Int) + 1))).drop (n + 1) := by
            rw [List.drop_eq_getElem_cons (by simpa using hlt)] at hl
            simp only [List.map_cons, List.cons.injEq] at hl
            refine ⟨?_, hl.2⟩
            rw [hl.1]; simp
          refine call13 (Take_order h (by omega) fun w4 h => ⟨((x.1, x.2, ()), true, ()), rfl, ?_⟩)
          refine al.mk h fun b1 w6 h => st1.mk h (by simp) fun w7 h => st1.mk h (by simp) fun w8 h => ?_
          dsimp only
          refine jn.bool false (fun J hJ => cs.no rfl (ldI.mk (h.cell rfl) ?_)) ?_
          · rw [hx.1, w64_in (by omega) (by omega), show (((n : Int) + 1) != ((n : Int) + 1)) = false by simp]
            exact hJ
          · refine cs.no rfl ?_
            refine ⟨⟨r, n + 1, ?_, hlt, hx.2, h.drop⟩, ?_⟩
            · show w64 _ = _
              rw [w64_in (by omega) (by omega)]; rfl
            · show _ - (w64 _).toNat < _ - Int.toNat _
              rw [w64_in (by omega) (by omega)]
              omega
      · have hge : a0.len ≤ n := by have := of_decide_eq_false hge; dsimp only at this; omega
        have : l = [] := List.eq_nil_of_length_eq_zero (by omega)
        subst this
        refine nn.mk ?_
        refine call15 (Len_order h ⟨((0 : Int), ()), rfl, ?_⟩)
        exact ⟨rfl, h.drop⟩

end Go.Proofs.Ytnbjikhhkdkjaaa.B
