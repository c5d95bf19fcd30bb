/- Contracts of the package flag: raising. -/
import Derived.Test.YtkhalaoonamkjaaFlag
namespace Go.Proofs.Ytkhalaoonamkjaa.B
open Go
set_option linter.unusedVariables false

abbrev wkV (p : Int × Int) : List Value := [.int .i64 p.1, .int .u32 p.2]

theorem wkV_len : ∀ a, (wkV a).length = 2 := fun _ => rfl

theorem wkV_one : ∀ a, ∀ v ∈ wkV a, v.oneCell' = true := by
  intro a v hv
  simp at hv
  rcases hv with rfl | rfl <;> rfl

theorem slT_woken : SlT Pg 31 2 := .of (by kernel_rfl)

theorem Clip_woken {e w L s vs R} (h : Ok e (slc 2 s vs :: L) w) (k : ∀ s' w', s'.len = s.len → Ok e (slc 2 s' vs :: L) w' → R [vS s'] w') : sh32 s R w := by
  unfold sh32
  exact sb.clip h fun s' hl h' => k s' w hl h'

theorem wake_yes {clr : Bool} {g : Int → Int × Int} {x r S b} (h : metB b (g x.1) = true) : wakeL clr g (x :: r) S b = if clr then ([(x.1, b)], rmL S x.1, 0) else ((x.1, b) :: (wakeL clr g r (rmL S x.1) b).1, (wakeL clr g r (rmL S x.1) b).2) := by
  rw [wakeL, if_pos h]

theorem wake_no {clr : Bool} {g : Int → Int × Int} {x r S b} (h : metB b (g x.1) = false) : wakeL clr g (x :: r) S b = wakeL clr g r S b := by
  rw [wakeL, if_neg (by rw [h]; simp)]

theorem mem_rmL {S : List (Int × Int)} {i j : Int} (h : okL S) (hi : i ∈ ids S) (hne : i ≠ j) : i ∈ ids (rmL S j) := by
  by_cases h0 : 0 ≤ atI S j
  · obtain ⟨p, hp, hpm⟩ := rmL_perm h0
    have := (hpm.map Prod.fst).mem_iff.1 hi
    rw [List.map_cons, hp] at this
    rcases List.mem_cons.1 this with h1 | h1
    · exact absurd h1 hne
    · exact h1
  · rw [rmL_none (by omega)]
    exact hi

theorem drop_ne {S : List (Int × Int)} {n : Nat} {x y : Int × Int} (h : okL S) (hx : S[n]? = some x) (hy : y ∈ S.drop (n + 1)) : y.1 ≠ x.1 := by
  intro he
  have hlt := (List.getElem?_eq_some_iff.1 hx).1
  obtain ⟨j, hj, rfl⟩ := List.getElem_of_mem hy
  rw [List.getElem_drop] at he
  rw [List.length_drop] at hj
  have hn := List.pairwise_iff_getElem.1 h.1 n (n + 1 + j) (by rw [List.length_map]; omega) (by rw [List.length_map]; omega) (by omega)
  rw [List.getElem?_eq_getElem hlt] at hx
  cases hx
  apply hn
  rw [List.getElem_map, List.getElem_map, he]

set_option maxHeartbeats 1000000 in
theorem Raise_flag {e w L A b byPri many clr q s xs R} (h : Ok e (flagP b byPri many clr q :: A :: L) w) (ho : q.ok) (hr : Rd e A .u32 s xs) (hb : s.len ≤ 2 ^ 20)
    (k : ∀ r w', r.len = (q.raise clr xs).1.length → Ok e (slc 2 r (flat wkV (q.raise clr xs).1) :: flagP b byPri many clr (q.raise clr xs).2 :: A :: L) w' → R [vS r] w') : sh12 (some ⟨b, 0, none⟩) s R w := by
  unfold sh12
  refine lp.mk (fun t w' => ∃ n : Nat, t.1 = (n : Int) ∧ n ≤ s.len ∧ Ok e (flagP b byPri many clr ⟨q.S, (xs.take n).foldl orB q.bits, q.g⟩ :: A :: L) w')
    (fun t _ => s.len - t.1.toNat) ⟨0, rfl, Nat.zero_le _, h⟩ ?_
  clear h
  rintro ⟨i, _⟩ w1 ⟨n, hn, hnl, h⟩
  dsimp only at hn
  subst hn
  refine cs.mk (fun hlt => ?_) (fun hge => ?_)
  · have hlt : n < s.len := by have := of_decide_eq_true hlt; dsimp only at this; omega
    refine ix_rd hr (by simp) (by simpa using hlt) fun c o x hx hc => ldI.mk (hc _ _ h.p1) ?_
    rw [Int.toNat_natCast] at hx
    obtain ⟨p, m, f, hf, h⟩ := flagE h
    (repeat (first | with_reducible refine dr.mk h fun _ h => ?_ | with_reducible refine nn.mk ?_ | ((first | with_reducible apply ldI.mk | with_reducible apply ldB.mk | with_reducible apply ldP.mk | with_reducible apply ldS.mk | with_reducible apply ldM.mk | with_reducible apply ldF.mk | with_reducible apply ldG.mk); (· exact (by refine Ok.cellS h (by with_reducible first | exact sl0 | exact .there sl0 | exact .there sl1 | exact .there sl2 | exact .there sl3 | exact .there sl4 | exact .there sl5 | exact .there sl6 | exact .there sl7 | exact .there sl8 | exact .there sl9 | exact .there sl10 | exact .there sl11 | exact .there sl12) ?_; rfl))) | (refine st1.mk (Ok.bring h (by with_reducible first | exact sl0 | exact .there sl0 | exact .there sl1 | exact .there sl2 | exact .there sl3 | exact .there sl4 | exact .there sl5 | exact .there sl6 | exact .there sl7 | exact .there sl8 | exact .there sl9 | exact .there sl10 | exact .there sl11 | exact .there sl12)) (by simp) fun _ h => ?_; dsimp only [List.set] at h)))
    have hw : w64 ((n : Int) + 1) = ((n + 1 : Nat) : Int) := by rw [w64_in (by omega) (by omega)]; rfl
    dsimp only
    rw [hw]
    refine ⟨⟨n + 1, rfl, hlt, ?_⟩, ?_⟩
    · rw [List.take_add_one, hx, List.foldl_append]
      exact flagI (q := ⟨q.S, orB ((xs.take n).foldl orB q.bits) x, q.g⟩) hf h
    · show s.len - Int.toNat ((n + 1 : Nat) : Int) < s.len - Int.toNat (n : Int)
      omega
  have hge : s.len ≤ n := by have := of_decide_eq_false hge; dsimp only at this; omega
  rw [List.take_of_length_le (by rw [hr.1]; exact hge)] at h
  unfold FQ.raise at k
  obtain ⟨S, b00, g⟩ := q
  dsimp only at *
  generalize xs.foldl orB b00 = b0 at *
  have l1 := okL_len ho.1
  dsimp only at l1
  obtain ⟨p, m, f, hf, h⟩ := flagE h
  dsimp only at hf
  refine nn.mk (ldP.mk (by refine Ok.cellS h (by with_reducible first | exact sl0 | exact .there sl0 | exact .there sl1 | exact .there sl2 | exact .there sl3 | exact .there sl4 | exact .there sl5 | exact .there sl6 | exact .there sl7 | exact .there sl8 | exact .there sl9 | exact .there sl10 | exact .there sl11 | exact .there sl12) ?_; rfl) (nn.mk ?_))
  refine call30 (Row_order (Ok.emb (h) (.cons (A := lineP p _ _) (by with_reducible first | exact sl0 | exact .there sl0 | exact .there sl1 | exact .there sl2 | exact .there sl3 | exact .there sl4 | exact .there sl5 | exact .there sl6 | exact .there sl7 | exact .there sl8 | exact .there sl9 | exact .there sl10 | exact .there sl11 | exact .there sl12) (.same _))) (by dsimp only; omega) fun s2 w2 hs2 h => ⟨(s2, ()), rfl, ?_⟩)
  have h := flagI (q := ⟨S, b0, g⟩) hf (L := slc 2 s2 (prs S) :: A :: L) (Ok.emb (h) (.cons (A := pts b _) (by with_reducible first | exact sl0 | exact .there sl0 | exact .there sl1 | exact .there sl2 | exact .there sl3 | exact .there sl4 | exact .there sl5 | exact .there sl6 | exact .there sl7 | exact .there sl8 | exact .there sl9 | exact .there sl10 | exact .there sl11 | exact .there sl12) (.cons (A := lineP p _ _) (by with_reducible first | exact sl0 | exact .there sl0 | exact .there sl1 | exact .there sl2 | exact .there sl3 | exact .there sl4 | exact .there sl5 | exact .there sl6 | exact .there sl7 | exact .there sl8 | exact .there sl9 | exact .there sl10 | exact .there sl11 | exact .there sl12) (.cons (A := mpP m f) (by with_reducible first | exact sl0 | exact .there sl0 | exact .there sl1 | exact .there sl2 | exact .there sl3 | exact .there sl4 | exact .there sl5 | exact .there sl6 | exact .there sl7 | exact .there sl8 | exact .there sl9 | exact .there sl10 | exact .there sl11 | exact .there sl12) (.same _)))))
  clear hf
  have h := h.p1.slcNil 2
  refine lp.mk (fun t w' => ∃ (n : Nat) (O S1 : List (Int × Int)), t.2.1 = (n : Int) ∧ n ≤ S.length ∧ wakeL clr g S S b0 = (O ++ (wakeL clr g (S.drop n) S1 b0).1, (wakeL clr g (S.drop n) S1 b0).2) ∧ S1.Sublist S ∧ (∀ y ∈ S.drop n, y.1 ∈ ids S1) ∧ O.length ≤ n ∧
      Ok e (slc 2 t.1 (flat wkV O) :: slc 2 s2 (prs S) :: flagP b byPri many clr ⟨S1, b0, g⟩ :: A :: L) w')
    (fun t _ => S.length - t.2.1.toNat) ⟨0, [], S, rfl, Nat.zero_le _, rfl, List.Sublist.refl _, fun y hy => List.mem_map_of_mem hy, Nat.le_refl _, h⟩ ?_
  clear h
  rintro ⟨out, i, _⟩ w3 ⟨n, O, S1, hn, hnl, hw, hs, hm, hO, h⟩
  dsimp only at hn h
  subst hn
  have hout := slc_flat_len wkV_len (by decide) h
  have ho1 : FQ.ok ⟨S1, b0, g⟩ := fok_sub ho hs
  refine cs.mk (fun hlt => ?_) (fun hge => ?_)
  · have hlt : n < S.length := by have := of_decide_eq_true hlt; dsimp only at this hs2; omega
    refine ix_pr h.p1 (by simp) (by simpa using hlt) fun c o x hx _ _ c1 c2 => ldI.mk (c1 _ ⟨_, h.p1⟩) (ldI.mk (c2 _ ⟨_, h.p1⟩) ?_)
    rw [Int.toNat_natCast] at hx
    clear c1 c2
    have hd : S.drop n = x :: S.drop (n + 1) := by
      rw [List.drop_eq_getElem_cons hlt]
      rw [List.getElem?_eq_getElem hlt] at hx
      cases hx
      rfl
    have hxm : x.1 ∈ ids S1 := hm x (by rw [hd]; exact List.mem_cons_self ..)
    rw [hd] at hw
    have hw1 : w64 ((n : Int) + 1) = ((n + 1 : Nat) : Int) := by rw [w64_in (by omega) (by omega)]; rfl
    have hmu : S.length - Int.toNat ((n + 1 : Nat) : Int) < S.length - Int.toNat (n : Int) := by omega
    refine al.mk h fun c w4 h => ?_
    obtain ⟨p, m, f, hf, h⟩ := flagE (Ok.emb (h) (.cons (A := flagP b byPri many clr ⟨S1, b0, g⟩) (by with_reducible first | exact sl0 | exact .there sl0 | exact .there sl1 | exact .there sl2 | exact .there sl3 | exact .there sl4 | exact .there sl5 | exact .there sl6 | exact .there sl7 | exact .there sl8 | exact .there sl9 | exact .there sl10 | exact .there sl11 | exact .there sl12) (.same _)))
    dsimp only at hf
    (repeat (first | with_reducible refine dr.mk h fun _ h => ?_ | with_reducible refine nn.mk ?_ | ((first | with_reducible apply ldI.mk | with_reducible apply ldB.mk | with_reducible apply ldP.mk | with_reducible apply ldS.mk | with_reducible apply ldM.mk | with_reducible apply ldF.mk | with_reducible apply ldG.mk); (· exact (by refine Ok.cellS h (by with_reducible first | exact sl0 | exact .there sl0 | exact .there sl1 | exact .there sl2 | exact .there sl3 | exact .there sl4 | exact .there sl5 | exact .there sl6 | exact .there sl7 | exact .there sl8 | exact .there sl9 | exact .there sl10 | exact .there sl11 | exact .there sl12) ?_; rfl))) | (refine st1.mk (Ok.bring h (by with_reducible first | exact sl0 | exact .there sl0 | exact .there sl1 | exact .there sl2 | exact .there sl3 | exact .there sl4 | exact .there sl5 | exact .there sl6 | exact .there sl7 | exact .there sl8 | exact .there sl9 | exact .there sl10 | exact .there sl11 | exact .there sl12)) (by simp) fun _ h => ?_; dsimp only [List.set] at h)))
    refine ef.lookup mapT_iw (Ok.emb (h) (.cons (A := mpP m f) (by with_reducible first | exact sl0 | exact .there sl0 | exact .there sl1 | exact .there sl2 | exact .there sl3 | exact .there sl4 | exact .there sl5 | exact .there sl6 | exact .there sl7 | exact .there sl8 | exact .there sl9 | exact .there sl10 | exact .there sl11 | exact .there sl12) (.same _))) (((g x.1).1, (g x.1).2, ()), ()) (by rw [hf x.1 hxm]; rfl) ⟨(by refine Ok.cellS h (by with_reducible first | exact sl0 | exact .there sl0 | exact .there sl1 | exact .there sl2 | exact .there sl3 | exact .there sl4 | exact .there sl5 | exact .there sl6 | exact .there sl7 | exact .there sl8 | exact .there sl9 | exact .there sl10 | exact .there sl11 | exact .there sl12) ?_; rfl), ?_⟩
    have h0 := h
    refine call31 (a0 := ((g x.1).1, (g x.1).2, ())) (met_flag h (ho1.2 x.1 hxm) fun w5 h => ⟨(metB b0 ((g x.1).1, (g x.1).2), ()), rfl, ?_⟩)
    dsimp only
    rw [hw1]
    have h := flagI (q := ⟨S1, b0, g⟩) (p := p) (m := m) hf (Ok.emb (h) (.cons (A := pts b _) (by with_reducible first | exact sl0 | exact .there sl0 | exact .there sl1 | exact .there sl2 | exact .there sl3 | exact .there sl4 | exact .there sl5 | exact .there sl6 | exact .there sl7 | exact .there sl8 | exact .there sl9 | exact .there sl10 | exact .there sl11 | exact .there sl12) (.cons (A := lineP p _ _) (by with_reducible first | exact sl0 | exact .there sl0 | exact .there sl1 | exact .there sl2 | exact .there sl3 | exact .there sl4 | exact .there sl5 | exact .there sl6 | exact .there sl7 | exact .there sl8 | exact .there sl9 | exact .there sl10 | exact .there sl11 | exact .there sl12) (.cons (A := mpP m f) (by with_reducible first | exact sl0 | exact .there sl0 | exact .there sl1 | exact .there sl2 | exact .there sl3 | exact .there sl4 | exact .there sl5 | exact .there sl6 | exact .there sl7 | exact .there sl8 | exact .there sl9 | exact .there sl10 | exact .there sl11 | exact .there sl12) (.same _)))))
    refine cs.mk (fun hme => ?_) (fun hme => ?_)
    · have hme : metB b0 (g x.1) = false := by simpa using hme
      rw [wake_no hme] at hw
      refine ⟨⟨n + 1, O, S1, rfl, hlt, hw, hs, fun y hy => hm y (by rw [hd]; exact List.mem_cons_of_mem _ hy), by omega, ?_⟩, hmu⟩
      show Ok e (slc 2 out (flat wkV O) :: _) _
      exact (h.emb (by repeat' (first | with_reducible exact Emb.same _ | exact Emb.nil _ | refine Emb.cons (by with_reducible first | exact sl0 | exact .there sl0 | exact .there sl1 | exact .there sl2 | exact .there sl3 | exact .there sl4 | exact .there sl5 | exact .there sl6 | exact .there sl7 | exact .there sl8 | exact .there sl9 | exact .there sl10 | exact .there sl11 | exact .there sl12) ?_ | refine Emb.skip ?_)))
    · have hme : metB b0 (g x.1) = true := by simpa using hme
      rw [wake_yes hme] at hw
      (repeat (first | with_reducible refine dr.mk h fun _ h => ?_ | with_reducible refine nn.mk ?_ | ((first | with_reducible apply ldI.mk | with_reducible apply ldB.mk | with_reducible apply ldP.mk | with_reducible apply ldS.mk | with_reducible apply ldM.mk | with_reducible apply ldF.mk | with_reducible apply ldG.mk); (· exact (by refine Ok.cellS h (by with_reducible first | exact sl0 | exact .there sl0 | exact .there sl1 | exact .there sl2 | exact .there sl3 | exact .there sl4 | exact .there sl5 | exact .there sl6 | exact .there sl7 | exact .there sl8 | exact .there sl9 | exact .there sl10 | exact .there sl11 | exact .there sl12) ?_; rfl))) | (refine st1.mk (Ok.bring h (by with_reducible first | exact sl0 | exact .there sl0 | exact .there sl1 | exact .there sl2 | exact .there sl3 | exact .there sl4 | exact .there sl5 | exact .there sl6 | exact .there sl7 | exact .there sl8 | exact .there sl9 | exact .there sl10 | exact .there sl11 | exact .there sl12)) (by simp) fun _ h => ?_; dsimp only [List.set] at h)))
      refine call22 (Drop_flag h ho1 fun w6 h => ⟨(decide (0 ≤ atI S1 x.1), ()), rfl, ?_⟩)
      dsimp only at h
      clear hf
      obtain ⟨p, m, f, hf, h⟩ := flagE h
      (repeat (first | with_reducible refine dr.mk h fun _ h => ?_ | with_reducible refine nn.mk ?_ | ((first | with_reducible apply ldI.mk | with_reducible apply ldB.mk | with_reducible apply ldP.mk | with_reducible apply ldS.mk | with_reducible apply ldM.mk | with_reducible apply ldF.mk | with_reducible apply ldG.mk); (· exact (by refine Ok.cellS h (by with_reducible first | exact sl0 | exact .there sl0 | exact .there sl1 | exact .there sl2 | exact .there sl3 | exact .there sl4 | exact .there sl5 | exact .there sl6 | exact .there sl7 | exact .there sl8 | exact .there sl9 | exact .there sl10 | exact .there sl11 | exact .there sl12) ?_; rfl))) | (refine st1.mk (Ok.bring h (by with_reducible first | exact sl0 | exact .there sl0 | exact .there sl1 | exact .there sl2 | exact .there sl3 | exact .there sl4 | exact .there sl5 | exact .there sl6 | exact .there sl7 | exact .there sl8 | exact .there sl9 | exact .there sl10 | exact .there sl11 | exact .there sl12)) (by simp) fun _ h => ?_; dsimp only [List.set] at h)))
      refine al.mk h fun c2 w7 h => ?_
      refine ef.append1 (n := 1) slT_woken (by decide) (Ok.emb (h) (.cons (A := pts c2 _) (by with_reducible first | exact sl0 | exact .there sl0 | exact .there sl1 | exact .there sl2 | exact .there sl3 | exact .there sl4 | exact .there sl5 | exact .there sl6 | exact .there sl7 | exact .there sl8 | exact .there sl9 | exact .there sl10 | exact .there sl11 | exact .there sl12) (.cons (A := slc 2 out _) (by with_reducible first | exact sl0 | exact .there sl0 | exact .there sl1 | exact .there sl2 | exact .there sl3 | exact .there sl4 | exact .there sl5 | exact .there sl6 | exact .there sl7 | exact .there sl8 | exact .there sl9 | exact .there sl10 | exact .there sl11 | exact .there sl12) (.same _)))) rfl (wkV_one (x.1, b0)) (by omega) fun r w8 hr2 h => ?_
      rw [show flat wkV O ++ [Value.int .i64 x.1, Value.int .u32 b0] = flat wkV (O ++ [(x.1, b0)]) by rw [flat_append]; rfl] at h
      (repeat (first | with_reducible refine dr.mk h fun _ h => ?_ | with_reducible refine nn.mk ?_ | ((first | with_reducible apply ldI.mk | with_reducible apply ldB.mk | with_reducible apply ldP.mk | with_reducible apply ldS.mk | with_reducible apply ldM.mk | with_reducible apply ldF.mk | with_reducible apply ldG.mk); (· exact (by refine Ok.cellS h (by with_reducible first | exact sl0 | exact .there sl0 | exact .there sl1 | exact .there sl2 | exact .there sl3 | exact .there sl4 | exact .there sl5 | exact .there sl6 | exact .there sl7 | exact .there sl8 | exact .there sl9 | exact .there sl10 | exact .there sl11 | exact .there sl12) ?_; rfl))) | (refine st1.mk (Ok.bring h (by with_reducible first | exact sl0 | exact .there sl0 | exact .there sl1 | exact .there sl2 | exact .there sl3 | exact .there sl4 | exact .there sl5 | exact .there sl6 | exact .there sl7 | exact .there sl8 | exact .there sl9 | exact .there sl10 | exact .there sl11 | exact .there sl12)) (by simp) fun _ h => ?_; dsimp only [List.set] at h)))
      refine cs.mk (fun hcl => ?_) (fun hcl => ?_)
      · subst hcl
        rw [if_pos rfl] at hw
        (repeat (first | with_reducible refine dr.mk h fun _ h => ?_ | with_reducible refine nn.mk ?_ | ((first | with_reducible apply ldI.mk | with_reducible apply ldB.mk | with_reducible apply ldP.mk | with_reducible apply ldS.mk | with_reducible apply ldM.mk | with_reducible apply ldF.mk | with_reducible apply ldG.mk); (· exact (by refine Ok.cellS h (by with_reducible first | exact sl0 | exact .there sl0 | exact .there sl1 | exact .there sl2 | exact .there sl3 | exact .there sl4 | exact .there sl5 | exact .there sl6 | exact .there sl7 | exact .there sl8 | exact .there sl9 | exact .there sl10 | exact .there sl11 | exact .there sl12) ?_; rfl))) | (refine st1.mk (Ok.bring h (by with_reducible first | exact sl0 | exact .there sl0 | exact .there sl1 | exact .there sl2 | exact .there sl3 | exact .there sl4 | exact .there sl5 | exact .there sl6 | exact .there sl7 | exact .there sl8 | exact .there sl9 | exact .there sl10 | exact .there sl11 | exact .there sl12)) (by simp) fun _ h => ?_; dsimp only [List.set] at h)))
        have h := flagI (q := ⟨rmL S1 x.1, 0, g⟩) (p := p) (m := m) hf (Ok.emb (h) (.cons (A := pts b _) (by with_reducible first | exact sl0 | exact .there sl0 | exact .there sl1 | exact .there sl2 | exact .there sl3 | exact .there sl4 | exact .there sl5 | exact .there sl6 | exact .there sl7 | exact .there sl8 | exact .there sl9 | exact .there sl10 | exact .there sl11 | exact .there sl12) (.cons (A := lineP p _ _) (by with_reducible first | exact sl0 | exact .there sl0 | exact .there sl1 | exact .there sl2 | exact .there sl3 | exact .there sl4 | exact .there sl5 | exact .there sl6 | exact .there sl7 | exact .there sl8 | exact .there sl9 | exact .there sl10 | exact .there sl11 | exact .there sl12) (.cons (A := mpP m f) (by with_reducible first | exact sl0 | exact .there sl0 | exact .there sl1 | exact .there sl2 | exact .there sl3 | exact .there sl4 | exact .there sl5 | exact .there sl6 | exact .there sl7 | exact .there sl8 | exact .there sl9 | exact .there sl10 | exact .there sl11 | exact .there sl12) (.same _)))))
        refine call32 (Clip_woken (Ok.emb (h) (.cons (A := slc 2 r _) (by with_reducible first | exact sl0 | exact .there sl0 | exact .there sl1 | exact .there sl2 | exact .there sl3 | exact .there sl4 | exact .there sl5 | exact .there sl6 | exact .there sl7 | exact .there sl8 | exact .there sl9 | exact .there sl10 | exact .there sl11 | exact .there sl12) (.same _))) fun r2 w9 hl9 h => ⟨(r2, ()), rfl, ?_⟩)
        rw [hw] at k
        dsimp only at hr2 hl9
        exact k r2 _ (by simp only [List.length_append, List.length_singleton]; omega) (h.emb (by repeat' (first | with_reducible exact Emb.same _ | exact Emb.nil _ | refine Emb.cons (by with_reducible first | exact sl0 | exact .there sl0 | exact .there sl1 | exact .there sl2 | exact .there sl3 | exact .there sl4 | exact .there sl5 | exact .there sl6 | exact .there sl7 | exact .there sl8 | exact .there sl9 | exact .there sl10 | exact .there sl11 | exact .there sl12) ?_ | refine Emb.skip ?_)))
      · subst hcl
        rw [if_neg (by simp)] at hw
        have h := flagI (q := ⟨rmL S1 x.1, b0, g⟩) (p := p) (m := m) hf (Ok.emb (h) (.cons (A := pts b _) (by with_reducible first | exact sl0 | exact .there sl0 | exact .there sl1 | exact .there sl2 | exact .there sl3 | exact .there sl4 | exact .there sl5 | exact .there sl6 | exact .there sl7 | exact .there sl8 | exact .there sl9 | exact .there sl10 | exact .there sl11 | exact .there sl12) (.cons (A := lineP p _ _) (by with_reducible first | exact sl0 | exact .there sl0 | exact .there sl1 | exact .there sl2 | exact .there sl3 | exact .there sl4 | exact .there sl5 | exact .there sl6 | exact .there sl7 | exact .there sl8 | exact .there sl9 | exact .there sl10 | exact .there sl11 | exact .there sl12) (.cons (A := mpP m f) (by with_reducible first | exact sl0 | exact .there sl0 | exact .there sl1 | exact .there sl2 | exact .there sl3 | exact .there sl4 | exact .there sl5 | exact .there sl6 | exact .there sl7 | exact .there sl8 | exact .there sl9 | exact .there sl10 | exact .there sl11 | exact .there sl12) (.same _)))))
        refine ⟨⟨n + 1, O ++ [(x.1, b0)], rmL S1 x.1, rfl, hlt, ?_, (rmL_sub ..).trans hs, fun y hy => ?_, by simp only [List.length_append, List.length_singleton]; omega, ?_⟩, hmu⟩
        · rw [hw, List.append_assoc]; rfl
        · exact mem_rmL ho1.1 (hm y (by rw [hd]; exact List.mem_cons_of_mem _ hy)) (drop_ne ho.1 hx hy)
        · show Ok e (slc 2 r (flat wkV (O ++ [(x.1, b0)])) :: _) _
          exact (h.emb (by repeat' (first | with_reducible exact Emb.same _ | exact Emb.nil _ | refine Emb.cons (by with_reducible first | exact sl0 | exact .there sl0 | exact .there sl1 | exact .there sl2 | exact .there sl3 | exact .there sl4 | exact .there sl5 | exact .there sl6 | exact .there sl7 | exact .there sl8 | exact .there sl9 | exact .there sl10 | exact .there sl11 | exact .there sl12) ?_ | refine Emb.skip ?_)))
  · have hge : S.length ≤ n := by have := of_decide_eq_false hge; dsimp only at this hs2; omega
    rw [List.drop_eq_nil_of_le hge] at hw
    simp only [wakeL, List.append_nil] at hw
    rw [hw] at k
    dsimp only at k
    refine call32 (Clip_woken h fun r2 w9 hl9 h => ⟨(r2, ()), rfl, ?_⟩)
    dsimp only at hl9
    exact k r2 _ (by omega) (h.emb (by repeat' (first | with_reducible exact Emb.same _ | exact Emb.nil _ | refine Emb.cons (by with_reducible first | exact sl0 | exact .there sl0 | exact .there sl1 | exact .there sl2 | exact .there sl3 | exact .there sl4 | exact .there sl5 | exact .there sl6 | exact .there sl7 | exact .there sl8 | exact .there sl9 | exact .there sl10 | exact .there sl11 | exact .there sl12) ?_ | refine Emb.skip ?_)))

end Go.Proofs.Ytkhalaoonamkjaa.B
