/- Contracts of the laws' own eventflag. -/
import Derived.Test.YtkhalaoonamkjaaFlag2
import Derived.Test.YtkhalaoonamkjaaRef4
namespace Go.Proofs.Ytkhalaoonamkjaa.B
open Go
set_option linter.unusedVariables false

theorem IDs_ref4 {e w L q byPri l R} (h : Ok e (refP q byPri l :: L) w) (hb : l.length ≤ 2 ^ 20) (k : ∀ s w', s.len = l.length → Ok e (slc 1 s (ints (ids l)) :: refP q byPri l :: L) w' → R [vS s] w') : sh37 (some ⟨q, 0, none⟩) R w := by
  unfold sh37
  refine lp.mk (fun t w' => ∃ n : Nat, t.2.1 = (n : Int) ∧ n ≤ l.length ∧ Ok e (slc 1 t.1 (ints (ids (l.take n))) :: refP q byPri l :: L) w')
    (fun t _ => l.length - t.2.1.toNat) ⟨0, rfl, Nat.zero_le _, h.slcNil 1⟩ ?_
  clear h
  rintro ⟨out, i, _⟩ w2 ⟨n, hn, hnl, h⟩
  dsimp only at hn h
  subst hn
  have hout := h.slc_len
  rw [ints_len, List.length_map, List.length_take] at hout
  have h0 := h
  obtain ⟨s, hs, h⟩ := refE (Ok.emb (h) (.cons (A := refP q _ _) (by with_reducible first | exact sl0 | exact .there sl0 | exact .there sl1 | exact .there sl2 | exact .there sl3 | exact .there sl4 | exact .there sl5 | exact .there sl6 | exact .there sl7 | exact .there sl8 | exact .there sl9 | exact .there sl10 | exact .there sl11 | exact .there sl12) (.same _)))
  refine nn.mk (ldS.mk (by refine Ok.cellS h (by with_reducible first | exact sl0 | exact .there sl0 | exact .there sl1 | exact .there sl2 | exact .there sl3 | exact .there sl4 | exact .there sl5 | exact .there sl6 | exact .there sl7 | exact .there sl8 | exact .there sl9 | exact .there sl10 | exact .there sl11 | exact .there sl12) ?_; rfl) ?_)
  refine cs.mk (fun hlt => ?_) (fun hge => ?_)
  · have hlt : n < l.length := by have := of_decide_eq_true hlt; dsimp only at this; omega
    refine nn.mk (ldS.mk (by refine Ok.cellS h (by with_reducible first | exact sl0 | exact .there sl0 | exact .there sl1 | exact .there sl2 | exact .there sl3 | exact .there sl4 | exact .there sl5 | exact .there sl6 | exact .there sl7 | exact .there sl8 | exact .there sl9 | exact .there sl10 | exact .there sl11 | exact .there sl12) ?_; rfl) ?_)
    refine ix_pr (Ok.emb (h) (.cons (A := slc 2 s (prs l)) (by with_reducible first | exact sl0 | exact .there sl0 | exact .there sl1 | exact .there sl2 | exact .there sl3 | exact .there sl4 | exact .there sl5 | exact .there sl6 | exact .there sl7 | exact .there sl8 | exact .there sl9 | exact .there sl10 | exact .there sl11 | exact .there sl12) (.same _))) (by simp) (by simpa using hlt) fun c o x hx _ _ c1 c2 => ldI.mk (c1 _ ⟨_, (Ok.emb (h) (.cons (A := slc 2 s (prs l)) (by with_reducible first | exact sl0 | exact .there sl0 | exact .there sl1 | exact .there sl2 | exact .there sl3 | exact .there sl4 | exact .there sl5 | exact .there sl6 | exact .there sl7 | exact .there sl8 | exact .there sl9 | exact .there sl10 | exact .there sl11 | exact .there sl12) (.same _)))⟩) ?_
    rw [Int.toNat_natCast] at hx
    clear c1 c2
    refine al.mk h fun d2 w6 h => ?_
    refine ef.append1 (n := 1) slT_int (by decide) (Ok.emb (h) (.cons (A := pts d2 _) (by with_reducible first | exact sl0 | exact .there sl0 | exact .there sl1 | exact .there sl2 | exact .there sl3 | exact .there sl4 | exact .there sl5 | exact .there sl6 | exact .there sl7 | exact .there sl8 | exact .there sl9 | exact .there sl10 | exact .there sl11 | exact .there sl12) (.cons (A := slc 1 out _) (by with_reducible first | exact sl0 | exact .there sl0 | exact .there sl1 | exact .there sl2 | exact .there sl3 | exact .there sl4 | exact .there sl5 | exact .there sl6 | exact .there sl7 | exact .there sl8 | exact .there sl9 | exact .there sl10 | exact .there sl11 | exact .there sl12) (.same _)))) rfl (by intro v hv; simp at hv; subst hv; rfl) (by dsimp only; omega) fun r w7 hr h => ?_
    have hw : w64 ((n : Int) + 1) = ((n + 1 : Nat) : Int) := by rw [w64_in (by omega) (by omega)]; rfl
    dsimp only
    rw [hw]
    have h := refI (s := s) (Ok.emb (h) (.cons (A := pts q _) (by with_reducible first | exact sl0 | exact .there sl0 | exact .there sl1 | exact .there sl2 | exact .there sl3 | exact .there sl4 | exact .there sl5 | exact .there sl6 | exact .there sl7 | exact .there sl8 | exact .there sl9 | exact .there sl10 | exact .there sl11 | exact .there sl12) (.cons (A := slc 2 s _) (by with_reducible first | exact sl0 | exact .there sl0 | exact .there sl1 | exact .there sl2 | exact .there sl3 | exact .there sl4 | exact .there sl5 | exact .there sl6 | exact .there sl7 | exact .there sl8 | exact .there sl9 | exact .there sl10 | exact .there sl11 | exact .there sl12) (.same _))))
    refine ⟨⟨n + 1, rfl, hlt, ?_⟩, ?_⟩
    · have h := (Ok.emb (h) (.cons (A := slc 1 r _) (by with_reducible first | exact sl0 | exact .there sl0 | exact .there sl1 | exact .there sl2 | exact .there sl3 | exact .there sl4 | exact .there sl5 | exact .there sl6 | exact .there sl7 | exact .there sl8 | exact .there sl9 | exact .there sl10 | exact .there sl11 | exact .there sl12) (.cons (A := refP q _ _) (by with_reducible first | exact sl0 | exact .there sl0 | exact .there sl1 | exact .there sl2 | exact .there sl3 | exact .there sl4 | exact .there sl5 | exact .there sl6 | exact .there sl7 | exact .there sl8 | exact .there sl9 | exact .there sl10 | exact .there sl11 | exact .there sl12) (.same _))))
      rw [List.take_add_one, hx, ids, List.map_append]
      simpa [ints] using h
    · show l.length - Int.toNat ((n + 1 : Nat) : Int) < l.length - Int.toNat (n : Int)
      omega
  · have hge : l.length ≤ n := by have := of_decide_eq_false hge; dsimp only at this; omega
    rw [List.take_of_length_le hge] at h0
    exact k out w2 (by omega) h0

/-- a wish's cells -/
abbrev wvV (p : Int × Int) : List Value := [.int .u32 p.1, .int .i64 p.2]

theorem wvV_len : ∀ a, (wvV a).length = 2 := fun _ => rfl

abbrev rflC (p : Nat) (W : List (Int × Int)) (bits : Int) (many clr : Bool) : List Value := .pointer (some ⟨p, 0, none⟩) :: (flat wvV W ++ [.int .u32 bits, .bool many, .bool clr])

theorem wvV_all {W : List (Int × Int)} (hW : W.length = 17) : (flat wvV W).length = 34 := by rw [flat_len wvV_len, hW]

theorem rflC_bits {p W bits many clr} (hW : W.length = 17) : (rflC p W bits many clr)[0 + 35]? = some (.int .u32 bits) := by
  show (flat wvV W ++ [.int .u32 bits, .bool many, .bool clr])[34]? = _
  rw [List.getElem?_append_right (by rw [wvV_all hW]; decide), wvV_all hW]; rfl

theorem rflC_many {p W bits many clr} (hW : W.length = 17) : (rflC p W bits many clr)[0 + 36]? = some (.bool many) := by
  show (flat wvV W ++ [.int .u32 bits, .bool many, .bool clr])[35]? = _
  rw [List.getElem?_append_right (by rw [wvV_all hW]; decide), wvV_all hW]; rfl

theorem rflC_clr {p W bits many clr} (hW : W.length = 17) : (rflC p W bits many clr)[0 + 37]? = some (.bool clr) := by
  show (flat wvV W ++ [.int .u32 bits, .bool many, .bool clr])[36]? = _
  rw [List.getElem?_append_right (by rw [wvV_all hW]; decide), wvV_all hW]; rfl

theorem rflC_w {p W bits many clr} {i j : Nat} {x : Int × Int} {v : Value} (h : W[i]? = some x) (hv : (wvV x)[j]? = some v) : (rflC p W bits many clr)[0 + 1 + i * 2 + j]? = some v := by
  rw [show 0 + 1 + i * 2 + j = i * 2 + j + 1 by omega]
  show (flat wvV W ++ [.int .u32 bits, .bool many, .bool clr])[i * 2 + j]? = _
  have hlt := (List.getElem?_eq_some_iff.1 h).1
  have hj : j < 2 := (List.getElem?_eq_some_iff.1 hv).1
  rw [List.getElem?_append_left (by rw [flat_len wvV_len]; omega), flat_get wvV_len h hj]
  exact hv

theorem rflC_setB {p W bits many clr b} (hW : W.length = 17) : (rflC p W bits many clr).set (0 + 35) (.int .u32 b) = rflC p W b many clr := by
  show _ :: (flat wvV W ++ [Value.int .u32 bits, .bool many, .bool clr]).set 34 (.int .u32 b) = _
  rw [List.set_append_right _ _ (by rw [wvV_all hW]; decide), wvV_all hW]; rfl

theorem rflC_setW {p W bits many clr} {i j : Nat} {x y : Int × Int} {v : Value} (h : W[i]? = some x) (hj : j < 2) (hv : (wvV x).set j v = wvV y) : (rflC p W bits many clr).set (0 + 1 + i * 2 + j) v = rflC p (W.set i y) bits many clr := by
  rw [show 0 + 1 + i * 2 + j = i * 2 + j + 1 by omega]
  show _ :: (flat wvV W ++ [Value.int .u32 bits, .bool many, .bool clr]).set (i * 2 + j) v = _
  have hlt := (List.getElem?_eq_some_iff.1 h).1
  rw [List.set_append_left _ _ (by rw [flat_len wvV_len]; omega), flat_set wvV_len h hj hv]

theorem rflC_len {p W bits many clr} (hW : W.length = 17) : (rflC p W bits many clr).length = 38 := by simp [wvV_all hW]

def heldH (S : List (Int × Int)) (g : Int → Int × Int) (W : List (Int × Int)) : Prop := W.length = 17 ∧ ∀ i ∈ ids S, W[i.toNat]? = some (g i)

def rflP (u : Nat) (byPri many clr : Bool) (q : FQ) : SP := fun h => ∃ p W, heldH q.S q.g W ∧ oksH [pts u (rflC p W q.bits many clr), refP p byPri q.S] h

theorem rflE {e w L u byPri many clr q} (h : Ok e (rflP u byPri many clr q :: L) w) : ∃ p W, heldH q.S q.g W ∧ Ok e (pts u (rflC p W q.bits many clr) :: refP p byPri q.S :: L) w := by
  obtain ⟨p, h⟩ := h.exE
  obtain ⟨W, h⟩ := h.exE
  obtain ⟨hf, h⟩ := h.pureE
  exact ⟨p, W, hf, h.unpack⟩

theorem rflI {e w L u byPri many clr q p W} (hf : heldH q.S q.g W) (h : Ok e (pts u (rflC p W q.bits many clr) :: refP p byPri q.S :: L) w) : Ok e (rflP u byPri many clr q :: L) w :=
  (Ok.pack (M := [pts u (rflC p W q.bits many clr), refP p byPri q.S]) h).imp fun k hk => ⟨p, W, hf, hk⟩

theorem New_ref12 {e w L byPri many clr bits R} (h : Ok e L w) (k : ∀ b w', Ok e (rflP b byPri many clr (fqNew bits) :: L) w' → R [.pointer (some ⟨b, 0, none⟩)] w') : sh17 byPri many clr bits R w := by
  unfold sh17
  refine al.mk h fun p w1 h => al.mk h fun b w4 h => k b w4 ?_
  have h : Ok e (pts b (rflC p (List.replicate 17 (0, 0)) bits many clr) :: pts p [.bool byPri, vS ⟨none, 0, 0⟩] :: L) w4 := h
  have h := refI (l := []) (h.slcNil 2).p2
  exact rflI (q := fqNew bits) ⟨rfl, fun i hi => by simp [fqNew] at hi⟩ h.p1

theorem meets_ref12 {e w L u byPri many clr q want mode R} (h : Ok e (rflP u byPri many clr q :: L) w) (k : ∀ w', Ok e (rflP u byPri many clr q :: L) w' → R [.bool (metB q.bits (want, mode))] w') : sh35 (some ⟨u, 0, none⟩) (want, mode, ()) R w := by
  unfold sh35
  refine al.mk h fun c w1 h => ?_
  obtain ⟨p, W, hf, h⟩ := rflE (Ok.emb (h) (.cons (A := rflP u _ _ _ _) (by with_reducible first | exact sl0 | exact .there sl0 | exact .there sl1 | exact .there sl2 | exact .there sl3 | exact .there sl4 | exact .there sl5 | exact .there sl6 | exact .there sl7 | exact .there sl8 | exact .there sl9 | exact .there sl10 | exact .there sl11 | exact .there sl12) (.same _)))
  have hW := hf.1
  (repeat (first | with_reducible refine dr.mk h fun _ h => ?_ | with_reducible refine nn.mk ?_ | ((first | with_reducible apply ldI.mk | with_reducible apply ldB.mk | with_reducible apply ldP.mk | with_reducible apply ldS.mk | with_reducible apply ldM.mk | with_reducible apply ldF.mk | with_reducible apply ldG.mk); (· exact (by refine Ok.cellS h (by with_reducible first | exact sl0 | exact .there sl0 | exact .there sl1 | exact .there sl2 | exact .there sl3 | exact .there sl4 | exact .there sl5 | exact .there sl6 | exact .there sl7 | exact .there sl8 | exact .there sl9 | exact .there sl10 | exact .there sl11 | exact .there sl12) ?_; rfl))) | (refine st1.mk (Ok.bring h (by with_reducible first | exact sl0 | exact .there sl0 | exact .there sl1 | exact .there sl2 | exact .there sl3 | exact .there sl4 | exact .there sl5 | exact .there sl6 | exact .there sl7 | exact .there sl8 | exact .there sl9 | exact .there sl10 | exact .there sl11 | exact .there sl12)) (by simp) fun _ h => ?_; dsimp only [List.set] at h)))
  refine cs.mk (fun h1 => ?_) (fun h1 => ?_)
  · have h1 : mode = 0 := by simpa using h1
    refine dr.mk h fun w2 h => nn.mk (ldI.mk (Ok.cellS h (by with_reducible first | exact sl0 | exact .there sl0 | exact .there sl1 | exact .there sl2 | exact .there sl3 | exact .there sl4 | exact .there sl5 | exact .there sl6 | exact .there sl7 | exact .there sl8 | exact .there sl9 | exact .there sl10 | exact .there sl11 | exact .there sl12) (rflC_bits hW)) ?_)
    (repeat (first | with_reducible refine dr.mk h fun _ h => ?_ | with_reducible refine nn.mk ?_ | ((first | with_reducible apply ldI.mk | with_reducible apply ldB.mk | with_reducible apply ldP.mk | with_reducible apply ldS.mk | with_reducible apply ldM.mk | with_reducible apply ldF.mk | with_reducible apply ldG.mk); (· exact (by refine Ok.cellS h (by with_reducible first | exact sl0 | exact .there sl0 | exact .there sl1 | exact .there sl2 | exact .there sl3 | exact .there sl4 | exact .there sl5 | exact .there sl6 | exact .there sl7 | exact .there sl8 | exact .there sl9 | exact .there sl10 | exact .there sl11 | exact .there sl12) ?_; rfl))) | (refine st1.mk (Ok.bring h (by with_reducible first | exact sl0 | exact .there sl0 | exact .there sl1 | exact .there sl2 | exact .there sl3 | exact .there sl4 | exact .there sl5 | exact .there sl6 | exact .there sl7 | exact .there sl8 | exact .there sl9 | exact .there sl10 | exact .there sl11 | exact .there sl12)) (by simp) fun _ h => ?_; dsimp only [List.set] at h)))
    have := k _ (rflI (q := q) (p := p) (W := W) hf (h.emb (by repeat' (first | with_reducible exact Emb.same _ | exact Emb.nil _ | refine Emb.cons (by with_reducible first | exact sl0 | exact .there sl0 | exact .there sl1 | exact .there sl2 | exact .there sl3 | exact .there sl4 | exact .there sl5 | exact .there sl6 | exact .there sl7 | exact .there sl8 | exact .there sl9 | exact .there sl10 | exact .there sl11 | exact .there sl12) ?_ | refine Emb.skip ?_))))
    rw [metB, if_pos h1] at this
    exact this
  · have h1 : ¬ mode = 0 := by simpa using h1
    refine dr.mk h fun w2 h => nn.mk (ldI.mk (Ok.cellS h (by with_reducible first | exact sl0 | exact .there sl0 | exact .there sl1 | exact .there sl2 | exact .there sl3 | exact .there sl4 | exact .there sl5 | exact .there sl6 | exact .there sl7 | exact .there sl8 | exact .there sl9 | exact .there sl10 | exact .there sl11 | exact .there sl12) (rflC_bits hW)) ?_)
    (repeat (first | with_reducible refine dr.mk h fun _ h => ?_ | with_reducible refine nn.mk ?_ | ((first | with_reducible apply ldI.mk | with_reducible apply ldB.mk | with_reducible apply ldP.mk | with_reducible apply ldS.mk | with_reducible apply ldM.mk | with_reducible apply ldF.mk | with_reducible apply ldG.mk); (· exact (by refine Ok.cellS h (by with_reducible first | exact sl0 | exact .there sl0 | exact .there sl1 | exact .there sl2 | exact .there sl3 | exact .there sl4 | exact .there sl5 | exact .there sl6 | exact .there sl7 | exact .there sl8 | exact .there sl9 | exact .there sl10 | exact .there sl11 | exact .there sl12) ?_; rfl))) | (refine st1.mk (Ok.bring h (by with_reducible first | exact sl0 | exact .there sl0 | exact .there sl1 | exact .there sl2 | exact .there sl3 | exact .there sl4 | exact .there sl5 | exact .there sl6 | exact .there sl7 | exact .there sl8 | exact .there sl9 | exact .there sl10 | exact .there sl11 | exact .there sl12)) (by simp) fun _ h => ?_; dsimp only [List.set] at h)))
    have := k _ (rflI (q := q) (p := p) (W := W) hf (h.emb (by repeat' (first | with_reducible exact Emb.same _ | exact Emb.nil _ | refine Emb.cons (by with_reducible first | exact sl0 | exact .there sl0 | exact .there sl1 | exact .there sl2 | exact .there sl3 | exact .there sl4 | exact .there sl5 | exact .there sl6 | exact .there sl7 | exact .there sl8 | exact .there sl9 | exact .there sl10 | exact .there sl11 | exact .there sl12) ?_ | refine Emb.skip ?_))))
    rw [metB, if_neg h1] at this
    exact this

theorem got_ref12 {e w L u byPri many clr q R} (h : Ok e (rflP u byPri many clr q :: L) w) (k : ∀ w', Ok e (rflP u byPri many clr ⟨q.S, if clr then 0 else q.bits, q.g⟩ :: L) w' → R [.int .u32 q.bits] w') : sh36 (some ⟨u, 0, none⟩) R w := by
  unfold sh36
  obtain ⟨p, W, hf, h⟩ := rflE h
  have hW := hf.1
  refine nn.mk (ldI.mk (Ok.cellS h (by with_reducible first | exact sl0 | exact .there sl0 | exact .there sl1 | exact .there sl2 | exact .there sl3 | exact .there sl4 | exact .there sl5 | exact .there sl6 | exact .there sl7 | exact .there sl8 | exact .there sl9 | exact .there sl10 | exact .there sl11 | exact .there sl12) (rflC_bits hW)) (nn.mk (ldB.mk (Ok.cellS h (by with_reducible first | exact sl0 | exact .there sl0 | exact .there sl1 | exact .there sl2 | exact .there sl3 | exact .there sl4 | exact .there sl5 | exact .there sl6 | exact .there sl7 | exact .there sl8 | exact .there sl9 | exact .there sl10 | exact .there sl11 | exact .there sl12) (rflC_clr hW)) ?_)))
  refine cs.mk (fun h4 => ?_) (fun h4 => ?_)
  · subst h4
    refine nn.mk (st1.mk h (by rw [rflC_len hW]; decide) fun w2 h => k _ ?_)
    rw [rflC_setB hW] at h
    exact rflI (q := ⟨q.S, 0, q.g⟩) hf h
  · subst h4
    exact k _ (rflI (q := ⟨q.S, q.bits, q.g⟩) hf h)

theorem Poll_ref12 {e w L b byPri many clr q want mode R} (h : Ok e (rflP b byPri many clr q :: L) w) (ho : q.ok)
    (k : ∀ w', Ok e (rflP b byPri many clr (q.poll many clr want mode).2 :: L) w' → R [.int .u32 (q.poll many clr want mode).1.1, .bool (q.poll many clr want mode).1.2.1, .int .i64 (q.poll many clr want mode).1.2.2] w') : sh19 (some ⟨b, 0, none⟩) want mode R w := by
  unfold sh19
  unfold FQ.poll at k
  have l1 := okL_len ho.1
  refine jn.bool (decide (want = 0 ∨ mode < 0)) (fun J hJ => cs.mk (fun h1 => ?_) (fun h1 => ?_)) ?_
  · have h1 : want = 0 := by simpa using h1
    rw [decide_eq_true (.inl h1)] at hJ
    exact hJ
  · have h1 : ¬ want = 0 := by simpa using h1
    rw [show decide (mode < 0) = decide (want = 0 ∨ mode < 0) from decide_eq_decide.2 (by omega)]
    exact hJ
  refine jn.bool (decide (want = 0 ∨ (mode ≠ 0 ∧ mode ≠ 1))) (fun J hJ => cs.mk (fun h1 => ?_) (fun h1 => ?_)) ?_
  · have h1 := of_decide_eq_true h1
    rw [decide_eq_true (by omega)] at hJ
    exact hJ
  · have h1 := of_decide_eq_false h1
    rw [show decide (mode > 1) = decide (want = 0 ∨ (mode ≠ 0 ∧ mode ≠ 1)) from decide_eq_decide.2 (by omega)]
    exact hJ
  refine cs.mk (fun h1 => ?_) (fun h1 => ?_)
  · rw [if_pos (of_decide_eq_true h1)] at k
    exact k w h
  have h1 := of_decide_eq_false h1
  rw [if_neg h1] at k
  have h0 := h
  obtain ⟨p, W, hf, h⟩ := rflE h
  have hW := hf.1
  refine nn.mk (ldB.mk (Ok.cellS h (by with_reducible first | exact sl0 | exact .there sl0 | exact .there sl1 | exact .there sl2 | exact .there sl3 | exact .there sl4 | exact .there sl5 | exact .there sl6 | exact .there sl7 | exact .there sl8 | exact .there sl9 | exact .there sl10 | exact .there sl11 | exact .there sl12) (rflC_many hW)) ?_)
  refine jn.at (decide (many = false ∧ q.S ≠ []), ()) (fun w' => w = w') (fun J hJ => cs.mk (fun h2 => ?_) (fun h2 => ?_)) (fun w1 hw => ?_)
  · have h2 : many = false := by simpa using h2
    refine nn.mk (ldP.mk (by refine Ok.cellS h (by with_reducible first | exact sl0 | exact .there sl0 | exact .there sl1 | exact .there sl2 | exact .there sl3 | exact .there sl4 | exact .there sl5 | exact .there sl6 | exact .there sl7 | exact .there sl8 | exact .there sl9 | exact .there sl10 | exact .there sl11 | exact .there sl12) ?_; rfl) (nn.mk ?_))
    obtain ⟨s, hs, h⟩ := refE (Ok.emb (h) (.cons (A := refP p _ _) (by with_reducible first | exact sl0 | exact .there sl0 | exact .there sl1 | exact .there sl2 | exact .there sl3 | exact .there sl4 | exact .there sl5 | exact .there sl6 | exact .there sl7 | exact .there sl8 | exact .there sl9 | exact .there sl10 | exact .there sl11 | exact .there sl12) (.same _)))
    refine ldS.mk (by refine Ok.cellS h (by with_reducible first | exact sl0 | exact .there sl0 | exact .there sl1 | exact .there sl2 | exact .there sl3 | exact .there sl4 | exact .there sl5 | exact .there sl6 | exact .there sl7 | exact .there sl8 | exact .there sl9 | exact .there sl10 | exact .there sl11 | exact .there sl12) ?_; rfl) ?_
    rw [show decide (((s.len : Int) : Int) > (0 : Int)) = decide (many = false ∧ q.S ≠ []) from decide_eq_decide.2 (by
      constructor
      · intro h3; exact ⟨h2, fun h4 => by rw [h4] at hs; simp at hs; omega⟩
      · rintro ⟨_, h3⟩
        have := List.length_pos_iff.2 h3
        omega)]
    exact hJ _ rfl
  · have h2 : many = true := by simpa using h2
    rw [decide_eq_false (by rw [h2]; simp)] at hJ
    exact hJ _ rfl
  subst hw
  dsimp only
  refine cs.mk (fun h2 => ?_) (fun h2 => ?_)
  · rw [if_pos (of_decide_eq_true h2)] at k
    exact k _ h0
  rw [if_neg (of_decide_eq_false h2)] at k
  refine call35 (a1 := (want, mode, ())) (meets_ref12 h0 fun w2 h => ⟨(metB q.bits (want, mode), ()), rfl, ?_⟩)
  dsimp only
  refine cs.mk (fun h3 => ?_) (fun h3 => ?_)
  · have h3 : ¬ metB q.bits (want, mode) = true := by simpa using h3
    rw [if_neg h3] at k
    exact k _ h
  have h3 : metB q.bits (want, mode) = true := by simpa using h3
  rw [if_pos h3] at k
  refine call36 (got_ref12 h fun w3 h => ⟨(q.bits, ()), rfl, ?_⟩)
  exact k _ h

theorem Wait_ref12 {e w L b byPri many clr q task pri want mode R} (h : Ok e (rflP b byPri many clr q :: L) w) (ho : q.ok)
    (k : ∀ w', Ok e (rflP b byPri many clr (q.wait byPri many clr task pri want mode).2 :: L) w' → R [.int .u32 (q.wait byPri many clr task pri want mode).1.1, .bool (q.wait byPri many clr task pri want mode).1.2.1, .int .i64 (q.wait byPri many clr task pri want mode).1.2.2] w') : sh18 (some ⟨b, 0, none⟩) task pri want mode R w := by
  unfold sh18
  unfold FQ.wait at k
  have l1 := okL_len ho.1
  refine call19 (Poll_ref12 h ho fun w1 h => ⟨((q.poll many clr want mode).1.1, (q.poll many clr want mode).1.2.1, (q.poll many clr want mode).1.2.2, ()), rfl, ?_⟩)
  dsimp only
  refine jn.bool (decide ((q.poll many clr want mode).1.2.1 = true ∨ (q.poll many clr want mode).1.2.2 ≠ 0)) (fun J hJ => cs.mk (fun h1 => ?_) (fun h1 => ?_)) ?_
  · rw [decide_eq_true (.inl h1)] at hJ
    exact hJ
  · rw [show ((q.poll many clr want mode).1.2.2 != 0) = decide ((q.poll many clr want mode).1.2.1 = true ∨ (q.poll many clr want mode).1.2.2 ≠ 0) by rw [show ((q.poll many clr want mode).1.2.2 != 0) = decide ((q.poll many clr want mode).1.2.2 ≠ 0) by simp [bne]; rfl]; exact decide_eq_decide.2 (by rw [h1]; simp)]
    exact hJ
  refine cs.mk (fun h1 => ?_) (fun h1 => ?_)
  · rw [if_pos (of_decide_eq_true h1)] at k
    exact k w1 h
  have h1 := of_decide_eq_false h1
  rw [if_neg h1] at k
  rw [(poll_want h1).2.2] at h
  obtain ⟨p, W, hf, h⟩ := rflE h
  have hW := hf.1
  refine nn.mk (ldP.mk (by refine Ok.cellS h (by with_reducible first | exact sl0 | exact .there sl0 | exact .there sl1 | exact .there sl2 | exact .there sl3 | exact .there sl4 | exact .there sl5 | exact .there sl6 | exact .there sl7 | exact .there sl8 | exact .there sl9 | exact .there sl10 | exact .there sl11 | exact .there sl12) ?_; rfl) ?_)
  refine call34 (Add_ref4 (Ok.emb (h) (.cons (A := refP p _ _) (by with_reducible first | exact sl0 | exact .there sl0 | exact .there sl1 | exact .there sl2 | exact .there sl3 | exact .there sl4 | exact .there sl5 | exact .there sl6 | exact .there sl7 | exact .there sl8 | exact .there sl9 | exact .there sl10 | exact .there sl11 | exact .there sl12) (.same _))) (by omega) fun w3 h => ⟨((addL byPri q.S task pri).1, ()), rfl, ?_⟩)
  dsimp only
  refine jn.at () (fun w' => Ok e (rflP b byPri many clr ⟨(addL byPri q.S task pri).2, q.bits, if (addL byPri q.S task pri).1 = 0 then fun i => if i = task then (want, mode) else q.g i else q.g⟩ :: L) w') (fun J hJ => cs.mk (fun hc => ?_) (fun hc => ?_)) (fun w' h => k w' h)
  · have hc : (addL byPri q.S task pri).1 = 0 := by simpa using hc
    obtain ⟨⟨t1, t2⟩, t3, _⟩ := addL_zero hc
    rw [if_pos hc] at hJ
    obtain ⟨x, hx⟩ : ∃ x, W[task.toNat]? = some x := ⟨_, List.getElem?_eq_getElem (by omega)⟩
    refine nn.mk ⟨by omega, by omega, ?_⟩
    refine st1.mk (Ok.emb (h) (.cons (A := pts b _) (by with_reducible first | exact sl0 | exact .there sl0 | exact .there sl1 | exact .there sl2 | exact .there sl3 | exact .there sl4 | exact .there sl5 | exact .there sl6 | exact .there sl7 | exact .there sl8 | exact .there sl9 | exact .there sl10 | exact .there sl11 | exact .there sl12) (.same _))) (by rw [rflC_len hW]; omega) fun w4 h => ?_
    rw [show 0 + 1 + task.toNat * 2 = 0 + 1 + task.toNat * 2 + 0 from rfl, rflC_setW (y := (want, x.2)) hx (by decide) rfl] at h
    refine st1.mk (Ok.emb (h) (.cons (A := pts b _) (by with_reducible first | exact sl0 | exact .there sl0 | exact .there sl1 | exact .there sl2 | exact .there sl3 | exact .there sl4 | exact .there sl5 | exact .there sl6 | exact .there sl7 | exact .there sl8 | exact .there sl9 | exact .there sl10 | exact .there sl11 | exact .there sl12) (.same _))) (by rw [rflC_len (by simpa using hW)]; omega) fun w5 h => hJ w5 ?_
    rw [rflC_setW (x := (want, x.2)) (y := (want, mode)) (by rw [List.getElem?_set_self (by omega)]) (by decide) rfl, List.set_set] at h
    refine rflI (W := W.set task.toNat (want, mode)) (q := ⟨(addL byPri q.S task pri).2, q.bits, fun i => if i = task then (want, mode) else q.g i⟩) ⟨by simpa using hW, fun i hi => ?_⟩ (h.emb (by repeat' (first | with_reducible exact Emb.same _ | exact Emb.nil _ | refine Emb.cons (by with_reducible first | exact sl0 | exact .there sl0 | exact .there sl1 | exact .there sl2 | exact .there sl3 | exact .there sl4 | exact .there sl5 | exact .there sl6 | exact .there sl7 | exact .there sl8 | exact .there sl9 | exact .there sl10 | exact .there sl11 | exact .there sl12) ?_ | refine Emb.skip ?_)))
    by_cases hi2 : i = task
    · subst hi2
      rw [List.getElem?_set_self (by omega)]
      simp
    · rcases addL_mem hi with h5 | h5
      · exact absurd h5.2 hi2
      · have := ho.1.2 i h5
        rw [List.getElem?_set_ne (by omega), hf.2 i h5]
        simp [hi2]
  · have hc : (addL byPri q.S task pri).1 ≠ 0 := by simpa using hc
    rw [if_neg hc] at hJ
    refine hJ w3 (rflI (W := W) (q := ⟨(addL byPri q.S task pri).2, q.bits, q.g⟩) ⟨hW, fun i hi => ?_⟩ (h.emb (by repeat' (first | with_reducible exact Emb.same _ | exact Emb.nil _ | refine Emb.cons (by with_reducible first | exact sl0 | exact .there sl0 | exact .there sl1 | exact .there sl2 | exact .there sl3 | exact .there sl4 | exact .there sl5 | exact .there sl6 | exact .there sl7 | exact .there sl8 | exact .there sl9 | exact .there sl10 | exact .there sl11 | exact .there sl12) ?_ | refine Emb.skip ?_))))
    rw [addL_other hc] at hi
    exact hf.2 i hi

theorem slT_woken12 : SlT Pg 60 2 := .of (by kernel_rfl)

set_option maxHeartbeats 1000000 in
theorem Raise_ref12 {e w L A b byPri many clr q s xs R} (h : Ok e (rflP b byPri many clr q :: A :: L) w) (ho : q.ok) (hr : Rd e A .u32 s xs) (hb : s.len ≤ 2 ^ 20)
    (k : ∀ r w', r.len = (q.raise clr xs).1.length → Ok e (slc 2 r (flat wkV (q.raise clr xs).1) :: rflP b byPri many clr (q.raise clr xs).2 :: A :: L) w' → R [vS r] w') : sh21 (some ⟨b, 0, none⟩) s R w := by
  unfold sh21
  refine lp.mk (fun t w' => ∃ n : Nat, t.1 = (n : Int) ∧ n ≤ s.len ∧ Ok e (rflP b byPri many clr ⟨q.S, (xs.take n).foldl orB q.bits, q.g⟩ :: A :: L) w')
    (fun t _ => s.len - t.1.toNat) ⟨0, rfl, Nat.zero_le _, h⟩ ?_
  clear h
  rintro ⟨i, _⟩ w1 ⟨n, hn, hnl, h⟩
  dsimp only at hn
  subst hn
  refine cs.mk (fun hlt => ?_) (fun hge => ?_)
  · have hlt : n < s.len := by have := of_decide_eq_true hlt; dsimp only at this; omega
    refine dr.mk h fun w2 h => ?_
    obtain ⟨p, W, hf, h⟩ := rflE h
    have hW := hf.1
    refine nn.mk (ldI.mk (Ok.cellS h (by with_reducible first | exact sl0 | exact .there sl0 | exact .there sl1 | exact .there sl2 | exact .there sl3 | exact .there sl4 | exact .there sl5 | exact .there sl6 | exact .there sl7 | exact .there sl8 | exact .there sl9 | exact .there sl10 | exact .there sl11 | exact .there sl12) (rflC_bits hW)) ?_)
    refine ix_rd hr (by simp) (by simpa using hlt) fun c o x hx hc => ldI.mk (hc _ _ (Ok.emb (h) (.cons (A := A) (by with_reducible first | exact sl0 | exact .there sl0 | exact .there sl1 | exact .there sl2 | exact .there sl3 | exact .there sl4 | exact .there sl5 | exact .there sl6 | exact .there sl7 | exact .there sl8 | exact .there sl9 | exact .there sl10 | exact .there sl11 | exact .there sl12) (.same _)))) ?_
    rw [Int.toNat_natCast] at hx
    refine nn.mk (st1.mk h (by rw [rflC_len hW]; decide) fun w3 h => ?_)
    rw [rflC_setB hW] at h
    have hw : w64 ((n : Int) + 1) = ((n + 1 : Nat) : Int) := by rw [w64_in (by omega) (by omega)]; rfl
    dsimp only
    rw [hw]
    refine ⟨⟨n + 1, rfl, hlt, ?_⟩, ?_⟩
    · rw [List.take_add_one, hx, List.foldl_append]
      exact rflI (q := ⟨q.S, orB ((xs.take n).foldl orB q.bits) x, q.g⟩) hf h
    · show s.len - Int.toNat ((n + 1 : Nat) : Int) < s.len - Int.toNat (n : Int)
      omega
  have hge : s.len ≤ n := by have := of_decide_eq_false hge; dsimp only at this; omega
  rw [List.take_of_length_le (by rw [hr.1]; exact hge)] at h
  unfold FQ.raise at k
  obtain ⟨S, b00, g⟩ := q
  dsimp only at *
  generalize xs.foldl orB b00 = b0 at *
  have l1 := okL_len ho.1
  dsimp only at l1
  obtain ⟨p, W, hf, h⟩ := rflE h
  dsimp only at hf
  have hW := hf.1
  refine nn.mk (ldP.mk (by refine Ok.cellS h (by with_reducible first | exact sl0 | exact .there sl0 | exact .there sl1 | exact .there sl2 | exact .there sl3 | exact .there sl4 | exact .there sl5 | exact .there sl6 | exact .there sl7 | exact .there sl8 | exact .there sl9 | exact .there sl10 | exact .there sl11 | exact .there sl12) ?_; rfl) ?_)
  refine call37 (IDs_ref4 (Ok.emb (h) (.cons (A := refP p _ _) (by with_reducible first | exact sl0 | exact .there sl0 | exact .there sl1 | exact .there sl2 | exact .there sl3 | exact .there sl4 | exact .there sl5 | exact .there sl6 | exact .there sl7 | exact .there sl8 | exact .there sl9 | exact .there sl10 | exact .there sl11 | exact .there sl12) (.same _))) (by dsimp only; omega) fun s2 w2 hs2 h => ⟨(s2, ()), rfl, ?_⟩)
  have h := rflI (q := ⟨S, b0, g⟩) hf (L := slc 1 s2 (ints (ids S)) :: A :: L) (Ok.emb (h) (.cons (A := pts b _) (by with_reducible first | exact sl0 | exact .there sl0 | exact .there sl1 | exact .there sl2 | exact .there sl3 | exact .there sl4 | exact .there sl5 | exact .there sl6 | exact .there sl7 | exact .there sl8 | exact .there sl9 | exact .there sl10 | exact .there sl11 | exact .there sl12) (.cons (A := refP p _ _) (by with_reducible first | exact sl0 | exact .there sl0 | exact .there sl1 | exact .there sl2 | exact .there sl3 | exact .there sl4 | exact .there sl5 | exact .there sl6 | exact .there sl7 | exact .there sl8 | exact .there sl9 | exact .there sl10 | exact .there sl11 | exact .there sl12) (.same _))))
  clear hf
  have h := h.p1.slcNil 2
  refine lp.mk (fun t w' => ∃ (n : Nat) (O S1 : List (Int × Int)), t.2.1 = (n : Int) ∧ n ≤ S.length ∧ wakeL clr g S S b0 = (O ++ (wakeL clr g (S.drop n) S1 b0).1, (wakeL clr g (S.drop n) S1 b0).2) ∧ S1.Sublist S ∧ (∀ y ∈ S.drop n, y.1 ∈ ids S1) ∧ O.length ≤ n ∧
      Ok e (slc 2 t.1 (flat wkV O) :: slc 1 s2 (ints (ids S)) :: rflP b byPri many clr ⟨S1, b0, g⟩ :: A :: L) w')
    (fun t _ => S.length - t.2.1.toNat) ⟨0, [], S, rfl, Nat.zero_le _, rfl, List.Sublist.refl _, fun y hy => List.mem_map_of_mem hy, Nat.le_refl _, h⟩ ?_
  clear h hW
  rintro ⟨out, i, _⟩ w3 ⟨n, O, S1, hn, hnl, hw, hs, hm, hO, h⟩
  dsimp only at hn h
  subst hn
  have hout := slc_flat_len wkV_len (by decide) h
  have ho1 : FQ.ok ⟨S1, b0, g⟩ := fok_sub ho hs
  dsimp only at hs2
  refine cs.mk (fun hlt => ?_) (fun hge => ?_)
  · have hlt : n < S.length := by have := of_decide_eq_true hlt; dsimp only at this; omega
    obtain ⟨x, hx⟩ : ∃ x, S[n]? = some x := ⟨_, List.getElem?_eq_getElem hlt⟩
    have hd : S.drop n = x :: S.drop (n + 1) := by
      rw [List.drop_eq_getElem_cons hlt]
      rw [List.getElem?_eq_getElem hlt] at hx
      cases hx
      rfl
    have hxm : x.1 ∈ ids S1 := hm x (by rw [hd]; exact List.mem_cons_self ..)
    have hx16 := ho1.1.2 x.1 hxm
    rw [hd] at hw
    have hw1 : w64 ((n : Int) + 1) = ((n + 1 : Nat) : Int) := by rw [w64_in (by omega) (by omega)]; rfl
    have hmu : S.length - Int.toNat ((n + 1 : Nat) : Int) < S.length - Int.toNat (n : Int) := by omega
    have hids : (ids S)[(Int.toNat (n : Int))]? = some x.1 := by rw [Int.toNat_natCast, List.getElem?_map, hx]; rfl
    refine dr.mk h fun w4 h => ?_
    refine ix_int (Ok.emb (h) (.cons (A := slc 1 s2 (ints (ids S))) (by with_reducible first | exact sl0 | exact .there sl0 | exact .there sl1 | exact .there sl2 | exact .there sl3 | exact .there sl4 | exact .there sl5 | exact .there sl6 | exact .there sl7 | exact .there sl8 | exact .there sl9 | exact .there sl10 | exact .there sl11 | exact .there sl12) (.same _))) (by simp) (by show (n : Int) < s2.len; omega) fun c o y hy hc => ldI.mk (hc _ ⟨_, (Ok.emb (h) (.cons (A := slc 1 s2 (ints (ids S))) (by with_reducible first | exact sl0 | exact .there sl0 | exact .there sl1 | exact .there sl2 | exact .there sl3 | exact .there sl4 | exact .there sl5 | exact .there sl6 | exact .there sl7 | exact .there sl8 | exact .there sl9 | exact .there sl10 | exact .there sl11 | exact .there sl12) (.same _)))⟩) ?_
    rw [hids] at hy
    cases hy
    clear hc
    have h0 := h
    obtain ⟨p, W, hf, h⟩ := rflE (Ok.emb (h) (.cons (A := rflP b byPri many clr ⟨S1, b0, g⟩) (by with_reducible first | exact sl0 | exact .there sl0 | exact .there sl1 | exact .there sl2 | exact .there sl3 | exact .there sl4 | exact .there sl5 | exact .there sl6 | exact .there sl7 | exact .there sl8 | exact .there sl9 | exact .there sl10 | exact .there sl11 | exact .there sl12) (.same _)))
    dsimp only at hf
    have hW := hf.1
    refine nn.mk ⟨by omega, by show x.1 < 17; omega, ?_⟩
    refine ldI.mk (Ok.cellS h (by with_reducible first | exact sl0 | exact .there sl0 | exact .there sl1 | exact .there sl2 | exact .there sl3 | exact .there sl4 | exact .there sl5 | exact .there sl6 | exact .there sl7 | exact .there sl8 | exact .there sl9 | exact .there sl10 | exact .there sl11 | exact .there sl12) (rflC_w (j := 0) (hf.2 x.1 hxm) rfl)) (ldI.mk (Ok.cellS h (by with_reducible first | exact sl0 | exact .there sl0 | exact .there sl1 | exact .there sl2 | exact .there sl3 | exact .there sl4 | exact .there sl5 | exact .there sl6 | exact .there sl7 | exact .there sl8 | exact .there sl9 | exact .there sl10 | exact .there sl11 | exact .there sl12) (rflC_w (j := 1) (hf.2 x.1 hxm) rfl)) ?_)
    have h := h0
    refine call35 (a1 := ((g x.1).1, (g x.1).2, ())) (meets_ref12 (Ok.emb (h) (.cons (A := rflP b byPri many clr ⟨S1, b0, g⟩) (by with_reducible first | exact sl0 | exact .there sl0 | exact .there sl1 | exact .there sl2 | exact .there sl3 | exact .there sl4 | exact .there sl5 | exact .there sl6 | exact .there sl7 | exact .there sl8 | exact .there sl9 | exact .there sl10 | exact .there sl11 | exact .there sl12) (.same _))) fun w5 h => ⟨(metB b0 ((g x.1).1, (g x.1).2), ()), rfl, ?_⟩)
    dsimp only
    rw [hw1]
    refine cs.mk (fun hme => ?_) (fun hme => ?_)
    · have hme : metB b0 (g x.1) = false := by simpa using hme
      rw [wake_no hme] at hw
      refine ⟨⟨n + 1, O, S1, rfl, hlt, hw, hs, fun y hy => hm y (by rw [hd]; exact List.mem_cons_of_mem _ hy), by omega, ?_⟩, hmu⟩
      show Ok e (slc 2 out (flat wkV O) :: _) _
      exact (h.emb (by repeat' (first | with_reducible exact Emb.same _ | exact Emb.nil _ | refine Emb.cons (by with_reducible first | exact sl0 | exact .there sl0 | exact .there sl1 | exact .there sl2 | exact .there sl3 | exact .there sl4 | exact .there sl5 | exact .there sl6 | exact .there sl7 | exact .there sl8 | exact .there sl9 | exact .there sl10 | exact .there sl11 | exact .there sl12) ?_ | refine Emb.skip ?_)))
    · have hme : metB b0 (g x.1) = true := by simpa using hme
      rw [wake_yes hme] at hw
      refine dr.mk h fun w6 h => ?_
      obtain ⟨p, W, hf, h⟩ := rflE h
      dsimp only at hf h
      have hW := hf.1
      refine nn.mk (ldP.mk (by refine Ok.cellS h (by with_reducible first | exact sl0 | exact .there sl0 | exact .there sl1 | exact .there sl2 | exact .there sl3 | exact .there sl4 | exact .there sl5 | exact .there sl6 | exact .there sl7 | exact .there sl8 | exact .there sl9 | exact .there sl10 | exact .there sl11 | exact .there sl12) ?_; rfl) ?_)
      refine ix_int (Ok.emb (h) (.cons (A := slc 1 s2 (ints (ids S))) (by with_reducible first | exact sl0 | exact .there sl0 | exact .there sl1 | exact .there sl2 | exact .there sl3 | exact .there sl4 | exact .there sl5 | exact .there sl6 | exact .there sl7 | exact .there sl8 | exact .there sl9 | exact .there sl10 | exact .there sl11 | exact .there sl12) (.same _))) (by simp) (by show (n : Int) < s2.len; omega) fun c o y hy hc => ldI.mk (hc _ ⟨_, (Ok.emb (h) (.cons (A := slc 1 s2 (ints (ids S))) (by with_reducible first | exact sl0 | exact .there sl0 | exact .there sl1 | exact .there sl2 | exact .there sl3 | exact .there sl4 | exact .there sl5 | exact .there sl6 | exact .there sl7 | exact .there sl8 | exact .there sl9 | exact .there sl10 | exact .there sl11 | exact .there sl12) (.same _)))⟩) ?_
      rw [hids] at hy
      cases hy
      clear hc
      have l3 := okL_len ho1.1
      dsimp only at l3
      refine call23 (Remove_ref4 (Ok.emb (h) (.cons (A := refP p _ _) (by with_reducible first | exact sl0 | exact .there sl0 | exact .there sl1 | exact .there sl2 | exact .there sl3 | exact .there sl4 | exact .there sl5 | exact .there sl6 | exact .there sl7 | exact .there sl8 | exact .there sl9 | exact .there sl10 | exact .there sl11 | exact .there sl12) (.same _))) (by omega) fun w7 h => ⟨(decide (0 ≤ atI S1 x.1), ()), rfl, ?_⟩)
      have hf2 : heldH (rmL S1 x.1) g W := ⟨hW, fun i hi => hf.2 i (((rmL_sub S1 x.1).map Prod.fst).subset hi)⟩
      have h := rflI (q := ⟨rmL S1 x.1, b0, g⟩) (p := p) (W := W) hf2 (Ok.emb (h) (.cons (A := pts b _) (by with_reducible first | exact sl0 | exact .there sl0 | exact .there sl1 | exact .there sl2 | exact .there sl3 | exact .there sl4 | exact .there sl5 | exact .there sl6 | exact .there sl7 | exact .there sl8 | exact .there sl9 | exact .there sl10 | exact .there sl11 | exact .there sl12) (.cons (A := refP p _ _) (by with_reducible first | exact sl0 | exact .there sl0 | exact .there sl1 | exact .there sl2 | exact .there sl3 | exact .there sl4 | exact .there sl5 | exact .there sl6 | exact .there sl7 | exact .there sl8 | exact .there sl9 | exact .there sl10 | exact .there sl11 | exact .there sl12) (.same _))))
      refine dr.mk h fun w8 h => ?_
      refine ix_int (Ok.emb (h) (.cons (A := slc 1 s2 (ints (ids S))) (by with_reducible first | exact sl0 | exact .there sl0 | exact .there sl1 | exact .there sl2 | exact .there sl3 | exact .there sl4 | exact .there sl5 | exact .there sl6 | exact .there sl7 | exact .there sl8 | exact .there sl9 | exact .there sl10 | exact .there sl11 | exact .there sl12) (.same _))) (by simp) (by show (n : Int) < s2.len; omega) fun c o y hy hc => ldI.mk (hc _ ⟨_, (Ok.emb (h) (.cons (A := slc 1 s2 (ints (ids S))) (by with_reducible first | exact sl0 | exact .there sl0 | exact .there sl1 | exact .there sl2 | exact .there sl3 | exact .there sl4 | exact .there sl5 | exact .there sl6 | exact .there sl7 | exact .there sl8 | exact .there sl9 | exact .there sl10 | exact .there sl11 | exact .there sl12) (.same _)))⟩) ?_
      rw [hids] at hy
      cases hy
      refine call36 (got_ref12 h fun w9 h => ⟨(b0, ()), rfl, hc _ ⟨_, (Ok.emb (h) (.cons (A := slc 1 s2 (ints (ids S))) (by with_reducible first | exact sl0 | exact .there sl0 | exact .there sl1 | exact .there sl2 | exact .there sl3 | exact .there sl4 | exact .there sl5 | exact .there sl6 | exact .there sl7 | exact .there sl8 | exact .there sl9 | exact .there sl10 | exact .there sl11 | exact .there sl12) (.same _)))⟩, ?_⟩)
      clear hc hf hf2
      refine al.mk h fun c2 w10 h => ?_
      refine ef.append1 (n := 1) slT_woken12 (by decide) (Ok.emb (h) (.cons (A := pts c2 _) (by with_reducible first | exact sl0 | exact .there sl0 | exact .there sl1 | exact .there sl2 | exact .there sl3 | exact .there sl4 | exact .there sl5 | exact .there sl6 | exact .there sl7 | exact .there sl8 | exact .there sl9 | exact .there sl10 | exact .there sl11 | exact .there sl12) (.cons (A := slc 2 out _) (by with_reducible first | exact sl0 | exact .there sl0 | exact .there sl1 | exact .there sl2 | exact .there sl3 | exact .there sl4 | exact .there sl5 | exact .there sl6 | exact .there sl7 | exact .there sl8 | exact .there sl9 | exact .there sl10 | exact .there sl11 | exact .there sl12) (.same _)))) rfl (wkV_one (x.1, b0)) (by omega) fun r w11 hr2 h => ?_
      rw [show flat wkV O ++ [Value.int .i64 x.1, Value.int .u32 b0] = flat wkV (O ++ [(x.1, b0)]) by rw [flat_append]; rfl] at h
      have h0 := h
      obtain ⟨p, W, hf, h⟩ := rflE (Ok.emb (h) (.cons (A := rflP b _ _ _ _) (by with_reducible first | exact sl0 | exact .there sl0 | exact .there sl1 | exact .there sl2 | exact .there sl3 | exact .there sl4 | exact .there sl5 | exact .there sl6 | exact .there sl7 | exact .there sl8 | exact .there sl9 | exact .there sl10 | exact .there sl11 | exact .there sl12) (.same _)))
      refine nn.mk (ldB.mk (Ok.cellS h (by with_reducible first | exact sl0 | exact .there sl0 | exact .there sl1 | exact .there sl2 | exact .there sl3 | exact .there sl4 | exact .there sl5 | exact .there sl6 | exact .there sl7 | exact .there sl8 | exact .there sl9 | exact .there sl10 | exact .there sl11 | exact .there sl12) (rflC_clr hf.1)) ?_)
      clear h hf
      have h := h0
      refine cs.mk (fun hcl => ?_) (fun hcl => ?_)
      · subst hcl
        rw [if_pos rfl] at hw
        rw [hw] at k
        dsimp only at k hr2 h
        rw [if_pos rfl] at h
        exact k r _ (by simp only [List.length_append, List.length_singleton]; omega) (h.emb (by repeat' (first | with_reducible exact Emb.same _ | exact Emb.nil _ | refine Emb.cons (by with_reducible first | exact sl0 | exact .there sl0 | exact .there sl1 | exact .there sl2 | exact .there sl3 | exact .there sl4 | exact .there sl5 | exact .there sl6 | exact .there sl7 | exact .there sl8 | exact .there sl9 | exact .there sl10 | exact .there sl11 | exact .there sl12) ?_ | refine Emb.skip ?_)))
      · subst hcl
        rw [if_neg (by simp)] at hw
        dsimp only at h
        rw [if_neg (by simp)] at h
        refine ⟨⟨n + 1, O ++ [(x.1, b0)], rmL S1 x.1, rfl, hlt, ?_, (rmL_sub ..).trans hs, fun y hy => ?_, by simp only [List.length_append, List.length_singleton]; omega, ?_⟩, hmu⟩
        · rw [hw, List.append_assoc]; rfl
        · exact mem_rmL ho1.1 (hm y (by rw [hd]; exact List.mem_cons_of_mem _ hy)) (drop_ne ho.1 hx hy)
        · show Ok e (slc 2 r (flat wkV (O ++ [(x.1, b0)])) :: _) _
          exact (h.emb (by repeat' (first | with_reducible exact Emb.same _ | exact Emb.nil _ | refine Emb.cons (by with_reducible first | exact sl0 | exact .there sl0 | exact .there sl1 | exact .there sl2 | exact .there sl3 | exact .there sl4 | exact .there sl5 | exact .there sl6 | exact .there sl7 | exact .there sl8 | exact .there sl9 | exact .there sl10 | exact .there sl11 | exact .there sl12) ?_ | refine Emb.skip ?_)))
  · have hge : S.length ≤ n := by have := of_decide_eq_false hge; dsimp only at this; omega
    rw [List.drop_eq_nil_of_le hge] at hw
    simp only [wakeL, List.append_nil] at hw
    rw [hw] at k
    dsimp only at k
    exact k out _ (by omega) (h.emb (by repeat' (first | with_reducible exact Emb.same _ | exact Emb.nil _ | refine Emb.cons (by with_reducible first | exact sl0 | exact .there sl0 | exact .there sl1 | exact .there sl2 | exact .there sl3 | exact .there sl4 | exact .there sl5 | exact .there sl6 | exact .there sl7 | exact .there sl8 | exact .there sl9 | exact .there sl10 | exact .there sl11 | exact .there sl12) ?_ | refine Emb.skip ?_)))

end Go.Proofs.Ytkhalaoonamkjaa.B
