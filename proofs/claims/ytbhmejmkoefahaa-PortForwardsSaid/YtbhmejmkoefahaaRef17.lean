/- Contracts of the document's rendezvous. -/
import Derived.Test.YtbhmejmkoefahaaPor4
import Derived.Test.YtbhmejmkoefahaaRef4
namespace Go.Proofs.Ytbhmejmkoefahaa.B
open Go
set_option linter.unusedVariables false

theorem ldG.mk {w : World} {b o : Nat} {f : ByteArray → Prop} {x : ByteArray} (h : w.cell? ⟨b, o, none⟩ = some (.string x)) (hf : f x) : ldG w b o f := ⟨x, h, hf⟩

theorem Good_r17 {e w L id pri R} (h : Ok e L w) (k : R [.bool (decide (goodT id pri))] w) : sh39 id pri R w := Good_ref4 h k

def us32 (r : List Int) : List Value := r.map (Value.int .u32)

def strs (M : List (List UInt8)) : List Value := M.map fun l => .string (bs l)

abbrev rpC (pc pa : Nat) (W : List Int) (Z : List (List UInt8)) (so : Sl) (last most : Int) : List Value :=
  .pointer (some ⟨pc, 0, none⟩) :: .pointer (some ⟨pa, 0, none⟩) :: (us32 W ++ (strs Z ++ [vS so, .int .i64 last, .int .i64 most]))

theorem rpC_w {pc pa W Z so last most} {i : Nat} {x : Int} (h : W[i]? = some x) : (rpC pc pa W Z so last most)[0 + 2 + i * 1]? = some (.int .u32 x) := by
  have hlt := (List.getElem?_eq_some_iff.1 h).1
  rw [show 0 + 2 + i * 1 = i + 1 + 1 by omega, List.getElem?_cons_succ, List.getElem?_cons_succ, List.getElem?_append_left (by simpa [us32] using hlt)]
  simp [us32, h]

theorem rpC_z {pc pa W Z so last most} {i : Nat} {x : List UInt8} (hW : W.length = 17) (h : Z[i]? = some x) : (rpC pc pa W Z so last most)[0 + 19 + i * 1]? = some (.string (bs x)) := by
  have hlt := (List.getElem?_eq_some_iff.1 h).1
  rw [show 0 + 19 + i * 1 = (17 + i) + 1 + 1 by omega, List.getElem?_cons_succ, List.getElem?_cons_succ, List.getElem?_append_right (by simp [us32, hW]), List.getElem?_append_left (by simp [us32, strs, hW]; omega)]
  simp [us32, strs, hW, h]

theorem rpC_t {pc pa W Z so last most} {j : Nat} (hW : W.length = 17) (hZ : Z.length = 17) : (rpC pc pa W Z so last most)[0 + (36 + j)]? = [vS so, .int .i64 last, .int .i64 most][j]? := by
  rw [show 0 + (36 + j) = (17 + (17 + j)) + 1 + 1 by omega, List.getElem?_cons_succ, List.getElem?_cons_succ, List.getElem?_append_right (by simp [us32, hW]), List.getElem?_append_right (by simp [us32, strs, hW, hZ])]
  congr 1
  simp [us32, strs, hW, hZ]

theorem rpC_len {pc pa W Z so last most} (hW : W.length = 17) (hZ : Z.length = 17) : (rpC pc pa W Z so last most).length = 39 := by simp [us32, strs, hW, hZ]

theorem rpC_setW {pc pa W Z so last most} {i : Nat} {x : Int} (h : i < W.length) : (rpC pc pa W Z so last most).set (0 + 2 + i * 1) (.int .u32 x) = rpC pc pa (W.set i x) Z so last most := by
  rw [show 0 + 2 + i * 1 = i + 1 + 1 by omega, List.set_cons_succ, List.set_cons_succ, List.set_append_left _ _ (by simpa [us32] using h)]
  simp [us32, List.map_set]

theorem rpC_setZ {pc pa W Z so last most} {i : Nat} {x : List UInt8} (hW : W.length = 17) (h : i < Z.length) : (rpC pc pa W Z so last most).set (0 + 19 + i * 1) (.string (bs x)) = rpC pc pa W (Z.set i x) so last most := by
  rw [show 0 + 19 + i * 1 = (17 + i) + 1 + 1 by omega, List.set_cons_succ, List.set_cons_succ, List.set_append_right _ _ (by simp [us32, hW]), List.set_append_left _ _ (by simp [us32, strs, hW]; omega)]
  simp [us32, strs, hW, List.map_set]

theorem rpC_setT {pc pa W Z so last most} {j : Nat} {v : Value} (hW : W.length = 17) (hZ : Z.length = 17) : (rpC pc pa W Z so last most).set (0 + (36 + j)) v = .pointer (some ⟨pc, 0, none⟩) :: .pointer (some ⟨pa, 0, none⟩) :: (us32 W ++ (strs Z ++ [vS so, .int .i64 last, .int .i64 most].set j v)) := by
  rw [show 0 + (36 + j) = (17 + (17 + j)) + 1 + 1 by omega, List.set_cons_succ, List.set_cons_succ, List.set_append_right _ _ (by simp [us32, hW]), List.set_append_right _ _ (by simp [us32, strs, hW, hZ])]
  simp [us32, strs, hW, hZ]

structure hR (q : PP) (W : List Int) (Z : List (List UInt8)) : Prop where
  w : W.length = 17
  z : Z.length = 17
  gc : ∀ i ∈ ids q.C, W[i.toNat]? = some (q.g i)
  ga : ∀ i ∈ ids q.A, W[i.toNat]? = some (q.g i)
  s : ∀ i ∈ ids q.C, Z[i.toNat]? = some (q.s i)

def rpP (u : Nat) (byPri : Bool) (most : Int) (q : PP) : SP := fun h => ∃ pc pa W Z so, hR q W Z ∧ oksH [pts u (rpC pc pa W Z so q.last most), refP pc byPri q.C, refP pa false q.A, slc 3 so (flat op3 q.L)] h

theorem rpE {e w L u byPri most q} (h : Ok e (rpP u byPri most q :: L) w) : ∃ pc pa W Z so, hR q W Z ∧ Ok e (pts u (rpC pc pa W Z so q.last most) :: refP pc byPri q.C :: refP pa false q.A :: slc 3 so (flat op3 q.L) :: L) w := by
  obtain ⟨pc, h⟩ := h.exE
  obtain ⟨pa, h⟩ := h.exE
  obtain ⟨W, h⟩ := h.exE
  obtain ⟨Z, h⟩ := h.exE
  obtain ⟨so, h⟩ := h.exE
  obtain ⟨h1, h⟩ := h.pureE
  exact ⟨pc, pa, W, Z, so, h1, h.unpack⟩

theorem rpI {e w L u byPri most q pc pa W Z so} (h1 : hR q W Z) (h : Ok e (pts u (rpC pc pa W Z so q.last most) :: refP pc byPri q.C :: refP pa false q.A :: slc 3 so (flat op3 q.L) :: L) w) : Ok e (rpP u byPri most q :: L) w :=
  (Ok.pack (M := [pts u (rpC pc pa W Z so q.last most), refP pc byPri q.C, refP pa false q.A, slc 3 so (flat op3 q.L)]) h).imp fun k hk => ⟨pc, pa, W, Z, so, h1, hk⟩

theorem New_ref17 {e w L byPri most R} (h : Ok e L w) (k0 : ¬ (0 ≤ most ∧ most ≤ 1024) → R [.pointer none, .int .i64 (-17)] w)
    (k1 : (0 ≤ most ∧ most ≤ 1024) → ∀ b w', Ok e (rpP b byPri most ⟨[], [], fun _ => 0, fun _ => [], [], 0⟩ :: L) w' → R [.pointer (some ⟨b, 0, none⟩), .int .i64 0] w') : sh16 byPri most R w := by
  unfold sh16
  refine jn.bool (decide (¬ (0 ≤ most ∧ most ≤ 1024))) (fun J hJ => cs.mk (fun h1 => ?_) (fun h1 => ?_)) ?_
  · have h1 := of_decide_eq_true h1
    rw [decide_eq_true (by omega)] at hJ
    exact hJ
  · have h1 := of_decide_eq_false h1
    rw [show decide (¬ (0 ≤ most ∧ most ≤ 1024)) = decide (most > 1024) from decide_eq_decide.2 (by omega)] at hJ
    exact hJ
  refine cs.mk (fun h1 => k0 (of_decide_eq_true h1)) (fun h1 => ?_)
  have h1 : 0 ≤ most ∧ most ≤ 1024 := Decidable.not_not.1 (of_decide_eq_false h1)
  refine al.mk h fun pc w1 h => ?_
  have h := refI (q := pc) (byPri := byPri) (l := []) (s := ⟨none, 0, 0⟩) (h.slcNil 2).p1
  refine al.mk h fun pa w2 h => ?_
  have h := refI (q := pa) (byPri := false) (l := []) (s := ⟨none, 0, 0⟩) (h.slcNil 2).p1
  refine al.mk h fun u w3 h => ?_
  have h : Ok e (pts u (rpC pc pa (List.replicate 17 0) (List.replicate 17 []) ⟨none, 0, 0⟩ 0 most) :: refP pa false [] :: refP pc byPri [] :: L) w3 := h
  have h := h.slcNil 3
  have h := (Ok.emb (h) (.cons (A := pts u _) (by with_reducible first | exact sl0 | exact .there sl0 | exact .there sl1 | exact .there sl2 | exact .there sl3 | exact .there sl4 | exact .there sl5 | exact .there sl6 | exact .there sl7 | exact .there sl8 | exact .there sl9 | exact .there sl10 | exact .there sl11 | exact .there sl12) (.cons (A := refP pc _ _) (by with_reducible first | exact sl0 | exact .there sl0 | exact .there sl1 | exact .there sl2 | exact .there sl3 | exact .there sl4 | exact .there sl5 | exact .there sl6 | exact .there sl7 | exact .there sl8 | exact .there sl9 | exact .there sl10 | exact .there sl11 | exact .there sl12) (.cons (A := refP pa _ _) (by with_reducible first | exact sl0 | exact .there sl0 | exact .there sl1 | exact .there sl2 | exact .there sl3 | exact .there sl4 | exact .there sl5 | exact .there sl6 | exact .there sl7 | exact .there sl8 | exact .there sl9 | exact .there sl10 | exact .there sl11 | exact .there sl12) (.cons (A := slc 3 _ _) (by with_reducible first | exact sl0 | exact .there sl0 | exact .there sl1 | exact .there sl2 | exact .there sl3 | exact .there sl4 | exact .there sl5 | exact .there sl6 | exact .there sl7 | exact .there sl8 | exact .there sl9 | exact .there sl10 | exact .there sl11 | exact .there sl12) (.same _))))))
  exact k1 h1 u w3 (rpI (q := ⟨[], [], fun _ => 0, fun _ => [], [], 0⟩) ⟨by simp, by simp, fun i hi => by simp at hi, fun i hi => by simp at hi, fun i hi => by simp at hi⟩ h)

theorem In_ref17 {e w L u byPri most q t N R} (h : Ok e (rpP u byPri most q :: L) w) (ho : PPo N q) (hN : N ≤ 2 ^ 20) (k : ∀ w', Ok e (rpP u byPri most q :: L) w' → R [.bool (q.inP t)] w') : sh40 (some ⟨u, 0, none⟩) t R w := by
  unfold sh40
  have l1 := okL_len ho.c
  have l2 := okL_len ho.a
  have l3 := ho.n
  obtain ⟨pc, pa, W, Z, so, hr, h⟩ := rpE h
  have hsl := slc_flat_len op3_len (by decide) (Ok.emb (h) (.cons (A := slc 3 so _) (by with_reducible first | exact sl0 | exact .there sl0 | exact .there sl1 | exact .there sl2 | exact .there sl3 | exact .there sl4 | exact .there sl5 | exact .there sl6 | exact .there sl7 | exact .there sl8 | exact .there sl9 | exact .there sl10 | exact .there sl11 | exact .there sl12) (.same _)))
  have e36 : (rpC pc pa W Z so q.last most)[0 + 36]? = some (vS so) := rpC_t (j := 0) hr.w hr.z
  refine lp.mk (fun t1 w' => ∃ n : Nat, t1.1 = (n : Int) ∧ n ≤ q.L.length ∧ (∀ m, m < n → ∀ x, q.L[m]? = some x → (x.2.1 == t) = false) ∧ Ok e (pts u (rpC pc pa W Z so q.last most) :: refP pc byPri q.C :: refP pa false q.A :: slc 3 so (flat op3 q.L) :: L) w')
    (fun t1 _ => q.L.length - t1.1.toNat) ⟨0, rfl, Nat.zero_le _, fun m hm => absurd hm (Nat.not_lt_zero _), h⟩ ?_
  clear h
  rintro ⟨(i : Int), _⟩ w1 ⟨n, hn, hnl, hno, h⟩
  dsimp only at hn
  subst hn
  refine nn.mk (ldS.mk (Ok.cellS h (by with_reducible first | exact sl0 | exact .there sl0 | exact .there sl1 | exact .there sl2 | exact .there sl3 | exact .there sl4 | exact .there sl5 | exact .there sl6 | exact .there sl7 | exact .there sl8 | exact .there sl9 | exact .there sl10 | exact .there sl11 | exact .there sl12) e36) ?_)
  refine cs.mk (fun hlt => ?_) (fun hge => ?_)
  · have hlt : n < q.L.length := by have := of_decide_eq_true hlt; dsimp only at this; omega
    obtain ⟨x, hx⟩ : ∃ x, q.L[n]? = some x := ⟨_, List.getElem?_eq_getElem hlt⟩
    refine nn.mk (ldS.mk (Ok.cellS h (by with_reducible first | exact sl0 | exact .there sl0 | exact .there sl1 | exact .there sl2 | exact .there sl3 | exact .there sl4 | exact .there sl5 | exact .there sl6 | exact .there sl7 | exact .there sl8 | exact .there sl9 | exact .there sl10 | exact .there sl11 | exact .there sl12) e36) ?_)
    refine ix_o3 (Ok.emb (h) (.cons (A := slc 3 so _) (by with_reducible first | exact sl0 | exact .there sl0 | exact .there sl1 | exact .there sl2 | exact .there sl3 | exact .there sl4 | exact .there sl5 | exact .there sl6 | exact .there sl7 | exact .there sl8 | exact .there sl9 | exact .there sl10 | exact .there sl11 | exact .there sl12) (.same _))) hx fun b2 o2 hc => ldI.mk (hc _ ⟨_, (Ok.emb (h) (.cons (A := slc 3 so _) (by with_reducible first | exact sl0 | exact .there sl0 | exact .there sl1 | exact .there sl2 | exact .there sl3 | exact .there sl4 | exact .there sl5 | exact .there sl6 | exact .there sl7 | exact .there sl8 | exact .there sl9 | exact .there sl10 | exact .there sl11 | exact .there sl12) (.same _)))⟩).2.1 ?_
    refine cs.mk (fun he => ?_) (fun hne => ?_)
    · have := k w1 (rpI hr h)
      rw [show q.inP t = true by unfold PP.inP; rw [idxL_some hx he hno]; simp] at this
      exact this
    · have hw : w64 ((n : Int) + 1) = ((n + 1 : Nat) : Int) := by rw [w64_in (by omega) (by omega)]; rfl
      dsimp only
      rw [hw]
      refine ⟨⟨n + 1, rfl, hlt, fun m hm y hy => ?_, h⟩, ?_⟩
      · rcases Nat.lt_or_ge m n with hm' | hm'
        · exact hno m hm' y hy
        · have : m = n := by omega
          subst this
          rw [hx] at hy
          cases hy
          exact hne
      · show q.L.length - Int.toNat ((n + 1 : Nat) : Int) < q.L.length - Int.toNat (n : Int)
        omega
  · have hge : q.L.length ≤ n := by have := of_decide_eq_false hge; dsimp only at this; omega
    have hidx : idxL (fun x => x.2.1 == t) q.L = -1 := idxL_none fun m y hy => hno m (by have := (List.getElem?_eq_some_iff.1 hy).1; omega) y hy
    have hin : q.inP t = (decide (0 ≤ atI q.C t) || decide (0 ≤ atI q.A t)) := by unfold PP.inP; rw [hidx]; simp
    rw [hin] at k
    refine nn.mk (ldP.mk (by refine Ok.cellS h (by with_reducible first | exact sl0 | exact .there sl0 | exact .there sl1 | exact .there sl2 | exact .there sl3 | exact .there sl4 | exact .there sl5 | exact .there sl6 | exact .there sl7 | exact .there sl8 | exact .there sl9 | exact .there sl10 | exact .there sl11 | exact .there sl12) ?_; rfl) ?_)
    refine call56 (At_ref4 (Ok.emb (h) (.cons (A := refP pc _ _) (by with_reducible first | exact sl0 | exact .there sl0 | exact .there sl1 | exact .there sl2 | exact .there sl3 | exact .there sl4 | exact .there sl5 | exact .there sl6 | exact .there sl7 | exact .there sl8 | exact .there sl9 | exact .there sl10 | exact .there sl11 | exact .there sl12) (.same _))) (by omega) ⟨(atI q.C t, ()), rfl, ?_⟩)
    refine jn.bool (decide (0 ≤ atI q.C t) || decide (0 ≤ atI q.A t)) (fun J hJ => cs.mk (fun h1 => ?_) (fun h1 => ?_)) (k w1 (rpI hr h))
    · have h1 : 0 ≤ atI q.C t := of_decide_eq_true h1
      rw [decide_eq_true h1, Bool.true_or] at hJ
      exact hJ
    · have h1 : ¬ 0 ≤ atI q.C t := of_decide_eq_false h1
      rw [decide_eq_false h1, Bool.false_or] at hJ
      refine nn.mk (ldP.mk (by refine Ok.cellS h (by with_reducible first | exact sl0 | exact .there sl0 | exact .there sl1 | exact .there sl2 | exact .there sl3 | exact .there sl4 | exact .there sl5 | exact .there sl6 | exact .there sl7 | exact .there sl8 | exact .there sl9 | exact .there sl10 | exact .there sl11 | exact .there sl12) ?_; rfl) ?_)
      refine call56 (At_ref4 (Ok.emb (h) (.cons (A := refP pa _ _) (by with_reducible first | exact sl0 | exact .there sl0 | exact .there sl1 | exact .there sl2 | exact .there sl3 | exact .there sl4 | exact .there sl5 | exact .there sl6 | exact .there sl7 | exact .there sl8 | exact .there sl9 | exact .there sl10 | exact .there sl11 | exact .there sl12) (.same _))) (by omega) ⟨(atI q.A t, ()), rfl, ?_⟩)
      exact hJ

theorem slT_open17 : SlT Pg 65 3 := .of (by kernel_rfl)

set_option maxHeartbeats 1000000 in
theorem meetX_ref17 {e w L u byPri most t pri R pc pa W Z so} {C A : List (Int × Int)} {O : List (Int × Int × Int)} {last : Int} (hWl : W.length = 17) (hZl : Z.length = 17)
    (h : Ok e (pts u (rpC pc pa W Z so last most) :: refP pc byPri C :: refP pa false A :: slc 3 so (flat op3 O) :: L) w) (l3 : O.length ≤ 2 ^ 20) (l4 : 0 ≤ last ∧ last ≤ 2 ^ 20)
    (k : ∀ so' w', Ok e (pts u (rpC pc pa W Z so' (last + 1) most) :: refP pc byPri C :: refP pa false A :: slc 3 so' (flat op3 (O ++ [(last + 1, t, pri)])) :: L) w' → R [.int .i64 (last + 1)] w') : sh42 (some ⟨u, 0, none⟩) t pri R w := by
  unfold sh42
  have hsl := slc_flat_len op3_len (by decide) (Ok.emb (h) (.cons (A := slc 3 so _) (by with_reducible first | exact sl0 | exact .there sl0 | exact .there sl1 | exact .there sl2 | exact .there sl3 | exact .there sl4 | exact .there sl5 | exact .there sl6 | exact .there sl7 | exact .there sl8 | exact .there sl9 | exact .there sl10 | exact .there sl11 | exact .there sl12) (.same _)))
  have e36 : ∀ last, (rpC pc pa W Z so last most)[0 + 36]? = some (vS so) := fun last => rpC_t (j := 0) hWl hZl
  have e37 : ∀ so last, (rpC pc pa W Z so last most)[0 + 37]? = some (.int .i64 last) := fun so last => rpC_t (j := 1) hWl hZl
  have hlen := fun so last => rpC_len (pc := pc) (pa := pa) (so := so) (last := last) (most := most) hWl hZl
  have hw : w64 (last + 1) = last + 1 := w64_in (by omega) (by omega)
  refine nn.mk (ldI.mk (Ok.cellS h (by with_reducible first | exact sl0 | exact .there sl0 | exact .there sl1 | exact .there sl2 | exact .there sl3 | exact .there sl4 | exact .there sl5 | exact .there sl6 | exact .there sl7 | exact .there sl8 | exact .there sl9 | exact .there sl10 | exact .there sl11 | exact .there sl12) (e37 _ _)) (nn.mk ?_))
  rw [hw]
  refine st1.mk h (by rw [hlen]; omega) fun w1 h => ?_
  have s37 : (rpC pc pa W Z so last most).set (0 + 37) (.int .i64 (last + 1)) = rpC pc pa W Z so (last + 1) most := rpC_setT (j := 1) hWl hZl
  rw [s37] at h
  refine dr.mk h fun w2 h => ?_
  refine nn.mk (ldS.mk (Ok.cellS h (by with_reducible first | exact sl0 | exact .there sl0 | exact .there sl1 | exact .there sl2 | exact .there sl3 | exact .there sl4 | exact .there sl5 | exact .there sl6 | exact .there sl7 | exact .there sl8 | exact .there sl9 | exact .there sl10 | exact .there sl11 | exact .there sl12) (e36 _)) (nn.mk (ldI.mk (Ok.cellS h (by with_reducible first | exact sl0 | exact .there sl0 | exact .there sl1 | exact .there sl2 | exact .there sl3 | exact .there sl4 | exact .there sl5 | exact .there sl6 | exact .there sl7 | exact .there sl8 | exact .there sl9 | exact .there sl10 | exact .there sl11 | exact .there sl12) (e37 _ _)) ?_)))
  have fin : ∀ {w' : World} {s' : Sl} {M : List SP}, Ok e (slc 3 s' (flat op3 O ++ op3 (last + 1, t, pri)) :: pts u (rpC pc pa W Z so (last + 1) most) :: refP pc byPri C :: refP pa false A :: L) w' →
      nn (some ⟨u, 0, none⟩) fun b22 o23 => st1 w' b22 (o23 + 36) (vS s') fun w24 => nn (some ⟨u, 0, none⟩) fun b25 o26 => ldI w24 .i64 b25 (o26 + 37) fun n27 => R [.int .i64 n27] w24 := fun {w' s' M} h => by
    refine nn.mk ?_
    refine st1.mk h.p1 (by rw [hlen]; omega) fun w'' h => ?_
    have s36 : (rpC pc pa W Z so (last + 1) most).set (0 + 36) (vS s') = rpC pc pa W Z s' (last + 1) most := rpC_setT (j := 0) hWl hZl
    rw [s36] at h
    refine nn.mk (ldI.mk (Ok.cellS h (by with_reducible first | exact sl0 | exact .there sl0 | exact .there sl1 | exact .there sl2 | exact .there sl3 | exact .there sl4 | exact .there sl5 | exact .there sl6 | exact .there sl7 | exact .there sl8 | exact .there sl9 | exact .there sl10 | exact .there sl11 | exact .there sl12) (e37 _ _)) ?_)
    have e1 : flat op3 O ++ op3 (last + 1, t, pri) = flat op3 (O ++ [(last + 1, t, pri)]) := by rw [flat_append]; simp [flat]
    rw [e1] at h
    have h := (Ok.emb (h) (.cons (A := pts u _) (by with_reducible first | exact sl0 | exact .there sl0 | exact .there sl1 | exact .there sl2 | exact .there sl3 | exact .there sl4 | exact .there sl5 | exact .there sl6 | exact .there sl7 | exact .there sl8 | exact .there sl9 | exact .there sl10 | exact .there sl11 | exact .there sl12) (.cons (A := refP pc _ _) (by with_reducible first | exact sl0 | exact .there sl0 | exact .there sl1 | exact .there sl2 | exact .there sl3 | exact .there sl4 | exact .there sl5 | exact .there sl6 | exact .there sl7 | exact .there sl8 | exact .there sl9 | exact .there sl10 | exact .there sl11 | exact .there sl12) (.cons (A := refP pa _ _) (by with_reducible first | exact sl0 | exact .there sl0 | exact .there sl1 | exact .there sl2 | exact .there sl3 | exact .there sl4 | exact .there sl5 | exact .there sl6 | exact .there sl7 | exact .there sl8 | exact .there sl9 | exact .there sl10 | exact .there sl11 | exact .there sl12) (.cons (A := slc 3 s' _) (by with_reducible first | exact sl0 | exact .there sl0 | exact .there sl1 | exact .there sl2 | exact .there sl3 | exact .there sl4 | exact .there sl5 | exact .there sl6 | exact .there sl7 | exact .there sl8 | exact .there sl9 | exact .there sl10 | exact .there sl11 | exact .there sl12) (.same _))))))
    exact k _ _ h
  refine ⟨?_, ?_⟩
  · refine al.mk h fun b1 w3 h => ⟨Ok.cellS h (by with_reducible first | exact sl0 | exact .there sl0 | exact .there sl1 | exact .there sl2 | exact .there sl3 | exact .there sl4 | exact .there sl5 | exact .there sl6 | exact .there sl7 | exact .there sl8 | exact .there sl9 | exact .there sl10 | exact .there sl11 | exact .there sl12) (e37 _ _), Ok.cellS h (by with_reducible first | exact sl0 | exact .there sl0 | exact .there sl1 | exact .there sl2 | exact .there sl3 | exact .there sl4 | exact .there sl5 | exact .there sl6 | exact .there sl7 | exact .there sl8 | exact .there sl9 | exact .there sl10 | exact .there sl11 | exact .there sl12) (e36 _), ?_, ?_⟩
    · have h := (Ok.emb (h) (.cons (A := pts b1 _) (by with_reducible first | exact sl0 | exact .there sl0 | exact .there sl1 | exact .there sl2 | exact .there sl3 | exact .there sl4 | exact .there sl5 | exact .there sl6 | exact .there sl7 | exact .there sl8 | exact .there sl9 | exact .there sl10 | exact .there sl11 | exact .there sl12) (.same _)))
      have h := h.slcNew (n := 0) (sz := 3) rfl (by simp)
      have h := (Ok.emb (h) (.cons (A := slc 3 _ []) (by with_reducible first | exact sl0 | exact .there sl0 | exact .there sl1 | exact .there sl2 | exact .there sl3 | exact .there sl4 | exact .there sl5 | exact .there sl6 | exact .there sl7 | exact .there sl8 | exact .there sl9 | exact .there sl10 | exact .there sl11 | exact .there sl12) (.cons (A := slc 3 so _) (by with_reducible first | exact sl0 | exact .there sl0 | exact .there sl1 | exact .there sl2 | exact .there sl3 | exact .there sl4 | exact .there sl5 | exact .there sl6 | exact .there sl7 | exact .there sl8 | exact .there sl9 | exact .there sl10 | exact .there sl11 | exact .there sl12) (.same _))))
      refine ef.append2 slT_open17 (by decide) h (by dsimp only; omega) fun s2 w4 hl2 h => ⟨Ok.cellS h (by with_reducible first | exact sl0 | exact .there sl0 | exact .there sl1 | exact .there sl2 | exact .there sl3 | exact .there sl4 | exact .there sl5 | exact .there sl6 | exact .there sl7 | exact .there sl8 | exact .there sl9 | exact .there sl10 | exact .there sl11 | exact .there sl12) (e37 _ _), ?_⟩
      refine al.mk h fun b2 w5 h => ⟨Ok.cellS h (by with_reducible first | exact sl0 | exact .there sl0 | exact .there sl1 | exact .there sl2 | exact .there sl3 | exact .there sl4 | exact .there sl5 | exact .there sl6 | exact .there sl7 | exact .there sl8 | exact .there sl9 | exact .there sl10 | exact .there sl11 | exact .there sl12) (e36 _), ?_⟩
      have h := (Ok.emb (h) (.cons (A := pts b2 _) (by with_reducible first | exact sl0 | exact .there sl0 | exact .there sl1 | exact .there sl2 | exact .there sl3 | exact .there sl4 | exact .there sl5 | exact .there sl6 | exact .there sl7 | exact .there sl8 | exact .there sl9 | exact .there sl10 | exact .there sl11 | exact .there sl12) (.cons (A := slc 3 s2 _) (by with_reducible first | exact sl0 | exact .there sl0 | exact .there sl1 | exact .there sl2 | exact .there sl3 | exact .there sl4 | exact .there sl5 | exact .there sl6 | exact .there sl7 | exact .there sl8 | exact .there sl9 | exact .there sl10 | exact .there sl11 | exact .there sl12) (.same _))))
      refine ef.append1 slT_open17 (by decide) h rfl (op3_one (last + 1, t, pri)) (by dsimp only at hl2 ⊢; omega) fun s3 w6 hl3 h => ?_
      have h := ((Ok.emb (h) (.cons (A := slc 3 so _) (by with_reducible first | exact sl0 | exact .there sl0 | exact .there sl1 | exact .there sl2 | exact .there sl3 | exact .there sl4 | exact .there sl5 | exact .there sl6 | exact .there sl7 | exact .there sl8 | exact .there sl9 | exact .there sl10 | exact .there sl11 | exact .there sl12) (.cons (A := slc 3 s3 _) (by with_reducible first | exact sl0 | exact .there sl0 | exact .there sl1 | exact .there sl2 | exact .there sl3 | exact .there sl4 | exact .there sl5 | exact .there sl6 | exact .there sl7 | exact .there sl8 | exact .there sl9 | exact .there sl10 | exact .there sl11 | exact .there sl12) (.cons (A := pts u _) (by with_reducible first | exact sl0 | exact .there sl0 | exact .there sl1 | exact .there sl2 | exact .there sl3 | exact .there sl4 | exact .there sl5 | exact .there sl6 | exact .there sl7 | exact .there sl8 | exact .there sl9 | exact .there sl10 | exact .there sl11 | exact .there sl12) (.cons (A := refP pc _ _) (by with_reducible first | exact sl0 | exact .there sl0 | exact .there sl1 | exact .there sl2 | exact .there sl3 | exact .there sl4 | exact .there sl5 | exact .there sl6 | exact .there sl7 | exact .there sl8 | exact .there sl9 | exact .there sl10 | exact .there sl11 | exact .there sl12) (.cons (A := refP pa _ _) (by with_reducible first | exact sl0 | exact .there sl0 | exact .there sl1 | exact .there sl2 | exact .there sl3 | exact .there sl4 | exact .there sl5 | exact .there sl6 | exact .there sl7 | exact .there sl8 | exact .there sl9 | exact .there sl10 | exact .there sl11 | exact .there sl12) (.same _)))))))).drop
      exact fin (M := []) h
    · refine al.mk h fun b2 w4 h => ⟨Ok.cellS h (by with_reducible first | exact sl0 | exact .there sl0 | exact .there sl1 | exact .there sl2 | exact .there sl3 | exact .there sl4 | exact .there sl5 | exact .there sl6 | exact .there sl7 | exact .there sl8 | exact .there sl9 | exact .there sl10 | exact .there sl11 | exact .there sl12) (e36 _), ?_⟩
      have h := (Ok.emb (h) (.cons (A := pts b1 _) (by with_reducible first | exact sl0 | exact .there sl0 | exact .there sl1 | exact .there sl2 | exact .there sl3 | exact .there sl4 | exact .there sl5 | exact .there sl6 | exact .there sl7 | exact .there sl8 | exact .there sl9 | exact .there sl10 | exact .there sl11 | exact .there sl12) (.same _)))
      have h := h.slcNew (n := 0) (sz := 3) rfl (by simp)
      have h := (Ok.emb (h) (.cons (A := slc 3 _ []) (by with_reducible first | exact sl0 | exact .there sl0 | exact .there sl1 | exact .there sl2 | exact .there sl3 | exact .there sl4 | exact .there sl5 | exact .there sl6 | exact .there sl7 | exact .there sl8 | exact .there sl9 | exact .there sl10 | exact .there sl11 | exact .there sl12) (.cons (A := slc 3 so _) (by with_reducible first | exact sl0 | exact .there sl0 | exact .there sl1 | exact .there sl2 | exact .there sl3 | exact .there sl4 | exact .there sl5 | exact .there sl6 | exact .there sl7 | exact .there sl8 | exact .there sl9 | exact .there sl10 | exact .there sl11 | exact .there sl12) (.same _))))
      refine ef.append2 slT_open17 (by decide) h (by dsimp only; omega) fun s2 w5 hl2 h => ⟨Ok.cellS h (by with_reducible first | exact sl0 | exact .there sl0 | exact .there sl1 | exact .there sl2 | exact .there sl3 | exact .there sl4 | exact .there sl5 | exact .there sl6 | exact .there sl7 | exact .there sl8 | exact .there sl9 | exact .there sl10 | exact .there sl11 | exact .there sl12) (e37 _ _), ?_⟩
      have h := (Ok.emb (h) (.cons (A := pts b2 _) (by with_reducible first | exact sl0 | exact .there sl0 | exact .there sl1 | exact .there sl2 | exact .there sl3 | exact .there sl4 | exact .there sl5 | exact .there sl6 | exact .there sl7 | exact .there sl8 | exact .there sl9 | exact .there sl10 | exact .there sl11 | exact .there sl12) (.cons (A := slc 3 s2 _) (by with_reducible first | exact sl0 | exact .there sl0 | exact .there sl1 | exact .there sl2 | exact .there sl3 | exact .there sl4 | exact .there sl5 | exact .there sl6 | exact .there sl7 | exact .there sl8 | exact .there sl9 | exact .there sl10 | exact .there sl11 | exact .there sl12) (.same _))))
      refine ef.append1 slT_open17 (by decide) h rfl (op3_one (last + 1, t, pri)) (by dsimp only at hl2 ⊢; omega) fun s3 w6 hl3 h => ?_
      have h := ((Ok.emb (h) (.cons (A := slc 3 so _) (by with_reducible first | exact sl0 | exact .there sl0 | exact .there sl1 | exact .there sl2 | exact .there sl3 | exact .there sl4 | exact .there sl5 | exact .there sl6 | exact .there sl7 | exact .there sl8 | exact .there sl9 | exact .there sl10 | exact .there sl11 | exact .there sl12) (.cons (A := slc 3 s3 _) (by with_reducible first | exact sl0 | exact .there sl0 | exact .there sl1 | exact .there sl2 | exact .there sl3 | exact .there sl4 | exact .there sl5 | exact .there sl6 | exact .there sl7 | exact .there sl8 | exact .there sl9 | exact .there sl10 | exact .there sl11 | exact .there sl12) (.cons (A := pts u _) (by with_reducible first | exact sl0 | exact .there sl0 | exact .there sl1 | exact .there sl2 | exact .there sl3 | exact .there sl4 | exact .there sl5 | exact .there sl6 | exact .there sl7 | exact .there sl8 | exact .there sl9 | exact .there sl10 | exact .there sl11 | exact .there sl12) (.cons (A := refP pc _ _) (by with_reducible first | exact sl0 | exact .there sl0 | exact .there sl1 | exact .there sl2 | exact .there sl3 | exact .there sl4 | exact .there sl5 | exact .there sl6 | exact .there sl7 | exact .there sl8 | exact .there sl9 | exact .there sl10 | exact .there sl11 | exact .there sl12) (.cons (A := refP pa _ _) (by with_reducible first | exact sl0 | exact .there sl0 | exact .there sl1 | exact .there sl2 | exact .there sl3 | exact .there sl4 | exact .there sl5 | exact .there sl6 | exact .there sl7 | exact .there sl8 | exact .there sl9 | exact .there sl10 | exact .there sl11 | exact .there sl12) (.same _)))))))).drop
      exact fin (M := []) h
  · refine al.mk h fun b2 w3 h => ⟨Ok.cellS h (by with_reducible first | exact sl0 | exact .there sl0 | exact .there sl1 | exact .there sl2 | exact .there sl3 | exact .there sl4 | exact .there sl5 | exact .there sl6 | exact .there sl7 | exact .there sl8 | exact .there sl9 | exact .there sl10 | exact .there sl11 | exact .there sl12) (e36 _), ?_⟩
    refine al.mk h fun b1 w4 h => ⟨Ok.cellS h (by with_reducible first | exact sl0 | exact .there sl0 | exact .there sl1 | exact .there sl2 | exact .there sl3 | exact .there sl4 | exact .there sl5 | exact .there sl6 | exact .there sl7 | exact .there sl8 | exact .there sl9 | exact .there sl10 | exact .there sl11 | exact .there sl12) (e37 _ _), Ok.cellS h (by with_reducible first | exact sl0 | exact .there sl0 | exact .there sl1 | exact .there sl2 | exact .there sl3 | exact .there sl4 | exact .there sl5 | exact .there sl6 | exact .there sl7 | exact .there sl8 | exact .there sl9 | exact .there sl10 | exact .there sl11 | exact .there sl12) (e36 _), ?_⟩
    have h := (Ok.emb (h) (.cons (A := pts b1 _) (by with_reducible first | exact sl0 | exact .there sl0 | exact .there sl1 | exact .there sl2 | exact .there sl3 | exact .there sl4 | exact .there sl5 | exact .there sl6 | exact .there sl7 | exact .there sl8 | exact .there sl9 | exact .there sl10 | exact .there sl11 | exact .there sl12) (.same _)))
    have h := h.slcNew (n := 0) (sz := 3) rfl (by simp)
    have h := (Ok.emb (h) (.cons (A := slc 3 _ []) (by with_reducible first | exact sl0 | exact .there sl0 | exact .there sl1 | exact .there sl2 | exact .there sl3 | exact .there sl4 | exact .there sl5 | exact .there sl6 | exact .there sl7 | exact .there sl8 | exact .there sl9 | exact .there sl10 | exact .there sl11 | exact .there sl12) (.cons (A := slc 3 so _) (by with_reducible first | exact sl0 | exact .there sl0 | exact .there sl1 | exact .there sl2 | exact .there sl3 | exact .there sl4 | exact .there sl5 | exact .there sl6 | exact .there sl7 | exact .there sl8 | exact .there sl9 | exact .there sl10 | exact .there sl11 | exact .there sl12) (.same _))))
    refine ef.append2 slT_open17 (by decide) h (by dsimp only; omega) fun s2 w5 hl2 h => ⟨Ok.cellS h (by with_reducible first | exact sl0 | exact .there sl0 | exact .there sl1 | exact .there sl2 | exact .there sl3 | exact .there sl4 | exact .there sl5 | exact .there sl6 | exact .there sl7 | exact .there sl8 | exact .there sl9 | exact .there sl10 | exact .there sl11 | exact .there sl12) (e37 _ _), ?_⟩
    have h := (Ok.emb (h) (.cons (A := pts b2 _) (by with_reducible first | exact sl0 | exact .there sl0 | exact .there sl1 | exact .there sl2 | exact .there sl3 | exact .there sl4 | exact .there sl5 | exact .there sl6 | exact .there sl7 | exact .there sl8 | exact .there sl9 | exact .there sl10 | exact .there sl11 | exact .there sl12) (.cons (A := slc 3 s2 _) (by with_reducible first | exact sl0 | exact .there sl0 | exact .there sl1 | exact .there sl2 | exact .there sl3 | exact .there sl4 | exact .there sl5 | exact .there sl6 | exact .there sl7 | exact .there sl8 | exact .there sl9 | exact .there sl10 | exact .there sl11 | exact .there sl12) (.same _))))
    refine ef.append1 slT_open17 (by decide) h rfl (op3_one (last + 1, t, pri)) (by dsimp only at hl2 ⊢; omega) fun s3 w6 hl3 h => ?_
    have h := ((Ok.emb (h) (.cons (A := slc 3 so _) (by with_reducible first | exact sl0 | exact .there sl0 | exact .there sl1 | exact .there sl2 | exact .there sl3 | exact .there sl4 | exact .there sl5 | exact .there sl6 | exact .there sl7 | exact .there sl8 | exact .there sl9 | exact .there sl10 | exact .there sl11 | exact .there sl12) (.cons (A := slc 3 s3 _) (by with_reducible first | exact sl0 | exact .there sl0 | exact .there sl1 | exact .there sl2 | exact .there sl3 | exact .there sl4 | exact .there sl5 | exact .there sl6 | exact .there sl7 | exact .there sl8 | exact .there sl9 | exact .there sl10 | exact .there sl11 | exact .there sl12) (.cons (A := pts u _) (by with_reducible first | exact sl0 | exact .there sl0 | exact .there sl1 | exact .there sl2 | exact .there sl3 | exact .there sl4 | exact .there sl5 | exact .there sl6 | exact .there sl7 | exact .there sl8 | exact .there sl9 | exact .there sl10 | exact .there sl11 | exact .there sl12) (.cons (A := refP pc _ _) (by with_reducible first | exact sl0 | exact .there sl0 | exact .there sl1 | exact .there sl2 | exact .there sl3 | exact .there sl4 | exact .there sl5 | exact .there sl6 | exact .there sl7 | exact .there sl8 | exact .there sl9 | exact .there sl10 | exact .there sl11 | exact .there sl12) (.cons (A := refP pa _ _) (by with_reducible first | exact sl0 | exact .there sl0 | exact .there sl1 | exact .there sl2 | exact .there sl3 | exact .there sl4 | exact .there sl5 | exact .there sl6 | exact .there sl7 | exact .there sl8 | exact .there sl9 | exact .there sl10 | exact .there sl11 | exact .there sl12) (.same _)))))))).drop
    exact fin (M := []) h

theorem meet_ref17 {e w L u byPri most q t pri N R} (h : Ok e (rpP u byPri most q :: L) w) (ho : PPo N q) (hN : N ≤ 2 ^ 20)
    (k : ∀ w', Ok e (rpP u byPri most ⟨q.C, q.A, q.g, q.s, q.L ++ [(q.last + 1, t, pri)], q.last + 1⟩ :: L) w' → R [.int .i64 (q.last + 1)] w') : sh42 (some ⟨u, 0, none⟩) t pri R w := by
  have l3 := ho.n
  have l4 := ho.l
  obtain ⟨pc, pa, W, Z, so, hr, h⟩ := rpE h
  exact meetX_ref17 hr.w hr.z h (by omega) (by omega) fun so' w' h => k w' (rpI (q := ⟨q.C, q.A, q.g, q.s, q.L ++ [(q.last + 1, t, pri)], q.last + 1⟩) ⟨hr.w, hr.z, hr.gc, hr.ga, hr.s⟩ h)

theorem metR {e w b L code v1 v2 v3 v4 no t y ok} {R : List Value → World → Prop} (h : Ok e (pts b [v1, v2, v3, v4] :: L) w) (k : ∀ w', Ok e L w' → R [.agg #[.int .i64 no, .int .i64 t, .string y, .bool ok], .int .i64 code] w') :
    st1 w b 0 (.int .i64 no) fun w5 => st1 w5 b (0 + 1) (.int .i64 t) fun w6 => st1 w6 b (0 + 2) (.string y) fun w7 => st1 w7 b (0 + 3) (.bool ok) fun w8 =>
    ldI w8 .i64 b 0 fun n9 => ldI w8 .i64 b (0 + 1) fun n10 => ldG w8 b (0 + 2) fun s11 => ldB w8 b (0 + 3) fun b12 =>
    R [.agg #[.int .i64 n9, .int .i64 n10, .string s11, .bool b12], .int .i64 code] w8 := by
  (repeat (first | with_reducible refine dr.mk h fun _ h => ?_ | with_reducible refine nn.mk ?_ | ((first | with_reducible apply ldI.mk | with_reducible apply ldB.mk | with_reducible apply ldP.mk | with_reducible apply ldS.mk | with_reducible apply ldM.mk | with_reducible apply ldF.mk | with_reducible apply ldG.mk); (· exact (by refine Ok.cellS h (by with_reducible first | exact sl0 | exact .there sl0 | exact .there sl1 | exact .there sl2 | exact .there sl3 | exact .there sl4 | exact .there sl5 | exact .there sl6 | exact .there sl7 | exact .there sl8 | exact .there sl9 | exact .there sl10 | exact .there sl11 | exact .there sl12) ?_; rfl))) | (refine st1.mk (Ok.bring h (by with_reducible first | exact sl0 | exact .there sl0 | exact .there sl1 | exact .there sl2 | exact .there sl3 | exact .there sl4 | exact .there sl5 | exact .there sl6 | exact .there sl7 | exact .there sl8 | exact .there sl9 | exact .there sl10 | exact .there sl11 | exact .there sl12)) (by simp) fun _ h => ?_; dsimp only [List.set] at h)))
  first
    | exact k _ h.drop
    | (refine ldG.mk (by refine Ok.cellS h (by with_reducible first | exact sl0 | exact .there sl0 | exact .there sl1 | exact .there sl2 | exact .there sl3 | exact .there sl4 | exact .there sl5 | exact .there sl6 | exact .there sl7 | exact .there sl8 | exact .there sl9 | exact .there sl10 | exact .there sl11 | exact .there sl12) ?_; rfl) (ldB.mk (by refine Ok.cellS h (by with_reducible first | exact sl0 | exact .there sl0 | exact .there sl1 | exact .there sl2 | exact .there sl3 | exact .there sl4 | exact .there sl5 | exact .there sl6 | exact .there sl7 | exact .there sl8 | exact .there sl9 | exact .there sl10 | exact .there sl11 | exact .there sl12) ?_; rfl) ?_)
       exact k _ h.drop)

end Go.Proofs.Ytbhmejmkoefahaa.B
