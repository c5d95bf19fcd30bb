/- Contracts of the document's message buffer. -/
import Derived.Test.YtjamgdepbjipdaaMbf
import Derived.Test.YtjamgdepbjipdaaRef6
import Derived.Test.YtjamgdepbjipdaaRef4
namespace Go.Proofs.Ytjamgdepbjipdaa.B
open Go
set_option linter.unusedVariables false

theorem IDs_ref4 {e w L q byPri l R} (h : Ok e (refP q byPri l :: L) w) (hb : l.length ≤ 2 ^ 20) (k : ∀ s w', s.len = l.length → Ok e (slc 1 s (ints (ids l)) :: refP q byPri l :: L) w' → R [vS s] w') : sh31 (some ⟨q, 0, none⟩) R w := by
  unfold sh31
  obtain ⟨sl, hsl, h⟩ := refE h
  refine lp.mk (fun t w' => ∃ i : Nat, t.2.1 = (i : Int) ∧ i ≤ l.length ∧ t.1.len = i ∧ Ok e (slc 1 t.1 (ints (ids (l.take i))) :: pts q [.bool byPri, vS sl] :: slc 2 sl (prs l) :: L) w') (fun t _ => l.length - t.2.1.toNat) ⟨0, rfl, Nat.zero_le _, rfl, h.slcNil 1⟩ ?_
  clear h
  rintro ⟨(t : Sl), (i' : Int), _⟩ w4 ⟨i, hi, hi1, ht, h⟩
  dsimp only at hi ht h
  subst hi
  refine nn.mk (ldS.mk (by refine Ok.cellS h (by with_reducible first | exact sl0 | exact .there sl0 | exact .there sl1 | exact .there sl2 | exact .there sl3 | exact .there sl4 | exact .there sl5 | exact .there sl6 | exact .there sl7 | exact .there sl8 | exact .there sl9 | exact .there sl10 | exact .there sl11 | exact .there sl12) ?_; rfl) ?_)
  refine cs.mk (fun hlt => ?_) (fun hge => ?_)
  · have hlt : i < l.length := by have := of_decide_eq_true hlt; dsimp only at this; omega
    obtain ⟨x, hx⟩ : ∃ x, l[i]? = some x := ⟨_, List.getElem?_eq_getElem hlt⟩
    refine nn.mk (ldS.mk (by refine Ok.cellS h (by with_reducible first | exact sl0 | exact .there sl0 | exact .there sl1 | exact .there sl2 | exact .there sl3 | exact .there sl4 | exact .there sl5 | exact .there sl6 | exact .there sl7 | exact .there sl8 | exact .there sl9 | exact .there sl10 | exact .there sl11 | exact .there sl12) ?_; rfl) ?_)
    refine ix_pr (Ok.emb (h) (.cons (A := slc 2 sl _) (by with_reducible first | exact sl0 | exact .there sl0 | exact .there sl1 | exact .there sl2 | exact .there sl3 | exact .there sl4 | exact .there sl5 | exact .there sl6 | exact .there sl7 | exact .there sl8 | exact .there sl9 | exact .there sl10 | exact .there sl11 | exact .there sl12) (.same _))) (Int.natCast_nonneg _) (by dsimp only; omega) fun b2 o2 y hy _ _ c1 c2 => ldI.mk (c1 _ ⟨_, (Ok.emb (h) (.cons (A := slc 2 sl _) (by with_reducible first | exact sl0 | exact .there sl0 | exact .there sl1 | exact .there sl2 | exact .there sl3 | exact .there sl4 | exact .there sl5 | exact .there sl6 | exact .there sl7 | exact .there sl8 | exact .there sl9 | exact .there sl10 | exact .there sl11 | exact .there sl12) (.same _)))⟩) ?_
    dsimp only at hy
    rw [Int.toNat_natCast, hx] at hy
    cases hy
    clear c1 c2
    refine al.mk h fun b4 w7 h => ?_
    have h := (Ok.emb (h) (.cons (A := pts b4 _) (by with_reducible first | exact sl0 | exact .there sl0 | exact .there sl1 | exact .there sl2 | exact .there sl3 | exact .there sl4 | exact .there sl5 | exact .there sl6 | exact .there sl7 | exact .there sl8 | exact .there sl9 | exact .there sl10 | exact .there sl11 | exact .there sl12) (.cons (A := slc 1 t _) (by with_reducible first | exact sl0 | exact .there sl0 | exact .there sl1 | exact .there sl2 | exact .there sl3 | exact .there sl4 | exact .there sl5 | exact .there sl6 | exact .there sl7 | exact .there sl8 | exact .there sl9 | exact .there sl10 | exact .there sl11 | exact .there sl12) (.same _))))
    refine ef.append1 slT_int (by decide) h rfl (by simp [Value.oneCell']) (by dsimp only; omega) fun s' w8 hl2 h => ?_
    have e1 : ints (ids (l.take i)) ++ [.int .i64 x.1] = ints (ids (l.take (i + 1))) := by rw [List.take_add_one, hx]; simp [ints, ids]
    rw [e1] at h
    have hw : w64 ((i : Int) + 1) = ((i + 1 : Nat) : Int) := by rw [w64_in (by omega) (by omega)]; rfl
    dsimp only at hl2 ⊢
    rw [hw]
    refine ⟨⟨i + 1, rfl, hlt, by omega, (Ok.emb (h) (.cons (A := slc 1 s' _) (by with_reducible first | exact sl0 | exact .there sl0 | exact .there sl1 | exact .there sl2 | exact .there sl3 | exact .there sl4 | exact .there sl5 | exact .there sl6 | exact .there sl7 | exact .there sl8 | exact .there sl9 | exact .there sl10 | exact .there sl11 | exact .there sl12) (.cons (A := pts q _) (by with_reducible first | exact sl0 | exact .there sl0 | exact .there sl1 | exact .there sl2 | exact .there sl3 | exact .there sl4 | exact .there sl5 | exact .there sl6 | exact .there sl7 | exact .there sl8 | exact .there sl9 | exact .there sl10 | exact .there sl11 | exact .there sl12) (.same _))))⟩, ?_⟩
    show l.length - Int.toNat ((i + 1 : Nat) : Int) < l.length - Int.toNat (i : Int)
    omega
  · have hge : ¬ i < l.length := by have := of_decide_eq_false hge; dsimp only at this; omega
    rw [List.take_of_length_le (by omega)] at h
    have h := refI (q := q) (byPri := byPri) (l := l) (s := sl) (Ok.emb (h) (.cons (A := pts q _) (by with_reducible first | exact sl0 | exact .there sl0 | exact .there sl1 | exact .there sl2 | exact .there sl3 | exact .there sl4 | exact .there sl5 | exact .there sl6 | exact .there sl7 | exact .there sl8 | exact .there sl9 | exact .there sl10 | exact .there sl11 | exact .there sl12) (.cons (A := slc 2 sl _) (by with_reducible first | exact sl0 | exact .there sl0 | exact .there sl1 | exact .there sl2 | exact .there sl3 | exact .there sl4 | exact .there sl5 | exact .there sl6 | exact .there sl7 | exact .there sl8 | exact .there sl9 | exact .there sl10 | exact .there sl11 | exact .there sl12) (.same _))))
    exact k t _ (by omega) (Ok.emb (h) (.cons (A := slc 1 t _) (by with_reducible first | exact sl0 | exact .there sl0 | exact .there sl1 | exact .there sl2 | exact .there sl3 | exact .there sl4 | exact .there sl5 | exact .there sl6 | exact .there sl7 | exact .there sl8 | exact .there sl9 | exact .there sl10 | exact .there sl11 | exact .there sl12) (.cons (A := refP q _ _) (by with_reducible first | exact sl0 | exact .there sl0 | exact .there sl1 | exact .there sl2 | exact .there sl3 | exact .there sl4 | exact .there sl5 | exact .there sl6 | exact .there sl7 | exact .there sl8 | exact .there sl9 | exact .there sl10 | exact .there sl11 | exact .there sl12) (.same _))))

abbrev rbC (g ps pr : Nat) (W : List (List UInt8)) (most : Int) : List Value := .pointer (some ⟨g, 0, none⟩) :: .pointer (some ⟨ps, 0, none⟩) :: .pointer (some ⟨pr, 0, none⟩) :: (strs W ++ [.int .i64 most])

theorem rbC_w {g ps pr W most} {i : Nat} {x : List UInt8} (h : W[i]? = some x) : (rbC g ps pr W most)[0 + 3 + i * 1]? = some (.string (bs x)) := by
  have hlt := (List.getElem?_eq_some_iff.1 h).1
  rw [show 0 + 3 + i * 1 = i + 1 + 1 + 1 by omega, List.getElem?_cons_succ, List.getElem?_cons_succ, List.getElem?_cons_succ, List.getElem?_append_left (by simpa [strs] using hlt)]
  exact strs_get h

theorem rbC_m {g ps pr W most} (h : W.length = 17) : (rbC g ps pr W most)[0 + 20]? = some (.int .i64 most) := by
  rw [show 0 + 20 = 17 + 1 + 1 + 1 by omega, List.getElem?_cons_succ, List.getElem?_cons_succ, List.getElem?_cons_succ, List.getElem?_append_right (by simp [strs, h])]
  simp [strs, h]

theorem rbC_len {g ps pr W most} (h : W.length = 17) : (rbC g ps pr W most).length = 21 := by simp [strs, h]

theorem rbC_set {g ps pr W most} {i : Nat} {x : List UInt8} (h : i < W.length) : (rbC g ps pr W most).set (0 + 3 + i * 1) (.string (bs x)) = rbC g ps pr (W.set i x) most := by
  rw [show 0 + 3 + i * 1 = i + 1 + 1 + 1 by omega, List.set_cons_succ, List.set_cons_succ, List.set_cons_succ, List.set_append_left _ _ (by simpa [strs] using h)]
  simp [strs, List.map_set]

structure hW (q : BB) (W : List (List UInt8)) : Prop where
  w : W.length = 17
  s : ∀ i ∈ ids q.S, W[i.toNat]? = some (q.s i)

def rbP (u : Nat) (byPri : Bool) (most : Int) (z : Nat) (q : BB) : SP := fun h => ∃ g ps pr W, hW q W ∧ oksH [pts u (rbC g ps pr W most), rr6P g z q.M, refP ps byPri q.S, refP pr false q.R] h

theorem rbE {e w L u byPri most z q} (h : Ok e (rbP u byPri most z q :: L) w) : ∃ g ps pr W, hW q W ∧ Ok e (pts u (rbC g ps pr W most) :: rr6P g z q.M :: refP ps byPri q.S :: refP pr false q.R :: L) w := by
  obtain ⟨g, h⟩ := h.exE
  obtain ⟨ps, h⟩ := h.exE
  obtain ⟨pr, h⟩ := h.exE
  obtain ⟨W, h⟩ := h.exE
  obtain ⟨h1, h⟩ := h.pureE
  exact ⟨g, ps, pr, W, h1, h.unpack⟩

theorem rbI {e w L u byPri most z q g ps pr W} (h1 : hW q W) (h : Ok e (pts u (rbC g ps pr W most) :: rr6P g z q.M :: refP ps byPri q.S :: refP pr false q.R :: L) w) : Ok e (rbP u byPri most z q :: L) w :=
  (Ok.pack (M := [pts u (rbC g ps pr W most), rr6P g z q.M, refP ps byPri q.S, refP pr false q.R]) h).imp fun k hk => ⟨g, ps, pr, W, h1, hk⟩

theorem New_ref16 {e w L byPri most n R} (h : Ok e L w) (k0 : ¬ mkB' most n → ∀ w', Ok e L w' → R [.pointer none, .int .i64 (-17)] w')
    (k1 : mkB' most n → ∀ b w', Ok e (rbP b byPri most n.toNat bb0 :: L) w' → R [.pointer (some ⟨b, 0, none⟩), .int .i64 0] w') : sh18 byPri most n R w := by
  unfold sh18
  refine jn.bool (decide (¬ (1 ≤ most ∧ most ≤ 1024))) (fun J hJ => cs.mk (fun h2 => ?_) (fun h2 => ?_)) ?_
  · have h2 := of_decide_eq_true h2
    rw [decide_eq_true (by omega)] at hJ
    exact hJ
  · have h2 := of_decide_eq_false h2
    rw [show decide (¬ (1 ≤ most ∧ most ≤ 1024)) = decide (most > 1024) from decide_eq_decide.2 (by omega)] at hJ
    exact hJ
  refine cs.mk (fun h2 => k0 (fun hk => of_decide_eq_true h2 ⟨hk.1, hk.2.1⟩) w h) (fun h2 => ?_)
  have h2 : 1 ≤ most ∧ most ≤ 1024 := Decidable.not_not.1 (of_decide_eq_false h2)
  refine call45 (New_ref6 h (fun h1 => ⟨(none, (-17 : Int), ()), rfl, ?_⟩) fun h1 b w1 h => ⟨(some ⟨b, 0, none⟩, (0 : Int), ()), rfl, ?_⟩)
  · exact cs.yes rfl (k0 (fun hk => h1 ⟨hk.2.2.1, hk.2.2.2.1, hk.2.2.2.2⟩) w h)
  · refine cs.no rfl ?_
    refine al.mk h fun ps w2 h => ?_
    have h := refI (q := ps) (byPri := byPri) (l := []) (s := ⟨none, 0, 0⟩) (h.slcNil 2).p1
    refine al.mk h fun pr w3 h => ?_
    have h := refI (q := pr) (byPri := false) (l := []) (s := ⟨none, 0, 0⟩) (h.slcNil 2).p1
    refine al.mk h fun u w4 h => ?_
    have h : Ok e (pts u (rbC b ps pr (List.replicate 17 []) most) :: refP pr false [] :: refP ps byPri [] :: rr6P b n.toNat [] :: L) w4 := h
    have h := (Ok.emb (h) (.cons (A := pts u _) (by with_reducible first | exact sl0 | exact .there sl0 | exact .there sl1 | exact .there sl2 | exact .there sl3 | exact .there sl4 | exact .there sl5 | exact .there sl6 | exact .there sl7 | exact .there sl8 | exact .there sl9 | exact .there sl10 | exact .there sl11 | exact .there sl12) (.cons (A := rr6P b _ _) (by with_reducible first | exact sl0 | exact .there sl0 | exact .there sl1 | exact .there sl2 | exact .there sl3 | exact .there sl4 | exact .there sl5 | exact .there sl6 | exact .there sl7 | exact .there sl8 | exact .there sl9 | exact .there sl10 | exact .there sl11 | exact .there sl12) (.cons (A := refP ps _ _) (by with_reducible first | exact sl0 | exact .there sl0 | exact .there sl1 | exact .there sl2 | exact .there sl3 | exact .there sl4 | exact .there sl5 | exact .there sl6 | exact .there sl7 | exact .there sl8 | exact .there sl9 | exact .there sl10 | exact .there sl11 | exact .there sl12) (.cons (A := refP pr _ _) (by with_reducible first | exact sl0 | exact .there sl0 | exact .there sl1 | exact .there sl2 | exact .there sl3 | exact .there sl4 | exact .there sl5 | exact .there sl6 | exact .there sl7 | exact .there sl8 | exact .there sl9 | exact .there sl10 | exact .there sl11 | exact .there sl12) (.same _))))))
    exact k1 ⟨h2.1, h2.2, h1.1, h1.2.1, h1.2.2⟩ u w4 (rbI (q := bb0) ⟨by simp, fun i hi => by simp [bb0] at hi⟩ h)

theorem TrySend_ref16 {e w A L u byPri most z q x l R} (h : Ok e (rbP u byPri most z q :: A :: L) w) (r : RdB e A x l) (ho : BBo z q) (hm : 1 ≤ most ∧ most ≤ 1024)
    (k : ∀ w', Ok e (rbP u byPri most z (q.trySend z most l).2 :: A :: L) w' → R [.bool (q.trySend z most l).1.1, .int .i64 (q.trySend z most l).1.2.1, .int .i64 (q.trySend z most l).1.2.2] w') :
    sh20 (some ⟨u, 0, none⟩) x R w := by
  unfold sh20
  unfold BB.trySend at k
  rw [← r.len]
  have l1 := okL_len ho.s
  have l2 := okL_len ho.r
  obtain ⟨g, ps, pr, W, h1, h⟩ := rbE h
  refine jn.bool (decide ((l.length : Int) < 1 ∨ (l.length : Int) > most)) (fun J hJ => cs.mk (fun h2 => ?_) (fun h2 => ?_)) ?_
  · have h2 : (l.length : Int) = 0 := by simpa using h2
    rw [decide_eq_true (by omega)] at hJ
    exact hJ
  · have h2 := ne_of_beq_false h2
    refine nn.mk (ldI.mk (x := most) (Ok.cellS h (by with_reducible first | exact sl0 | exact .there sl0 | exact .there sl1 | exact .there sl2 | exact .there sl3 | exact .there sl4 | exact .there sl5 | exact .there sl6 | exact .there sl7 | exact .there sl8 | exact .there sl9 | exact .there sl10 | exact .there sl11 | exact .there sl12) (rbC_m h1.w)) ?_)
    rw [show decide ((l.length : Int) < 1 ∨ (l.length : Int) > most) = decide ((l.length : Int) > most) from decide_eq_decide.2 (by omega)] at hJ
    exact hJ
  refine cs.mk (fun h2 => ?_) (fun h2 => ?_)
  · rw [if_pos (of_decide_eq_true h2)] at k
    exact k w (rbI h1 h)
  have h2 := of_decide_eq_false h2
  rw [if_neg h2] at k
  refine nn.mk (ldP.mk (by refine Ok.cellS h (by with_reducible first | exact sl0 | exact .there sl0 | exact .there sl1 | exact .there sl2 | exact .there sl3 | exact .there sl4 | exact .there sl5 | exact .there sl6 | exact .there sl7 | exact .there sl8 | exact .there sl9 | exact .there sl10 | exact .there sl11 | exact .there sl12) ?_; rfl) ?_)
  refine call49 (Take_ref4 (Ok.emb (h) (.cons (A := refP pr _ _) (by with_reducible first | exact sl0 | exact .there sl0 | exact .there sl1 | exact .there sl2 | exact .there sl3 | exact .there sl4 | exact .there sl5 | exact .there sl6 | exact .there sl7 | exact .there sl8 | exact .there sl9 | exact .there sl10 | exact .there sl11 | exact .there sl12) (.same _))) (by omega) fun w1 h => ⟨(((q.R.head?.getD (0, 0)).1, (q.R.head?.getD (0, 0)).2, ()), !q.R.isEmpty, ()), rfl, ?_⟩)
  refine al.mk h fun c w2 h => ?_
  (repeat (first | with_reducible refine dr.mk h fun _ h => ?_ | with_reducible refine nn.mk ?_ | ((first | with_reducible apply ldI.mk | with_reducible apply ldB.mk | with_reducible apply ldP.mk | with_reducible apply ldS.mk | with_reducible apply ldM.mk | with_reducible apply ldF.mk | with_reducible apply ldG.mk); (· exact (by refine Ok.cellS h (by with_reducible first | exact sl0 | exact .there sl0 | exact .there sl1 | exact .there sl2 | exact .there sl3 | exact .there sl4 | exact .there sl5 | exact .there sl6 | exact .there sl7 | exact .there sl8 | exact .there sl9 | exact .there sl10 | exact .there sl11 | exact .there sl12) ?_; rfl))) | (refine st1.mk (Ok.bring h (by with_reducible first | exact sl0 | exact .there sl0 | exact .there sl1 | exact .there sl2 | exact .there sl3 | exact .there sl4 | exact .there sl5 | exact .there sl6 | exact .there sl7 | exact .there sl8 | exact .there sl9 | exact .there sl10 | exact .there sl11 | exact .there sl12)) (by simp) fun _ h => ?_; dsimp only [List.set] at h)))
  obtain ⟨M, S, R, s⟩ := q
  dsimp only at *
  cases R with
  | cons y R =>
    refine cs.yes rfl ?_
    dsimp only [List.set, List.tail_cons, List.tail_nil, List.head?_cons, List.head?_nil, Option.getD_some, Option.getD_none] at h
    (repeat (first | with_reducible refine dr.mk h fun _ h => ?_ | with_reducible refine nn.mk ?_ | ((first | with_reducible apply ldI.mk | with_reducible apply ldB.mk | with_reducible apply ldP.mk | with_reducible apply ldS.mk | with_reducible apply ldM.mk | with_reducible apply ldF.mk | with_reducible apply ldG.mk); (· exact (by refine Ok.cellS h (by with_reducible first | exact sl0 | exact .there sl0 | exact .there sl1 | exact .there sl2 | exact .there sl3 | exact .there sl4 | exact .there sl5 | exact .there sl6 | exact .there sl7 | exact .there sl8 | exact .there sl9 | exact .there sl10 | exact .there sl11 | exact .there sl12) ?_; rfl))) | (refine st1.mk (Ok.bring h (by with_reducible first | exact sl0 | exact .there sl0 | exact .there sl1 | exact .there sl2 | exact .there sl3 | exact .there sl4 | exact .there sl5 | exact .there sl6 | exact .there sl7 | exact .there sl8 | exact .there sl9 | exact .there sl10 | exact .there sl11 | exact .there sl12)) (by simp) fun _ h => ?_; dsimp only [List.set] at h)))
    have h := ((Ok.emb (h) (.cons (A := pts c _) (by with_reducible first | exact sl0 | exact .there sl0 | exact .there sl1 | exact .there sl2 | exact .there sl3 | exact .there sl4 | exact .there sl5 | exact .there sl6 | exact .there sl7 | exact .there sl8 | exact .there sl9 | exact .there sl10 | exact .there sl11 | exact .there sl12) (.cons (A := pts u _) (by with_reducible first | exact sl0 | exact .there sl0 | exact .there sl1 | exact .there sl2 | exact .there sl3 | exact .there sl4 | exact .there sl5 | exact .there sl6 | exact .there sl7 | exact .there sl8 | exact .there sl9 | exact .there sl10 | exact .there sl11 | exact .there sl12) (.cons (A := rr6P g _ _) (by with_reducible first | exact sl0 | exact .there sl0 | exact .there sl1 | exact .there sl2 | exact .there sl3 | exact .there sl4 | exact .there sl5 | exact .there sl6 | exact .there sl7 | exact .there sl8 | exact .there sl9 | exact .there sl10 | exact .there sl11 | exact .there sl12) (.cons (A := refP ps _ _) (by with_reducible first | exact sl0 | exact .there sl0 | exact .there sl1 | exact .there sl2 | exact .there sl3 | exact .there sl4 | exact .there sl5 | exact .there sl6 | exact .there sl7 | exact .there sl8 | exact .there sl9 | exact .there sl10 | exact .there sl11 | exact .there sl12) (.cons (A := refP pr _ _) (by with_reducible first | exact sl0 | exact .there sl0 | exact .there sl1 | exact .there sl2 | exact .there sl3 | exact .there sl4 | exact .there sl5 | exact .there sl6 | exact .there sl7 | exact .there sl8 | exact .there sl9 | exact .there sl10 | exact .there sl11 | exact .there sl12) (.same _)))))))).drop
    exact k _ (rbI (q := ⟨M, S, R, s⟩) ⟨h1.w, h1.s⟩ h)
  | nil =>
    refine cs.no rfl ?_
    dsimp only [List.set, List.tail_cons, List.tail_nil, List.head?_cons, List.head?_nil, Option.getD_some, Option.getD_none] at h
    obtain ⟨sl, hsl, h⟩ := refE (Ok.emb (h) (.cons (A := refP ps _ _) (by with_reducible first | exact sl0 | exact .there sl0 | exact .there sl1 | exact .there sl2 | exact .there sl3 | exact .there sl4 | exact .there sl5 | exact .there sl6 | exact .there sl7 | exact .there sl8 | exact .there sl9 | exact .there sl10 | exact .there sl11 | exact .there sl12) (.same _)))
    refine nn.mk (ldP.mk (by refine Ok.cellS h (by with_reducible first | exact sl0 | exact .there sl0 | exact .there sl1 | exact .there sl2 | exact .there sl3 | exact .there sl4 | exact .there sl5 | exact .there sl6 | exact .there sl7 | exact .there sl8 | exact .there sl9 | exact .there sl10 | exact .there sl11 | exact .there sl12) ?_; rfl) (nn.mk (ldS.mk (x := sl) (by refine Ok.cellS h (by with_reducible first | exact sl0 | exact .there sl0 | exact .there sl1 | exact .there sl2 | exact .there sl3 | exact .there sl4 | exact .there sl5 | exact .there sl6 | exact .there sl7 | exact .there sl8 | exact .there sl9 | exact .there sl10 | exact .there sl11 | exact .there sl12) ?_; rfl) ?_)))
    have h := refI (q := ps) (byPri := byPri) (l := S) (s := sl) (Ok.emb (h) (.cons (A := pts ps _) (by with_reducible first | exact sl0 | exact .there sl0 | exact .there sl1 | exact .there sl2 | exact .there sl3 | exact .there sl4 | exact .there sl5 | exact .there sl6 | exact .there sl7 | exact .there sl8 | exact .there sl9 | exact .there sl10 | exact .there sl11 | exact .there sl12) (.cons (A := slc 2 sl _) (by with_reducible first | exact sl0 | exact .there sl0 | exact .there sl1 | exact .there sl2 | exact .there sl3 | exact .there sl4 | exact .there sl5 | exact .there sl6 | exact .there sl7 | exact .there sl8 | exact .there sl9 | exact .there sl10 | exact .there sl11 | exact .there sl12) (.same _))))
    have h := ((Ok.emb (h) (.cons (A := pts c _) (by with_reducible first | exact sl0 | exact .there sl0 | exact .there sl1 | exact .there sl2 | exact .there sl3 | exact .there sl4 | exact .there sl5 | exact .there sl6 | exact .there sl7 | exact .there sl8 | exact .there sl9 | exact .there sl10 | exact .there sl11 | exact .there sl12) (.same _)))).drop
    have close : ∀ {w' M'}, Ok e (pts u (rbC g ps pr W most) :: rr6P g z M' :: refP ps byPri S :: refP pr false [] :: A :: L) w' → Ok e (rbP u byPri most z ⟨M', S, [], s⟩ :: A :: L) w' := fun {w' M'} h => rbI (q := ⟨M', S, [], s⟩) ⟨h1.w, h1.s⟩ h
    by_cases hS : S = []
    · subst hS
      refine jn.at (fitR z M (l.length : Nat), ()) (fun w' => Ok e (rbP u byPri most z ⟨if fitR z M (l.length : Nat) then M ++ [l] else M, [], [], s⟩ :: A :: L) w') (fun J hJ => cs.yes (by rw [hsl]; rfl) ?_) (fun w' h => ?_)
      · refine nn.mk (ldP.mk (by refine Ok.cellS h (by with_reducible first | exact sl0 | exact .there sl0 | exact .there sl1 | exact .there sl2 | exact .there sl3 | exact .there sl4 | exact .there sl5 | exact .there sl6 | exact .there sl7 | exact .there sl8 | exact .there sl9 | exact .there sl10 | exact .there sl11 | exact .there sl12) ?_; rfl) ?_)
        refine call50 (Put_ref6 (Ok.emb (h) (.cons (A := rr6P g _ _) (by with_reducible first | exact sl0 | exact .there sl0 | exact .there sl1 | exact .there sl2 | exact .there sl3 | exact .there sl4 | exact .there sl5 | exact .there sl6 | exact .there sl7 | exact .there sl8 | exact .there sl9 | exact .there sl10 | exact .there sl11 | exact .there sl12) (.cons (A := A) (by with_reducible first | exact sl0 | exact .there sl0 | exact .there sl1 | exact .there sl2 | exact .there sl3 | exact .there sl4 | exact .there sl5 | exact .there sl6 | exact .there sl7 | exact .there sl8 | exact .there sl9 | exact .there sl10 | exact .there sl11 | exact .there sl12) (.same _)))) ho.zb ho.sz ho.ml r fun w3 h => ⟨(fitR z M (l.length : Nat), ()), rfl, ?_⟩)
        exact hJ _ (close (Ok.emb (h) (.cons (A := pts u _) (by with_reducible first | exact sl0 | exact .there sl0 | exact .there sl1 | exact .there sl2 | exact .there sl3 | exact .there sl4 | exact .there sl5 | exact .there sl6 | exact .there sl7 | exact .there sl8 | exact .there sl9 | exact .there sl10 | exact .there sl11 | exact .there sl12) (.cons (A := rr6P g _ _) (by with_reducible first | exact sl0 | exact .there sl0 | exact .there sl1 | exact .there sl2 | exact .there sl3 | exact .there sl4 | exact .there sl5 | exact .there sl6 | exact .there sl7 | exact .there sl8 | exact .there sl9 | exact .there sl10 | exact .there sl11 | exact .there sl12) (.cons (A := refP ps _ _) (by with_reducible first | exact sl0 | exact .there sl0 | exact .there sl1 | exact .there sl2 | exact .there sl3 | exact .there sl4 | exact .there sl5 | exact .there sl6 | exact .there sl7 | exact .there sl8 | exact .there sl9 | exact .there sl10 | exact .there sl11 | exact .there sl12) (.cons (A := refP pr _ _) (by with_reducible first | exact sl0 | exact .there sl0 | exact .there sl1 | exact .there sl2 | exact .there sl3 | exact .there sl4 | exact .there sl5 | exact .there sl6 | exact .there sl7 | exact .there sl8 | exact .there sl9 | exact .there sl10 | exact .there sl11 | exact .there sl12) (.same _)))))))
      · cases hf : fitR z M (l.length : Nat) with
        | true =>
          rw [hf] at h k
          exact k _ h
        | false =>
          rw [hf] at h k
          exact k _ h
    · refine jn.at (false, ()) (fun w' => Ok e (rbP u byPri most z ⟨M, S, [], s⟩ :: A :: L) w') (fun J hJ => cs.no ?_ ?_) (fun w' h => ?_)
      · have : S.length ≠ 0 := fun hn => hS (List.length_eq_zero_iff.1 hn)
        exact beq_eq_false_iff_ne.2 (by omega)
      · exact hJ _ (close (Ok.emb (h) (.cons (A := pts u _) (by with_reducible first | exact sl0 | exact .there sl0 | exact .there sl1 | exact .there sl2 | exact .there sl3 | exact .there sl4 | exact .there sl5 | exact .there sl6 | exact .there sl7 | exact .there sl8 | exact .there sl9 | exact .there sl10 | exact .there sl11 | exact .there sl12) (.cons (A := rr6P g _ _) (by with_reducible first | exact sl0 | exact .there sl0 | exact .there sl1 | exact .there sl2 | exact .there sl3 | exact .there sl4 | exact .there sl5 | exact .there sl6 | exact .there sl7 | exact .there sl8 | exact .there sl9 | exact .there sl10 | exact .there sl11 | exact .there sl12) (.cons (A := refP ps _ _) (by with_reducible first | exact sl0 | exact .there sl0 | exact .there sl1 | exact .there sl2 | exact .there sl3 | exact .there sl4 | exact .there sl5 | exact .there sl6 | exact .there sl7 | exact .there sl8 | exact .there sl9 | exact .there sl10 | exact .there sl11 | exact .there sl12) (.cons (A := refP pr _ _) (by with_reducible first | exact sl0 | exact .there sl0 | exact .there sl1 | exact .there sl2 | exact .there sl3 | exact .there sl4 | exact .there sl5 | exact .there sl6 | exact .there sl7 | exact .there sl8 | exact .there sl9 | exact .there sl10 | exact .there sl11 | exact .there sl12) (.same _)))))))
      · rw [if_neg (fun hn => hS hn.1)] at k
        exact k _ h

set_option maxHeartbeats 1000000 in
theorem Send_ref16 {e w A L u byPri most z q t pri x l R} (h : Ok e (rbP u byPri most z q :: A :: L) w) (r : RdB e A x l) (ho : BBo z q) (hm : 1 ≤ most ∧ most ≤ 1024)
    (k : ∀ w', Ok e (rbP u byPri most z (q.send z most byPri t pri l).2 :: A :: L) w' → R [.bool (q.send z most byPri t pri l).1.1, .int .i64 (q.send z most byPri t pri l).1.2.1, .int .i64 (q.send z most byPri t pri l).1.2.2] w') :
    sh19 (some ⟨u, 0, none⟩) t pri x R w := by
  unfold sh19
  unfold BB.send at k
  refine call20 (TrySend_ref16 h r ho hm fun w1 h => ⟨((q.trySend z most l).1.1, (q.trySend z most l).1.2.1, (q.trySend z most l).1.2.2, ()), rfl, ?_⟩)
  dsimp only
  refine jn.bool (decide ((q.trySend z most l).1.1 = true ∨ (q.trySend z most l).1.2.2 ≠ 0)) (fun J hJ => cs.mk (fun h2 => ?_) (fun h2 => ?_)) ?_
  · rw [decide_eq_true (.inl h2)] at hJ
    exact hJ
  · rw [show decide ((q.trySend z most l).1.1 = true ∨ (q.trySend z most l).1.2.2 ≠ 0) = ((q.trySend z most l).1.2.2 != 0) by rw [Bool.eq_iff_iff]; simp [h2]] at hJ
    exact hJ
  refine cs.mk (fun h2 => ?_) (fun h2 => ?_)
  · rw [if_pos (of_decide_eq_true h2)] at k
    exact k w1 h
  have h2 := of_decide_eq_false h2
  rw [if_neg h2] at k
  obtain ⟨h3, h4, h5⟩ := trySend_no h2
  rw [h3] at h
  dsimp only at h
  have l1 := okL_len ho.s
  refine call46 (Good_ref4 h ⟨(decide (1 ≤ t ∧ t ≤ 16 ∧ 1 ≤ pri ∧ pri ≤ 16), ()), rfl, ?_⟩)
  dsimp only
  by_cases hg : ¬ (1 ≤ t ∧ t ≤ 16 ∧ 1 ≤ pri ∧ pri ≤ 16)
  · have e1 : addL byPri q.S t pri = (-17, q.S) := by unfold addL; rw [if_pos (by omega)]
    rw [e1, if_neg (show ¬ (-17 : Int) = 0 by decide)] at k
    exact cs.yes (by rw [decide_eq_false hg]; rfl) (k w1 h)
  have hg := Decidable.not_not.1 hg
  refine cs.no (by rw [decide_eq_true hg]; rfl) ?_
  obtain ⟨g, ps, pr, W, h1, h⟩ := rbE h
  refine nn.mk (ldP.mk (by refine Ok.cellS h (by with_reducible first | exact sl0 | exact .there sl0 | exact .there sl1 | exact .there sl2 | exact .there sl3 | exact .there sl4 | exact .there sl5 | exact .there sl6 | exact .there sl7 | exact .there sl8 | exact .there sl9 | exact .there sl10 | exact .there sl11 | exact .there sl12) ?_; rfl) ?_)
  refine call47 (At_ref4 (Ok.emb (h) (.cons (A := refP pr _ _) (by with_reducible first | exact sl0 | exact .there sl0 | exact .there sl1 | exact .there sl2 | exact .there sl3 | exact .there sl4 | exact .there sl5 | exact .there sl6 | exact .there sl7 | exact .there sl8 | exact .there sl9 | exact .there sl10 | exact .there sl11 | exact .there sl12) (.same _))) (by rw [h4]; simp) ⟨((-1 : Int), ()), by rw [h4]; rfl, ?_⟩)
  refine cs.no rfl ?_
  refine nn.mk (ldP.mk (by refine Ok.cellS h (by with_reducible first | exact sl0 | exact .there sl0 | exact .there sl1 | exact .there sl2 | exact .there sl3 | exact .there sl4 | exact .there sl5 | exact .there sl6 | exact .there sl7 | exact .there sl8 | exact .there sl9 | exact .there sl10 | exact .there sl11 | exact .there sl12) ?_; rfl) ?_)
  refine call48 (Add_ref4 (Ok.emb (h) (.cons (A := refP ps _ _) (by with_reducible first | exact sl0 | exact .there sl0 | exact .there sl1 | exact .there sl2 | exact .there sl3 | exact .there sl4 | exact .there sl5 | exact .there sl6 | exact .there sl7 | exact .there sl8 | exact .there sl9 | exact .there sl10 | exact .there sl11 | exact .there sl12) (.same _))) (by omega) fun w3 h => ⟨((addL byPri q.S t pri).1, ()), rfl, ?_⟩)
  dsimp only
  by_cases hc : (addL byPri q.S t pri).1 = 0
  · rw [if_pos hc] at k
    obtain ⟨h6, h7, h8⟩ := addL_zero hc
    rw [hc]
    refine jn.at () (fun w' => Ok e (rbP u byPri most z ⟨q.M, (addL byPri q.S t pri).2, q.R, updI q.s t l⟩ :: A :: L) w') (fun J hJ => cs.yes rfl ?_) (fun w4 h => k _ h)
    refine dr.mk h fun w4 h => ?_
    refine tx.mk bsT (Ok.emb (h) (.cons (A := A) (by with_reducible first | exact sl0 | exact .there sl0 | exact .there sl1 | exact .there sl2 | exact .there sl3 | exact .there sl4 | exact .there sl5 | exact .there sl6 | exact .there sl7 | exact .there sl8 | exact .there sl9 | exact .there sl10 | exact .there sl11 | exact .there sl12) (.same _))) r ?_
    obtain ⟨n, rfl⟩ := Int.eq_ofNat_of_zero_le (show 0 ≤ t by omega)
    refine nn.mk ⟨Int.natCast_nonneg _, by omega, ?_⟩
    refine st1.mk (Ok.emb (h) (.cons (A := pts u _) (by with_reducible first | exact sl0 | exact .there sl0 | exact .there sl1 | exact .there sl2 | exact .there sl3 | exact .there sl4 | exact .there sl5 | exact .there sl6 | exact .there sl7 | exact .there sl8 | exact .there sl9 | exact .there sl10 | exact .there sl11 | exact .there sl12) (.same _))) (by rw [rbC_len h1.w]; simp only [Int.toNat_natCast]; omega) fun w5 h => ?_
    rw [Int.toNat_natCast, rbC_set (by rw [h1.w]; omega)] at h
    refine hJ _ (rbI (q := ⟨q.M, (addL byPri q.S (n : Int) pri).2, q.R, updI q.s (n : Int) l⟩) (W := W.set n l) ⟨by simp [h1.w], fun i hi => ?_⟩ (Ok.emb (h) (.cons (A := pts u _) (by with_reducible first | exact sl0 | exact .there sl0 | exact .there sl1 | exact .there sl2 | exact .there sl3 | exact .there sl4 | exact .there sl5 | exact .there sl6 | exact .there sl7 | exact .there sl8 | exact .there sl9 | exact .there sl10 | exact .there sl11 | exact .there sl12) (.cons (A := rr6P g _ _) (by with_reducible first | exact sl0 | exact .there sl0 | exact .there sl1 | exact .there sl2 | exact .there sl3 | exact .there sl4 | exact .there sl5 | exact .there sl6 | exact .there sl7 | exact .there sl8 | exact .there sl9 | exact .there sl10 | exact .there sl11 | exact .there sl12) (.cons (A := refP ps _ _) (by with_reducible first | exact sl0 | exact .there sl0 | exact .there sl1 | exact .there sl2 | exact .there sl3 | exact .there sl4 | exact .there sl5 | exact .there sl6 | exact .there sl7 | exact .there sl8 | exact .there sl9 | exact .there sl10 | exact .there sl11 | exact .there sl12) (.cons (A := refP pr _ _) (by with_reducible first | exact sl0 | exact .there sl0 | exact .there sl1 | exact .there sl2 | exact .there sl3 | exact .there sl4 | exact .there sl5 | exact .there sl6 | exact .there sl7 | exact .there sl8 | exact .there sl9 | exact .there sl10 | exact .there sl11 | exact .there sl12) (.same _)))))))
    show (W.set n l)[i.toNat]? = some (updI q.s (n : Int) l i)
    by_cases hit : i = (n : Int)
    · rw [hit, updI_same, Int.toNat_natCast, List.getElem?_set_self (by rw [h1.w]; omega)]
    · rw [updI_other hit]
      rcases addL_mem hi with h9 | h9
      · exact absurd h9.2 hit
      · have hi1 := ho.s.2 i h9
        rw [List.getElem?_set_ne (by omega)]
        exact h1.s i h9
  · rw [if_neg hc] at k
    rw [addL_other hc] at h
    refine jn.at () (fun w' => Ok e (rbP u byPri most z q :: A :: L) w') (fun J hJ => cs.no (beq_eq_false_iff_ne.2 hc) (hJ _ (rbI h1 (Ok.emb (h) (.cons (A := pts u _) (by with_reducible first | exact sl0 | exact .there sl0 | exact .there sl1 | exact .there sl2 | exact .there sl3 | exact .there sl4 | exact .there sl5 | exact .there sl6 | exact .there sl7 | exact .there sl8 | exact .there sl9 | exact .there sl10 | exact .there sl11 | exact .there sl12) (.cons (A := rr6P g _ _) (by with_reducible first | exact sl0 | exact .there sl0 | exact .there sl1 | exact .there sl2 | exact .there sl3 | exact .there sl4 | exact .there sl5 | exact .there sl6 | exact .there sl7 | exact .there sl8 | exact .there sl9 | exact .there sl10 | exact .there sl11 | exact .there sl12) (.cons (A := refP ps _ _) (by with_reducible first | exact sl0 | exact .there sl0 | exact .there sl1 | exact .there sl2 | exact .there sl3 | exact .there sl4 | exact .there sl5 | exact .there sl6 | exact .there sl7 | exact .there sl8 | exact .there sl9 | exact .there sl10 | exact .there sl11 | exact .there sl12) (.cons (A := refP pr _ _) (by with_reducible first | exact sl0 | exact .there sl0 | exact .there sl1 | exact .there sl2 | exact .there sl3 | exact .there sl4 | exact .there sl5 | exact .there sl6 | exact .there sl7 | exact .there sl8 | exact .there sl9 | exact .there sl10 | exact .there sl11 | exact .there sl12) (.same _))))))))) (fun w4 h => k _ h)

end Go.Proofs.Ytjamgdepbjipdaa.B
