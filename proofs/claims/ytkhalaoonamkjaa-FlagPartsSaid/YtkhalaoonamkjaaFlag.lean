/- Contracts of the package flag. -/
import Derived.Test.YtkhalaoonamkjaaIds
import Derived.Test.YtkhalaoonamkjaaFlat
import Derived.Test.YtkhalaoonamkjaaLaw
namespace Go.Proofs.Ytkhalaoonamkjaa.B
open Go
set_option linter.unusedVariables false

abbrev orB (x y : Int) : Int := bOr .u32 x y

abbrev anB (x y : Int) : Int := bAnd .u32 x y

/-- is a wish met? -/
def metB (b : Int) (w : Int × Int) : Bool := if w.2 = 0 then anB b w.1 == w.1 else anB b w.1 != 0

structure FQ where
  S : List (Int × Int)
  bits : Int
  g : Int → Int × Int

def FQ.ok (q : FQ) : Prop := okL q.S ∧ ∀ i ∈ ids q.S, (q.g i).1 ≠ 0

def fqNew (bits : Int) : FQ := ⟨[], bits, fun _ => (0, 0)⟩

def FQ.poll (many clr : Bool) (q : FQ) (want mode : Int) : (Int × Bool × Int) × FQ :=
  if want = 0 ∨ (mode ≠ 0 ∧ mode ≠ 1) then ((0, false, -17), q)
  else if many = false ∧ q.S ≠ [] then ((0, false, -28), q)
  else if metB q.bits (want, mode) then ((q.bits, true, 0), ⟨q.S, if clr then 0 else q.bits, q.g⟩)
  else ((0, false, 0), q)

def FQ.wait (byPri many clr : Bool) (q : FQ) (task pri want mode : Int) : (Int × Bool × Int) × FQ :=
  if (q.poll many clr want mode).1.2.1 = true ∨ (q.poll many clr want mode).1.2.2 ≠ 0 then q.poll many clr want mode
  else ((0, false, (addL byPri q.S task pri).1), ⟨(addL byPri q.S task pri).2, q.bits, if (addL byPri q.S task pri).1 = 0 then fun i => if i = task then (want, mode) else q.g i else q.g⟩)

def wakeL (clr : Bool) (g : Int → Int × Int) : List (Int × Int) → List (Int × Int) → Int → List (Int × Int) × List (Int × Int) × Int
  | [], S, b => ([], S, b)
  | x :: r, S, b =>
    if metB b (g x.1) then (if clr then ([(x.1, b)], rmL S x.1, 0) else ((x.1, b) :: (wakeL clr g r (rmL S x.1) b).1, (wakeL clr g r (rmL S x.1) b).2))
    else wakeL clr g r S b

def FQ.raise (clr : Bool) (q : FQ) (xs : List Int) : List (Int × Int) × FQ :=
  ((wakeL clr q.g q.S q.S (xs.foldl orB q.bits)).1, ⟨(wakeL clr q.g q.S q.S (xs.foldl orB q.bits)).2.1, (wakeL clr q.g q.S q.S (xs.foldl orB q.bits)).2.2, q.g⟩)

theorem wakeL_sub (clr : Bool) (g : Int → Int × Int) : ∀ (l S : List (Int × Int)) (b : Int), ((wakeL clr g l S b).2.1).Sublist S
  | [], S, b => List.Sublist.refl _
  | x :: r, S, b => by
    unfold wakeL
    split
    · split
      · exact rmL_sub ..
      · exact (wakeL_sub clr g r _ b).trans (rmL_sub ..)
    · exact wakeL_sub clr g r S b

theorem wakeL_len (clr : Bool) (g : Int → Int × Int) : ∀ (l S : List (Int × Int)) (b : Int), (wakeL clr g l S b).1.length ≤ l.length
  | [], S, b => Nat.le_refl _
  | x :: r, S, b => by
    unfold wakeL
    split
    · split
      · simp
      · have := wakeL_len clr g r (rmL S x.1) b
        simpa using this
    · have := wakeL_len clr g r S b
      simp only [List.length_cons]; omega

theorem fok_sub {q : FQ} {S : List (Int × Int)} {b : Int} (h : q.ok) (hs : S.Sublist q.S) : FQ.ok ⟨S, b, q.g⟩ := ⟨okL_sub h.1 hs, fun i hi => h.2 i ((hs.map Prod.fst).subset hi)⟩

theorem fqNew_ok (b : Int) : (fqNew b).ok := ⟨okL_nil, by simp [fqNew]⟩

theorem poll_ok {many clr want mode} {q : FQ} (h : q.ok) : (q.poll many clr want mode).2.ok := by
  unfold FQ.poll
  split
  · exact h
  · split
    · exact h
    · split
      · exact h
      · exact h

theorem poll_want {many clr want mode} {q : FQ} (h : ¬ ((q.poll many clr want mode).1.2.1 = true ∨ (q.poll many clr want mode).1.2.2 ≠ 0)) : want ≠ 0 ∧ (mode = 0 ∨ mode = 1) ∧ (q.poll many clr want mode).2 = q := by
  unfold FQ.poll at h ⊢
  split at h
  · exact absurd (.inr (show (-17 : Int) ≠ 0 by decide)) h
  · next h1 =>
    split at h
    · exact absurd (.inr (show (-28 : Int) ≠ 0 by decide)) h
    · next h2 =>
      split at h
      · exact absurd (.inl rfl) h
      · next h3 => rw [if_neg h1, if_neg h2, if_neg h3]; exact ⟨by omega, by omega, rfl⟩

theorem wait_ok {byPri many clr task pri want mode} {q : FQ} (h : q.ok) : (q.wait byPri many clr task pri want mode).2.ok := by
  unfold FQ.wait
  split
  · exact poll_ok h
  · next hp =>
    have hw := poll_want hp
    refine ⟨okL_add h.1, fun i hi => ?_⟩
    rcases addL_mem hi with ⟨h0, h1⟩ | h1
    · simp only [if_pos h0, h1, if_true]; exact hw.1
    · dsimp only
      split
      · dsimp only
        split
        · exact hw.1
        · exact h.2 i h1
      · exact h.2 i h1

theorem raise_ok {clr xs} {q : FQ} (h : q.ok) : (q.raise clr xs).2.ok := fok_sub (b := (q.raise clr xs).2.bits) h (wakeL_sub ..)

def heldG (S : List (Int × Int)) (g : Int → Int × Int) (f : Int → Option Value) : Prop := ∀ i ∈ ids S, f i = some (.agg #[.int .u32 (g i).1, .int .i64 (g i).2])

def flagP (b : Nat) (byPri many clr : Bool) (q : FQ) : SP := fun h => ∃ p m, ∃ f : Int → Option Value, heldG q.S q.g f ∧
  oksH [pts b [.pointer (some ⟨p, 0, none⟩), .int .u32 q.bits, .bool many, .bool clr, .map (some m)], lineP p [.bool byPri] q.S, mpP m f] h

theorem flagE {e w L b byPri many clr q} (h : Ok e (flagP b byPri many clr q :: L) w) : ∃ p m, ∃ f : Int → Option Value, heldG q.S q.g f ∧
    Ok e (pts b [.pointer (some ⟨p, 0, none⟩), .int .u32 q.bits, .bool many, .bool clr, .map (some m)] :: lineP p [.bool byPri] q.S :: mpP m f :: L) w := by
  obtain ⟨p, h⟩ := h.exE
  obtain ⟨m, h⟩ := h.exE
  obtain ⟨f, h⟩ := h.exE
  obtain ⟨hf, h⟩ := h.pureE
  exact ⟨p, m, f, hf, h.unpack⟩

theorem flagI {e w L b byPri many clr q p m f} (hf : heldG q.S q.g f) (h : Ok e (pts b [.pointer (some ⟨p, 0, none⟩), .int .u32 q.bits, .bool many, .bool clr, .map (some m)] :: lineP p [.bool byPri] q.S :: mpP m f :: L) w) : Ok e (flagP b byPri many clr q :: L) w :=
  (Ok.pack (M := [pts b [.pointer (some ⟨p, 0, none⟩), .int .u32 q.bits, .bool many, .bool clr, .map (some m)], lineP p [.bool byPri] q.S, mpP m f]) h).imp fun k hk => ⟨p, m, f, hf, hk⟩

theorem mapT_iw : MapT Pg 34 (.agg #[.int .u32 0, .int .i64 0]) := .of (by kernel_rfl)

theorem New_flag {e w L byPri many clr bits R} (h : Ok e L w) (k : ∀ b w', Ok e (flagP b byPri many clr (fqNew bits) :: L) w' → R [.pointer (some ⟨b, 0, none⟩)] w') : sh10 byPri many clr bits R w := by
  unfold sh10
  refine call28 (New_order h fun p w1 h => ⟨(some ⟨p, 0, none⟩, ()), rfl, ?_⟩)
  refine ef.makeMap h fun m w3 h => ?_
  refine al.mk h fun b w4 h => k b w4 ?_
  have h := (Ok.emb (h) (.cons (A := pts b _) (by with_reducible first | exact sl0 | exact .there sl0 | exact .there sl1 | exact .there sl2 | exact .there sl3 | exact .there sl4 | exact .there sl5 | exact .there sl6 | exact .there sl7 | exact .there sl8 | exact .there sl9 | exact .there sl10 | exact .there sl11 | exact .there sl12) (.cons (A := lineP p _ _) (by with_reducible first | exact sl0 | exact .there sl0 | exact .there sl1 | exact .there sl2 | exact .there sl3 | exact .there sl4 | exact .there sl5 | exact .there sl6 | exact .there sl7 | exact .there sl8 | exact .there sl9 | exact .there sl10 | exact .there sl11 | exact .there sl12) (.cons (A := mpP m _) (by with_reducible first | exact sl0 | exact .there sl0 | exact .there sl1 | exact .there sl2 | exact .there sl3 | exact .there sl4 | exact .there sl5 | exact .there sl6 | exact .there sl7 | exact .there sl8 | exact .there sl9 | exact .there sl10 | exact .there sl11 | exact .there sl12) (.same _)))))
  exact flagI (p := p) (m := m) (f := fun _ => none) (q := fqNew bits) (fun i hi => by simp [fqNew] at hi) h

theorem met_flag {e w L want mode bits R} (h : Ok e L w) (hw : want ≠ 0) (k : ∀ w', Ok e L w' → R [.bool (metB bits (want, mode))] w') : sh31 (want, mode, ()) bits R w := by
  unfold sh31
  refine al.mk h fun c w1 h => ?_
  (repeat (first | with_reducible refine dr.mk h fun _ h => ?_ | with_reducible refine nn.mk ?_ | ((first | with_reducible apply ldI.mk | with_reducible apply ldB.mk | with_reducible apply ldP.mk | with_reducible apply ldS.mk | with_reducible apply ldM.mk | with_reducible apply ldF.mk | with_reducible apply ldG.mk); (· exact (by refine Ok.cellS h (by with_reducible first | exact sl0 | exact .there sl0 | exact .there sl1 | exact .there sl2 | exact .there sl3 | exact .there sl4 | exact .there sl5 | exact .there sl6 | exact .there sl7 | exact .there sl8 | exact .there sl9 | exact .there sl10 | exact .there sl11 | exact .there sl12) ?_; rfl))) | (refine st1.mk (Ok.bring h (by with_reducible first | exact sl0 | exact .there sl0 | exact .there sl1 | exact .there sl2 | exact .there sl3 | exact .there sl4 | exact .there sl5 | exact .there sl6 | exact .there sl7 | exact .there sl8 | exact .there sl9 | exact .there sl10 | exact .there sl11 | exact .there sl12)) (by simp) fun _ h => ?_; dsimp only [List.set] at h)))
  refine cs.mk (fun h1 => ?_) (fun h1 => ?_)
  · have h1 : mode = 0 := by simpa using h1
    (repeat (first | with_reducible refine dr.mk h fun _ h => ?_ | with_reducible refine nn.mk ?_ | ((first | with_reducible apply ldI.mk | with_reducible apply ldB.mk | with_reducible apply ldP.mk | with_reducible apply ldS.mk | with_reducible apply ldM.mk | with_reducible apply ldF.mk | with_reducible apply ldG.mk); (· exact (by refine Ok.cellS h (by with_reducible first | exact sl0 | exact .there sl0 | exact .there sl1 | exact .there sl2 | exact .there sl3 | exact .there sl4 | exact .there sl5 | exact .there sl6 | exact .there sl7 | exact .there sl8 | exact .there sl9 | exact .there sl10 | exact .there sl11 | exact .there sl12) ?_; rfl))) | (refine st1.mk (Ok.bring h (by with_reducible first | exact sl0 | exact .there sl0 | exact .there sl1 | exact .there sl2 | exact .there sl3 | exact .there sl4 | exact .there sl5 | exact .there sl6 | exact .there sl7 | exact .there sl8 | exact .there sl9 | exact .there sl10 | exact .there sl11 | exact .there sl12)) (by simp) fun _ h => ?_; dsimp only [List.set] at h)))
    refine jn.bool (anB bits want == want) (fun J hJ => cs.yes (by simpa using hw) ?_) ?_
    · (repeat (first | with_reducible refine dr.mk h fun _ h => ?_ | with_reducible refine nn.mk ?_ | ((first | with_reducible apply ldI.mk | with_reducible apply ldB.mk | with_reducible apply ldP.mk | with_reducible apply ldS.mk | with_reducible apply ldM.mk | with_reducible apply ldF.mk | with_reducible apply ldG.mk); (· exact (by refine Ok.cellS h (by with_reducible first | exact sl0 | exact .there sl0 | exact .there sl1 | exact .there sl2 | exact .there sl3 | exact .there sl4 | exact .there sl5 | exact .there sl6 | exact .there sl7 | exact .there sl8 | exact .there sl9 | exact .there sl10 | exact .there sl11 | exact .there sl12) ?_; rfl))) | (refine st1.mk (Ok.bring h (by with_reducible first | exact sl0 | exact .there sl0 | exact .there sl1 | exact .there sl2 | exact .there sl3 | exact .there sl4 | exact .there sl5 | exact .there sl6 | exact .there sl7 | exact .there sl8 | exact .there sl9 | exact .there sl10 | exact .there sl11 | exact .there sl12)) (by simp) fun _ h => ?_; dsimp only [List.set] at h)))
      exact hJ
    · have := k _ h.drop
      rw [metB, if_pos h1] at this
      exact this
  · have h1 : ¬ mode = 0 := by simpa using h1
    (repeat (first | with_reducible refine dr.mk h fun _ h => ?_ | with_reducible refine nn.mk ?_ | ((first | with_reducible apply ldI.mk | with_reducible apply ldB.mk | with_reducible apply ldP.mk | with_reducible apply ldS.mk | with_reducible apply ldM.mk | with_reducible apply ldF.mk | with_reducible apply ldG.mk); (· exact (by refine Ok.cellS h (by with_reducible first | exact sl0 | exact .there sl0 | exact .there sl1 | exact .there sl2 | exact .there sl3 | exact .there sl4 | exact .there sl5 | exact .there sl6 | exact .there sl7 | exact .there sl8 | exact .there sl9 | exact .there sl10 | exact .there sl11 | exact .there sl12) ?_; rfl))) | (refine st1.mk (Ok.bring h (by with_reducible first | exact sl0 | exact .there sl0 | exact .there sl1 | exact .there sl2 | exact .there sl3 | exact .there sl4 | exact .there sl5 | exact .there sl6 | exact .there sl7 | exact .there sl8 | exact .there sl9 | exact .there sl10 | exact .there sl11 | exact .there sl12)) (by simp) fun _ h => ?_; dsimp only [List.set] at h)))
    have := k _ h.drop
    rw [metB, if_neg h1] at this
    exact this

theorem Poll_flag {e w L b byPri many clr q want mode R} (h : Ok e (flagP b byPri many clr q :: L) w) (ho : q.ok)
    (k : ∀ w', Ok e (flagP b byPri many clr (q.poll many clr want mode).2 :: L) w' → R [.int .u32 (q.poll many clr want mode).1.1, .bool (q.poll many clr want mode).1.2.1, .int .i64 (q.poll many clr want mode).1.2.2] w') : sh15 (some ⟨b, 0, none⟩) want mode R w := by
  unfold sh15
  unfold FQ.poll at k
  have l1 := okL_len ho.1
  refine jn.bool (decide (want = 0 ∨ (mode ≠ 0 ∧ mode ≠ 1))) (fun J hJ => cs.mk (fun h1 => ?_) (fun h1 => ?_)) ?_
  · have h1 : want = 0 := by simpa using h1
    rw [decide_eq_true (.inl h1)] at hJ
    exact hJ
  · have h1 : ¬ want = 0 := by simpa using h1
    refine jn.bool (decide (want = 0 ∨ (mode ≠ 0 ∧ mode ≠ 1))) (fun J2 hJ2 => cs.mk (fun h2 => ?_) (fun h2 => ?_)) hJ
    · have h2 : mode ≠ 0 := by simpa using h2
      rw [show (mode != 1) = decide (want = 0 ∨ (mode ≠ 0 ∧ mode ≠ 1)) by rw [show (mode != 1) = decide (mode ≠ 1) by simp [bne]; rfl]; exact decide_eq_decide.2 (by omega)]
      exact hJ2
    · have h2 : mode = 0 := by simpa using h2
      rw [decide_eq_false (by omega)] at hJ2
      exact hJ2
  refine cs.mk (fun h1 => ?_) (fun h1 => ?_)
  · rw [if_pos (of_decide_eq_true h1)] at k
    exact k w h
  have h1 := of_decide_eq_false h1
  rw [if_neg h1] at k
  obtain ⟨p, m, f, hf, h⟩ := flagE h
  refine nn.mk (ldB.mk (by refine Ok.cellS h (by with_reducible first | exact sl0 | exact .there sl0 | exact .there sl1 | exact .there sl2 | exact .there sl3 | exact .there sl4 | exact .there sl5 | exact .there sl6 | exact .there sl7 | exact .there sl8 | exact .there sl9 | exact .there sl10 | exact .there sl11 | exact .there sl12) ?_; rfl) ?_)
  refine jn.at (decide (many = false ∧ q.S ≠ []), ()) (fun w' => Ok e (pts b [.pointer (some ⟨p, 0, none⟩), .int .u32 q.bits, .bool many, .bool clr, .map (some m)] :: lineP p [.bool byPri] q.S :: mpP m f :: L) w') (fun J hJ => cs.mk (fun h2 => ?_) (fun h2 => ?_)) (fun w1 h => ?_)
  · have h2 : many = false := by simpa using h2
    refine nn.mk (ldP.mk (by refine Ok.cellS h (by with_reducible first | exact sl0 | exact .there sl0 | exact .there sl1 | exact .there sl2 | exact .there sl3 | exact .there sl4 | exact .there sl5 | exact .there sl6 | exact .there sl7 | exact .there sl8 | exact .there sl9 | exact .there sl10 | exact .there sl11 | exact .there sl12) ?_; rfl) (nn.mk ?_))
    refine call13 (Len_order (Ok.emb (h) (.cons (A := lineP p _ _) (by with_reducible first | exact sl0 | exact .there sl0 | exact .there sl1 | exact .there sl2 | exact .there sl3 | exact .there sl4 | exact .there sl5 | exact .there sl6 | exact .there sl7 | exact .there sl8 | exact .there sl9 | exact .there sl10 | exact .there sl11 | exact .there sl12) (.same _))) ⟨((q.S.length : Int), ()), rfl, ?_⟩)
    rw [show decide (((q.S.length : Int), ()).1 > (0 : Int)) = decide (many = false ∧ q.S ≠ []) from decide_eq_decide.2 (by
      show ((q.S.length : Int) > 0) ↔ _
      constructor
      · intro h3; exact ⟨h2, fun h4 => by rw [h4] at h3; simp at h3⟩
      · rintro ⟨_, h3⟩
        have := List.length_pos_iff.2 h3
        omega)]
    exact hJ _ (h.emb (by repeat' (first | with_reducible exact Emb.same _ | exact Emb.nil _ | refine Emb.cons (by with_reducible first | exact sl0 | exact .there sl0 | exact .there sl1 | exact .there sl2 | exact .there sl3 | exact .there sl4 | exact .there sl5 | exact .there sl6 | exact .there sl7 | exact .there sl8 | exact .there sl9 | exact .there sl10 | exact .there sl11 | exact .there sl12) ?_ | refine Emb.skip ?_)))
  · have h2 : many = true := by simpa using h2
    rw [decide_eq_false (by rw [h2]; simp)] at hJ
    exact hJ _ h
  dsimp only
  refine cs.mk (fun h2 => ?_) (fun h2 => ?_)
  · rw [if_pos (of_decide_eq_true h2)] at k
    exact k _ (flagI hf h)
  rw [if_neg (of_decide_eq_false h2)] at k
  refine nn.mk (ldI.mk (by refine Ok.cellS h (by with_reducible first | exact sl0 | exact .there sl0 | exact .there sl1 | exact .there sl2 | exact .there sl3 | exact .there sl4 | exact .there sl5 | exact .there sl6 | exact .there sl7 | exact .there sl8 | exact .there sl9 | exact .there sl10 | exact .there sl11 | exact .there sl12) ?_; rfl) ?_)
  refine call31 (a0 := (want, mode, ())) (met_flag h (by omega) fun w2 h => ⟨(metB q.bits (want, mode), ()), rfl, ?_⟩)
  dsimp only
  refine cs.mk (fun h3 => ?_) (fun h3 => ?_)
  · have h3 : ¬ metB q.bits (want, mode) = true := by simpa using h3
    rw [if_neg h3] at k
    exact k _ (flagI hf h)
  have h3 : metB q.bits (want, mode) = true := by simpa using h3
  rw [if_pos h3] at k
  (repeat (first | with_reducible refine dr.mk h fun _ h => ?_ | with_reducible refine nn.mk ?_ | ((first | with_reducible apply ldI.mk | with_reducible apply ldB.mk | with_reducible apply ldP.mk | with_reducible apply ldS.mk | with_reducible apply ldM.mk | with_reducible apply ldF.mk | with_reducible apply ldG.mk); (· exact (by refine Ok.cellS h (by with_reducible first | exact sl0 | exact .there sl0 | exact .there sl1 | exact .there sl2 | exact .there sl3 | exact .there sl4 | exact .there sl5 | exact .there sl6 | exact .there sl7 | exact .there sl8 | exact .there sl9 | exact .there sl10 | exact .there sl11 | exact .there sl12) ?_; rfl))) | (refine st1.mk (Ok.bring h (by with_reducible first | exact sl0 | exact .there sl0 | exact .there sl1 | exact .there sl2 | exact .there sl3 | exact .there sl4 | exact .there sl5 | exact .there sl6 | exact .there sl7 | exact .there sl8 | exact .there sl9 | exact .there sl10 | exact .there sl11 | exact .there sl12)) (by simp) fun _ h => ?_; dsimp only [List.set] at h)))
  refine jn.at () (fun w' => Ok e (flagP b byPri many clr ⟨q.S, if clr then 0 else q.bits, q.g⟩ :: L) w') (fun J hJ => cs.mk (fun h4 => ?_) (fun h4 => ?_)) (fun w3 h => k w3 h)
  · subst h4
    (repeat (first | with_reducible refine dr.mk h fun _ h => ?_ | with_reducible refine nn.mk ?_ | ((first | with_reducible apply ldI.mk | with_reducible apply ldB.mk | with_reducible apply ldP.mk | with_reducible apply ldS.mk | with_reducible apply ldM.mk | with_reducible apply ldF.mk | with_reducible apply ldG.mk); (· exact (by refine Ok.cellS h (by with_reducible first | exact sl0 | exact .there sl0 | exact .there sl1 | exact .there sl2 | exact .there sl3 | exact .there sl4 | exact .there sl5 | exact .there sl6 | exact .there sl7 | exact .there sl8 | exact .there sl9 | exact .there sl10 | exact .there sl11 | exact .there sl12) ?_; rfl))) | (refine st1.mk (Ok.bring h (by with_reducible first | exact sl0 | exact .there sl0 | exact .there sl1 | exact .there sl2 | exact .there sl3 | exact .there sl4 | exact .there sl5 | exact .there sl6 | exact .there sl7 | exact .there sl8 | exact .there sl9 | exact .there sl10 | exact .there sl11 | exact .there sl12)) (by simp) fun _ h => ?_; dsimp only [List.set] at h)))
    exact hJ _ (flagI (q := ⟨q.S, 0, q.g⟩) hf h)
  · subst h4
    exact hJ _ (flagI (q := ⟨q.S, q.bits, q.g⟩) hf h)

theorem Wait_flag {e w L b byPri many clr q task pri want mode R} (h : Ok e (flagP b byPri many clr q :: L) w) (ho : q.ok)
    (k : ∀ w', Ok e (flagP b byPri many clr (q.wait byPri many clr task pri want mode).2 :: L) w' → R [.int .u32 (q.wait byPri many clr task pri want mode).1.1, .bool (q.wait byPri many clr task pri want mode).1.2.1, .int .i64 (q.wait byPri many clr task pri want mode).1.2.2] w') : sh11 (some ⟨b, 0, none⟩) task pri want mode R w := by
  unfold sh11
  unfold FQ.wait at k
  have l1 := okL_len ho.1
  refine call15 (Poll_flag h ho fun w1 h => ⟨((q.poll many clr want mode).1.1, (q.poll many clr want mode).1.2.1, (q.poll many clr want mode).1.2.2, ()), rfl, ?_⟩)
  dsimp only
  refine jn.bool (decide ((q.poll many clr want mode).1.2.1 = true ∨ (q.poll many clr want mode).1.2.2 ≠ 0)) (fun J hJ => cs.mk (fun h1 => ?_) (fun h1 => ?_)) ?_
  · rw [decide_eq_true (.inl h1)] at hJ
    exact hJ
  · rw [show ((q.poll many clr want mode).1.2.2 != 0) = decide ((q.poll many clr want mode).1.2.1 = true ∨ (q.poll many clr want mode).1.2.2 ≠ 0) by rw [show ((q.poll many clr want mode).1.2.2 != 0) = decide ((q.poll many clr want mode).1.2.2 ≠ 0) by simp [bne]; rfl]; exact decide_eq_decide.2 (by rw [h1]; simp)]
    exact hJ
  refine cs.mk (fun h1 => ?_) (fun h1 => ?_)
  · rw [if_pos (of_decide_eq_true h1)] at k
    exact k w1 h
  have h1 := of_decide_eq_false h1
  rw [if_neg h1] at k
  rw [(poll_want h1).2.2] at h
  obtain ⟨p, m, f, hf, h⟩ := flagE h
  refine nn.mk (ldP.mk (by refine Ok.cellS h (by with_reducible first | exact sl0 | exact .there sl0 | exact .there sl1 | exact .there sl2 | exact .there sl3 | exact .there sl4 | exact .there sl5 | exact .there sl6 | exact .there sl7 | exact .there sl8 | exact .there sl9 | exact .there sl10 | exact .there sl11 | exact .there sl12) ?_; rfl) ?_)
  refine call29 (Add_order (Ok.emb (h) (.cons (A := lineP p _ _) (by with_reducible first | exact sl0 | exact .there sl0 | exact .there sl1 | exact .there sl2 | exact .there sl3 | exact .there sl4 | exact .there sl5 | exact .there sl6 | exact .there sl7 | exact .there sl8 | exact .there sl9 | exact .there sl10 | exact .there sl11 | exact .there sl12) (.same _))) (by omega) fun w3 h => ⟨((addL byPri q.S task pri).1, ()), rfl, ?_⟩)
  dsimp only
  refine cs.mk (fun hc => ?_) (fun hc => ?_)
  · have hc : (addL byPri q.S task pri).1 ≠ 0 := by simpa using hc
    rw [if_neg hc] at k
    refine k w3 (flagI (q := ⟨(addL byPri q.S task pri).2, q.bits, q.g⟩) (fun i hi => ?_) (h.emb (by repeat' (first | with_reducible exact Emb.same _ | exact Emb.nil _ | refine Emb.cons (by with_reducible first | exact sl0 | exact .there sl0 | exact .there sl1 | exact .there sl2 | exact .there sl3 | exact .there sl4 | exact .there sl5 | exact .there sl6 | exact .there sl7 | exact .there sl8 | exact .there sl9 | exact .there sl10 | exact .there sl11 | exact .there sl12) ?_ | refine Emb.skip ?_))))
    rw [addL_other hc] at hi
    exact hf i hi
  · have hc : (addL byPri q.S task pri).1 = 0 := by simpa using hc
    rw [if_pos hc, hc] at k
    refine nn.mk (ldM.mk (by refine Ok.cellS h (by with_reducible first | exact sl0 | exact .there sl0 | exact .there sl1 | exact .there sl2 | exact .there sl3 | exact .there sl4 | exact .there sl5 | exact .there sl6 | exact .there sl7 | exact .there sl8 | exact .there sl9 | exact .there sl10 | exact .there sl11 | exact .there sl12) ?_; rfl) ?_)
    refine efU.mapUpdate mapT_iw (Ok.emb (h) (.cons (A := mpP m f) (by with_reducible first | exact sl0 | exact .there sl0 | exact .there sl1 | exact .there sl2 | exact .there sl3 | exact .there sl4 | exact .there sl5 | exact .there sl6 | exact .there sl7 | exact .there sl8 | exact .there sl9 | exact .there sl10 | exact .there sl11 | exact .there sl12) (.same _))) fun w4 h => k w4 (flagI (q := ⟨(addL byPri q.S task pri).2, q.bits, fun i => if i = task then (want, mode) else q.g i⟩) (fun i hi => ?_) (h.emb (by repeat' (first | with_reducible exact Emb.same _ | exact Emb.nil _ | refine Emb.cons (by with_reducible first | exact sl0 | exact .there sl0 | exact .there sl1 | exact .there sl2 | exact .there sl3 | exact .there sl4 | exact .there sl5 | exact .there sl6 | exact .there sl7 | exact .there sl8 | exact .there sl9 | exact .there sl10 | exact .there sl11 | exact .there sl12) ?_ | refine Emb.skip ?_))))
    by_cases hi2 : i = task
    · subst hi2
      simp [upd]
    · simp only [upd, if_neg hi2]
      rcases addL_mem hi with h5 | h5
      · exact absurd h5.2 hi2
      · exact hf i h5

theorem Drop_flag {e w L b byPri many clr q task R} (h : Ok e (flagP b byPri many clr q :: L) w) (ho : q.ok)
    (k : ∀ w', Ok e (flagP b byPri many clr ⟨rmL q.S task, q.bits, q.g⟩ :: L) w' → R [.bool (decide (0 ≤ atI q.S task))] w') : sh22 (some ⟨b, 0, none⟩) task R w := by
  unfold sh22
  have l1 := okL_len ho.1
  obtain ⟨p, m, f, hf, h⟩ := flagE h
  refine nn.mk (ldM.mk (by refine Ok.cellS h (by with_reducible first | exact sl0 | exact .there sl0 | exact .there sl1 | exact .there sl2 | exact .there sl3 | exact .there sl4 | exact .there sl5 | exact .there sl6 | exact .there sl7 | exact .there sl8 | exact .there sl9 | exact .there sl10 | exact .there sl11 | exact .there sl12) ?_; rfl) ?_)
  refine ef.delete mapT_iw (Ok.emb (h) (.cons (A := mpP m f) (by with_reducible first | exact sl0 | exact .there sl0 | exact .there sl1 | exact .there sl2 | exact .there sl3 | exact .there sl4 | exact .there sl5 | exact .there sl6 | exact .there sl7 | exact .there sl8 | exact .there sl9 | exact .there sl10 | exact .there sl11 | exact .there sl12) (.same _))) fun w1 h => ?_
  refine nn.mk (ldP.mk (by refine Ok.cellS h (by with_reducible first | exact sl0 | exact .there sl0 | exact .there sl1 | exact .there sl2 | exact .there sl3 | exact .there sl4 | exact .there sl5 | exact .there sl6 | exact .there sl7 | exact .there sl8 | exact .there sl9 | exact .there sl10 | exact .there sl11 | exact .there sl12) ?_; rfl) (nn.mk ?_))
  refine call38 (Remove_order (Ok.emb (h) (.cons (A := lineP p _ _) (by with_reducible first | exact sl0 | exact .there sl0 | exact .there sl1 | exact .there sl2 | exact .there sl3 | exact .there sl4 | exact .there sl5 | exact .there sl6 | exact .there sl7 | exact .there sl8 | exact .there sl9 | exact .there sl10 | exact .there sl11 | exact .there sl12) (.same _))) (by omega) fun w2 h => ⟨(decide (0 ≤ atI q.S task), ()), rfl, ?_⟩)
  refine k _ (flagI (q := ⟨rmL q.S task, q.bits, q.g⟩) (fun i hi => ?_) (h.emb (by repeat' (first | with_reducible exact Emb.same _ | exact Emb.nil _ | refine Emb.cons (by with_reducible first | exact sl0 | exact .there sl0 | exact .there sl1 | exact .there sl2 | exact .there sl3 | exact .there sl4 | exact .there sl5 | exact .there sl6 | exact .there sl7 | exact .there sl8 | exact .there sl9 | exact .there sl10 | exact .there sl11 | exact .there sl12) ?_ | refine Emb.skip ?_))))
  have hne : i ≠ task := fun he => rmL_ids ho.1 (he ▸ hi)
  rw [upd_other hne]
  exact hf i (((rmL_sub q.S task).map Prod.fst).subset hi)

theorem Lower_flag {e w L b byPri many clr q mask R} (h : Ok e (flagP b byPri many clr q :: L) w)
    (k : ∀ w', Ok e (flagP b byPri many clr ⟨q.S, anB q.bits mask, q.g⟩ :: L) w' → R [] w') : sh16 (some ⟨b, 0, none⟩) mask R w := by
  unfold sh16
  obtain ⟨p, m, f, hf, h⟩ := flagE h
  (repeat (first | with_reducible refine dr.mk h fun _ h => ?_ | with_reducible refine nn.mk ?_ | ((first | with_reducible apply ldI.mk | with_reducible apply ldB.mk | with_reducible apply ldP.mk | with_reducible apply ldS.mk | with_reducible apply ldM.mk | with_reducible apply ldF.mk | with_reducible apply ldG.mk); (· exact (by refine Ok.cellS h (by with_reducible first | exact sl0 | exact .there sl0 | exact .there sl1 | exact .there sl2 | exact .there sl3 | exact .there sl4 | exact .there sl5 | exact .there sl6 | exact .there sl7 | exact .there sl8 | exact .there sl9 | exact .there sl10 | exact .there sl11 | exact .there sl12) ?_; rfl))) | (refine st1.mk (Ok.bring h (by with_reducible first | exact sl0 | exact .there sl0 | exact .there sl1 | exact .there sl2 | exact .there sl3 | exact .there sl4 | exact .there sl5 | exact .there sl6 | exact .there sl7 | exact .there sl8 | exact .there sl9 | exact .there sl10 | exact .there sl11 | exact .there sl12)) (by simp) fun _ h => ?_; dsimp only [List.set] at h)))
  exact k _ (flagI (q := ⟨q.S, anB q.bits mask, q.g⟩) hf h)

theorem mcT : McT Pg 55 := ⟨Try.f55, Try.func55, by kernel_rfl, by kernel_rfl, by kernel_rfl, by kernel_rfl⟩

theorem MapClone_wish {e w L m f R} (h : Ok e (mpP m f :: L) w) (k : ∀ m' w', Ok e (mpP m' f :: mpP m f :: L) w' → R [.map (some m')] w') : sh44 (some m) R w := by
  unfold sh44
  refine cs.no rfl ?_
  refine xt.mapClone mcT h fun m' w1 h => ?_
  exact ef.assertMap mapT_iw (k m' w1 h)

theorem Apart_flag {e w L b byPri many clr q R} (h : Ok e (flagP b byPri many clr q :: L) w) (ho : q.ok)
    (k : ∀ b' w', Ok e (flagP b' byPri many clr q :: flagP b byPri many clr q :: L) w' → R [.pointer (some ⟨b', 0, none⟩)] w') : sh26 (some ⟨b, 0, none⟩) R w := by
  unfold sh26
  have l1 := okL_len ho.1
  obtain ⟨p, m, f, hf, h⟩ := flagE h
  (repeat (first | with_reducible refine dr.mk h fun _ h => ?_ | with_reducible refine nn.mk ?_ | ((first | with_reducible apply ldI.mk | with_reducible apply ldB.mk | with_reducible apply ldP.mk | with_reducible apply ldS.mk | with_reducible apply ldM.mk | with_reducible apply ldF.mk | with_reducible apply ldG.mk); (· exact (by refine Ok.cellS h (by with_reducible first | exact sl0 | exact .there sl0 | exact .there sl1 | exact .there sl2 | exact .there sl3 | exact .there sl4 | exact .there sl5 | exact .there sl6 | exact .there sl7 | exact .there sl8 | exact .there sl9 | exact .there sl10 | exact .there sl11 | exact .there sl12) ?_; rfl))) | (refine st1.mk (Ok.bring h (by with_reducible first | exact sl0 | exact .there sl0 | exact .there sl1 | exact .there sl2 | exact .there sl3 | exact .there sl4 | exact .there sl5 | exact .there sl6 | exact .there sl7 | exact .there sl8 | exact .there sl9 | exact .there sl10 | exact .there sl11 | exact .there sl12)) (by simp) fun _ h => ?_; dsimp only [List.set] at h)))
  refine call43 (Twin_order (Ok.emb (h) (.cons (A := lineP p _ _) (by with_reducible first | exact sl0 | exact .there sl0 | exact .there sl1 | exact .there sl2 | exact .there sl3 | exact .there sl4 | exact .there sl5 | exact .there sl6 | exact .there sl7 | exact .there sl8 | exact .there sl9 | exact .there sl10 | exact .there sl11 | exact .there sl12) (.same _))) (by omega) fun p' w2 h => ⟨(some ⟨p', 0, none⟩, ()), rfl, (by refine Ok.cellS h (by with_reducible first | exact sl0 | exact .there sl0 | exact .there sl1 | exact .there sl2 | exact .there sl3 | exact .there sl4 | exact .there sl5 | exact .there sl6 | exact .there sl7 | exact .there sl8 | exact .there sl9 | exact .there sl10 | exact .there sl11 | exact .there sl12) ?_; rfl), (by refine Ok.cellS h (by with_reducible first | exact sl0 | exact .there sl0 | exact .there sl1 | exact .there sl2 | exact .there sl3 | exact .there sl4 | exact .there sl5 | exact .there sl6 | exact .there sl7 | exact .there sl8 | exact .there sl9 | exact .there sl10 | exact .there sl11 | exact .there sl12) ?_; rfl), (by refine Ok.cellS h (by with_reducible first | exact sl0 | exact .there sl0 | exact .there sl1 | exact .there sl2 | exact .there sl3 | exact .there sl4 | exact .there sl5 | exact .there sl6 | exact .there sl7 | exact .there sl8 | exact .there sl9 | exact .there sl10 | exact .there sl11 | exact .there sl12) ?_; rfl), (by refine Ok.cellS h (by with_reducible first | exact sl0 | exact .there sl0 | exact .there sl1 | exact .there sl2 | exact .there sl3 | exact .there sl4 | exact .there sl5 | exact .there sl6 | exact .there sl7 | exact .there sl8 | exact .there sl9 | exact .there sl10 | exact .there sl11 | exact .there sl12) ?_; rfl), ?_⟩)
  refine call44 (MapClone_wish (Ok.emb (h) (.cons (A := mpP m f) (by with_reducible first | exact sl0 | exact .there sl0 | exact .there sl1 | exact .there sl2 | exact .there sl3 | exact .there sl4 | exact .there sl5 | exact .there sl6 | exact .there sl7 | exact .there sl8 | exact .there sl9 | exact .there sl10 | exact .there sl11 | exact .there sl12) (.same _))) fun m' w3 h => ⟨(some m', ()), rfl, (by refine Ok.cellS h (by with_reducible first | exact sl0 | exact .there sl0 | exact .there sl1 | exact .there sl2 | exact .there sl3 | exact .there sl4 | exact .there sl5 | exact .there sl6 | exact .there sl7 | exact .there sl8 | exact .there sl9 | exact .there sl10 | exact .there sl11 | exact .there sl12) ?_; rfl), (by refine Ok.cellS h (by with_reducible first | exact sl0 | exact .there sl0 | exact .there sl1 | exact .there sl2 | exact .there sl3 | exact .there sl4 | exact .there sl5 | exact .there sl6 | exact .there sl7 | exact .there sl8 | exact .there sl9 | exact .there sl10 | exact .there sl11 | exact .there sl12) ?_; rfl), (by refine Ok.cellS h (by with_reducible first | exact sl0 | exact .there sl0 | exact .there sl1 | exact .there sl2 | exact .there sl3 | exact .there sl4 | exact .there sl5 | exact .there sl6 | exact .there sl7 | exact .there sl8 | exact .there sl9 | exact .there sl10 | exact .there sl11 | exact .there sl12) ?_; rfl), ?_⟩)
  refine al.mk h fun b' w4 h => k b' w4 ?_
  have h := flagI (q := q) (p := p') (m := m') hf (Ok.emb (h) (.cons (A := pts b' _) (by with_reducible first | exact sl0 | exact .there sl0 | exact .there sl1 | exact .there sl2 | exact .there sl3 | exact .there sl4 | exact .there sl5 | exact .there sl6 | exact .there sl7 | exact .there sl8 | exact .there sl9 | exact .there sl10 | exact .there sl11 | exact .there sl12) (.cons (A := lineP p' _ _) (by with_reducible first | exact sl0 | exact .there sl0 | exact .there sl1 | exact .there sl2 | exact .there sl3 | exact .there sl4 | exact .there sl5 | exact .there sl6 | exact .there sl7 | exact .there sl8 | exact .there sl9 | exact .there sl10 | exact .there sl11 | exact .there sl12) (.cons (A := mpP m' f) (by with_reducible first | exact sl0 | exact .there sl0 | exact .there sl1 | exact .there sl2 | exact .there sl3 | exact .there sl4 | exact .there sl5 | exact .there sl6 | exact .there sl7 | exact .there sl8 | exact .there sl9 | exact .there sl10 | exact .there sl11 | exact .there sl12) (.same _)))))
  exact Ok.p1 (flagI (q := q) (p := p) (m := m) hf (Ok.emb (h) (.cons (A := pts b _) (by with_reducible first | exact sl0 | exact .there sl0 | exact .there sl1 | exact .there sl2 | exact .there sl3 | exact .there sl4 | exact .there sl5 | exact .there sl6 | exact .there sl7 | exact .there sl8 | exact .there sl9 | exact .there sl10 | exact .there sl11 | exact .there sl12) (.cons (A := lineP p _ _) (by with_reducible first | exact sl0 | exact .there sl0 | exact .there sl1 | exact .there sl2 | exact .there sl3 | exact .there sl4 | exact .there sl5 | exact .there sl6 | exact .there sl7 | exact .there sl8 | exact .there sl9 | exact .there sl10 | exact .there sl11 | exact .there sl12) (.cons (A := mpP m f) (by with_reducible first | exact sl0 | exact .there sl0 | exact .there sl1 | exact .there sl2 | exact .there sl3 | exact .there sl4 | exact .there sl5 | exact .there sl6 | exact .there sl7 | exact .there sl8 | exact .there sl9 | exact .there sl10 | exact .there sl11 | exact .there sl12) (.same _))))))

end Go.Proofs.Ytkhalaoonamkjaa.B
