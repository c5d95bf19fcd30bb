/- Contracts of the package mbf: made, sent to, filled. -/
import Derived.Test.YtjamgdepbjipdaaMbf
namespace Go.Proofs.Ytjamgdepbjipdaa.B
open Go
set_option linter.unusedVariables false

theorem mapT_b : MapT Pg 39 (.slice none 0 0) := .of (by kernel_rfl)

def hB (q : BB) (σ : Int → Sl) (f : Int → Option Value) : Prop := (∀ i ∈ ids q.S, f i = some (vS (σ i))) ∧ ∀ i, i ∉ ids q.S → f i = none

abbrev mbC (rb : Nat) (most : Int) (sp rp m : Nat) : List Value := [.pointer (some ⟨rb, 0, none⟩), .int .i64 most, .pointer (some ⟨sp, 0, none⟩), .pointer (some ⟨rp, 0, none⟩), .map (some m)]

def mbfP (b : Nat) (byPri : Bool) (most : Int) (z : Nat) (q : BB) : SP := fun h => ∃ rb sp rp m f σ, hB q σ f ∧
  oksH [pts b (mbC rb most sp rp m), ringP rb z q.M, lineP sp [.bool byPri] q.S, lineP rp [.bool false] q.R, mpP m f, bagP σ q.s (ids q.S)] h

theorem mbfE {e w L b byPri most z q} (h : Ok e (mbfP b byPri most z q :: L) w) : ∃ rb sp rp m, ∃ f : Int → Option Value, ∃ σ : Int → Sl, hB q σ f ∧
    Ok e (pts b (mbC rb most sp rp m) :: ringP rb z q.M :: lineP sp [.bool byPri] q.S :: lineP rp [.bool false] q.R :: mpP m f :: bagP σ q.s (ids q.S) :: L) w := by
  obtain ⟨rb, h⟩ := h.exE
  obtain ⟨sp, h⟩ := h.exE
  obtain ⟨rp, h⟩ := h.exE
  obtain ⟨m, h⟩ := h.exE
  obtain ⟨f, h⟩ := h.exE
  obtain ⟨σ, h⟩ := h.exE
  obtain ⟨h1, h⟩ := h.pureE
  exact ⟨rb, sp, rp, m, f, σ, h1, h.unpack⟩

theorem mbfI {e w L b byPri most z q rb sp rp m} {f : Int → Option Value} {σ : Int → Sl} (h1 : hB q σ f)
    (h : Ok e (pts b (mbC rb most sp rp m) :: ringP rb z q.M :: lineP sp [.bool byPri] q.S :: lineP rp [.bool false] q.R :: mpP m f :: bagP σ q.s (ids q.S) :: L) w) : Ok e (mbfP b byPri most z q :: L) w :=
  (Ok.pack (M := [pts b (mbC rb most sp rp m), ringP rb z q.M, lineP sp [.bool byPri] q.S, lineP rp [.bool false] q.R, mpP m f, bagP σ q.s (ids q.S)]) h).imp fun k hk => ⟨rb, sp, rp, m, f, σ, h1, hk⟩

theorem New_mbf {e w L byPri most n R} (h : Ok e L w) (k0 : ¬ mkB' most n → ∀ w', Ok e L w' → R [.pointer none, .int .i64 (-17)] w')
    (k1 : mkB' most n → ∀ b w', Ok e (mbfP b byPri most n.toNat bb0 :: L) w' → R [.pointer (some ⟨b, 0, none⟩), .int .i64 0] w') : sh9 byPri most n R w := by
  unfold sh9
  refine call32 (New_ring h (fun h1 w1 h => ⟨(none, (-17 : Int), ()), rfl, ?_⟩) fun h1 b w1 h => ⟨(some ⟨b, 0, none⟩, (0 : Int), ()), rfl, ?_⟩)
  · refine jn.bool (decide (¬ (1 ≤ most ∧ most ≤ 1024))) (fun J hJ => cs.mk (fun h2 => ?_) (fun h2 => ?_)) ?_
    · have h2 := of_decide_eq_true h2
      rw [decide_eq_true (by omega)] at hJ
      exact hJ
    · have h2 := of_decide_eq_false h2
      rw [show decide (¬ (1 ≤ most ∧ most ≤ 1024)) = decide (most > 1024) from decide_eq_decide.2 (by omega)] at hJ
      exact hJ
    refine jn.bool true (fun J hJ => cs.mk (fun h2 => hJ) (fun h2 => hJ)) ?_
    exact cs.yes rfl (k0 (fun hk => h1 ⟨hk.2.2.1, hk.2.2.2.1, hk.2.2.2.2⟩) w1 h)
  · refine jn.bool (decide (¬ (1 ≤ most ∧ most ≤ 1024))) (fun J hJ => cs.mk (fun h2 => ?_) (fun h2 => ?_)) ?_
    · have h2 := of_decide_eq_true h2
      rw [decide_eq_true (by omega)] at hJ
      exact hJ
    · have h2 := of_decide_eq_false h2
      rw [show decide (¬ (1 ≤ most ∧ most ≤ 1024)) = decide (most > 1024) from decide_eq_decide.2 (by omega)] at hJ
      exact hJ
    refine jn.bool (decide (¬ (1 ≤ most ∧ most ≤ 1024))) (fun J hJ => cs.mk (fun h2 => ?_) (fun h2 => ?_)) ?_
    · dsimp only at h2
      rw [h2] at hJ
      exact hJ
    · dsimp only at h2
      rw [h2] at hJ
      exact hJ
    refine cs.mk (fun h2 => k0 (fun hk => of_decide_eq_true h2 ⟨hk.1, hk.2.1⟩) w1 h.drop) (fun h2 => ?_)
    have h2 : 1 ≤ most ∧ most ≤ 1024 := Decidable.not_not.1 (of_decide_eq_false h2)
    refine call33 (New_order h fun sp w2 h => ⟨(some ⟨sp, 0, none⟩, ()), rfl, ?_⟩)
    refine call33 (New_order h fun rp w3 h => ⟨(some ⟨rp, 0, none⟩, ()), rfl, ?_⟩)
    refine ef.makeMap h fun m w4 h => ?_
    refine al.mk h fun b2 w5 h => ?_
    have h := bag_nil (σ := fun _ => ⟨none, 0, 0⟩) (s := fun _ => []) h
    have h := (Ok.emb (h) (.cons (A := pts b2 _) (by with_reducible first | exact sl0 | exact .there sl0 | exact .there sl1 | exact .there sl2 | exact .there sl3 | exact .there sl4 | exact .there sl5 | exact .there sl6 | exact .there sl7 | exact .there sl8 | exact .there sl9 | exact .there sl10 | exact .there sl11 | exact .there sl12) (.cons (A := ringP b _ _) (by with_reducible first | exact sl0 | exact .there sl0 | exact .there sl1 | exact .there sl2 | exact .there sl3 | exact .there sl4 | exact .there sl5 | exact .there sl6 | exact .there sl7 | exact .there sl8 | exact .there sl9 | exact .there sl10 | exact .there sl11 | exact .there sl12) (.cons (A := lineP sp _ _) (by with_reducible first | exact sl0 | exact .there sl0 | exact .there sl1 | exact .there sl2 | exact .there sl3 | exact .there sl4 | exact .there sl5 | exact .there sl6 | exact .there sl7 | exact .there sl8 | exact .there sl9 | exact .there sl10 | exact .there sl11 | exact .there sl12) (.cons (A := lineP rp _ _) (by with_reducible first | exact sl0 | exact .there sl0 | exact .there sl1 | exact .there sl2 | exact .there sl3 | exact .there sl4 | exact .there sl5 | exact .there sl6 | exact .there sl7 | exact .there sl8 | exact .there sl9 | exact .there sl10 | exact .there sl11 | exact .there sl12) (.cons (A := mpP m _) (by with_reducible first | exact sl0 | exact .there sl0 | exact .there sl1 | exact .there sl2 | exact .there sl3 | exact .there sl4 | exact .there sl5 | exact .there sl6 | exact .there sl7 | exact .there sl8 | exact .there sl9 | exact .there sl10 | exact .there sl11 | exact .there sl12) (.cons (A := bagP _ _ _) (by with_reducible first | exact sl0 | exact .there sl0 | exact .there sl1 | exact .there sl2 | exact .there sl3 | exact .there sl4 | exact .there sl5 | exact .there sl6 | exact .there sl7 | exact .there sl8 | exact .there sl9 | exact .there sl10 | exact .there sl11 | exact .there sl12) (.same _))))))))
    exact k1 ⟨h2.1, h2.2, h1.1, h1.2.1, h1.2.2⟩ b2 w5 (mbfI (q := bb0) (rb := b) (sp := sp) (rp := rp) (m := m) (f := fun _ => none) (σ := fun _ => ⟨none, 0, 0⟩) ⟨fun i hi => by simp [bb0] at hi, fun i _ => rfl⟩ h)

theorem TrySend_mbf {e w A L b byPri most z q x l R} (h : Ok e (mbfP b byPri most z q :: A :: L) w) (r : RdB e A x l) (ho : BBo z q) (hm : most ≤ 1024)
    (k : ∀ w', Ok e (mbfP b byPri most z (q.trySend z most l).2 :: A :: L) w' → R [.bool (q.trySend z most l).1.1, .int .i64 (q.trySend z most l).1.2.1, .int .i64 (q.trySend z most l).1.2.2] w') :
    sh14 (some ⟨b, 0, none⟩) x R w := by
  unfold sh14
  unfold BB.trySend at k
  rw [← r.len]
  have l1 := okL_len ho.s
  have l2 := okL_len ho.r
  obtain ⟨rb, sp, rp, m, f, σ, h1, h⟩ := mbfE h
  refine jn.bool (decide ((l.length : Int) < 1 ∨ (l.length : Int) > most)) (fun J hJ => cs.mk (fun h2 => ?_) (fun h2 => ?_)) ?_
  · have h2 := of_decide_eq_true h2
    rw [decide_eq_true (.inl h2)] at hJ
    exact hJ
  · have h2 := of_decide_eq_false h2
    refine nn.mk (ldI.mk (x := most) (by refine Ok.cellS h (by with_reducible first | exact sl0 | exact .there sl0 | exact .there sl1 | exact .there sl2 | exact .there sl3 | exact .there sl4 | exact .there sl5 | exact .there sl6 | exact .there sl7 | exact .there sl8 | exact .there sl9 | exact .there sl10 | exact .there sl11 | exact .there sl12) ?_; rfl) ?_)
    rw [show decide ((l.length : Int) < 1 ∨ (l.length : Int) > most) = decide ((l.length : Int) > most) from decide_eq_decide.2 (by omega)] at hJ
    exact hJ
  refine cs.mk (fun h2 => ?_) (fun h2 => ?_)
  · rw [if_pos (of_decide_eq_true h2)] at k
    exact k w (mbfI h1 h)
  have h2 := of_decide_eq_false h2
  rw [if_neg h2] at k
  refine nn.mk (ldP.mk (by refine Ok.cellS h (by with_reducible first | exact sl0 | exact .there sl0 | exact .there sl1 | exact .there sl2 | exact .there sl3 | exact .there sl4 | exact .there sl5 | exact .there sl6 | exact .there sl7 | exact .there sl8 | exact .there sl9 | exact .there sl10 | exact .there sl11 | exact .there sl12) ?_; rfl) ?_)
  refine call39 (Take_order (Ok.emb (h) (.cons (A := lineP rp _ _) (by with_reducible first | exact sl0 | exact .there sl0 | exact .there sl1 | exact .there sl2 | exact .there sl3 | exact .there sl4 | exact .there sl5 | exact .there sl6 | exact .there sl7 | exact .there sl8 | exact .there sl9 | exact .there sl10 | exact .there sl11 | exact .there sl12) (.same _))) (by omega) fun w1 h => ⟨(((q.R.head?.getD (0, 0)).1, (q.R.head?.getD (0, 0)).2, ()), !q.R.isEmpty, ()), rfl, ?_⟩)
  refine al.mk h fun c w2 h => ?_
  (repeat (first | with_reducible refine dr.mk h fun _ h => ?_ | with_reducible refine nn.mk ?_ | ((first | with_reducible apply ldI.mk | with_reducible apply ldB.mk | with_reducible apply ldP.mk | with_reducible apply ldS.mk | with_reducible apply ldM.mk | with_reducible apply ldF.mk | with_reducible apply ldG.mk); (· exact (by refine Ok.cellS h (by with_reducible first | exact sl0 | exact .there sl0 | exact .there sl1 | exact .there sl2 | exact .there sl3 | exact .there sl4 | exact .there sl5 | exact .there sl6 | exact .there sl7 | exact .there sl8 | exact .there sl9 | exact .there sl10 | exact .there sl11 | exact .there sl12) ?_; rfl))) | (refine st1.mk (Ok.bring h (by with_reducible first | exact sl0 | exact .there sl0 | exact .there sl1 | exact .there sl2 | exact .there sl3 | exact .there sl4 | exact .there sl5 | exact .there sl6 | exact .there sl7 | exact .there sl8 | exact .there sl9 | exact .there sl10 | exact .there sl11 | exact .there sl12)) (by simp) fun _ h => ?_; dsimp only [List.set] at h)))
  obtain ⟨M, S, R, s⟩ := q
  dsimp only at *
  cases R with
  | cons y R =>
    refine cs.yes rfl ?_
    dsimp only [List.set, List.tail_cons, List.tail_nil, List.head?_cons, List.head?_nil, Option.getD_some, Option.getD_none] at h
    (repeat (first | with_reducible refine dr.mk h fun _ h => ?_ | with_reducible refine nn.mk ?_ | ((first | with_reducible apply ldI.mk | with_reducible apply ldB.mk | with_reducible apply ldP.mk | with_reducible apply ldS.mk | with_reducible apply ldM.mk | with_reducible apply ldF.mk | with_reducible apply ldG.mk); (· exact (by refine Ok.cellS h (by with_reducible first | exact sl0 | exact .there sl0 | exact .there sl1 | exact .there sl2 | exact .there sl3 | exact .there sl4 | exact .there sl5 | exact .there sl6 | exact .there sl7 | exact .there sl8 | exact .there sl9 | exact .there sl10 | exact .there sl11 | exact .there sl12) ?_; rfl))) | (refine st1.mk (Ok.bring h (by with_reducible first | exact sl0 | exact .there sl0 | exact .there sl1 | exact .there sl2 | exact .there sl3 | exact .there sl4 | exact .there sl5 | exact .there sl6 | exact .there sl7 | exact .there sl8 | exact .there sl9 | exact .there sl10 | exact .there sl11 | exact .there sl12)) (by simp) fun _ h => ?_; dsimp only [List.set] at h)))
    exact k _ ((mbfI (q := ⟨M, S, R, s⟩) h1 (Ok.emb (h) (.cons (A := pts b _) (by with_reducible first | exact sl0 | exact .there sl0 | exact .there sl1 | exact .there sl2 | exact .there sl3 | exact .there sl4 | exact .there sl5 | exact .there sl6 | exact .there sl7 | exact .there sl8 | exact .there sl9 | exact .there sl10 | exact .there sl11 | exact .there sl12) (.cons (A := ringP rb _ _) (by with_reducible first | exact sl0 | exact .there sl0 | exact .there sl1 | exact .there sl2 | exact .there sl3 | exact .there sl4 | exact .there sl5 | exact .there sl6 | exact .there sl7 | exact .there sl8 | exact .there sl9 | exact .there sl10 | exact .there sl11 | exact .there sl12) (.cons (A := lineP sp _ _) (by with_reducible first | exact sl0 | exact .there sl0 | exact .there sl1 | exact .there sl2 | exact .there sl3 | exact .there sl4 | exact .there sl5 | exact .there sl6 | exact .there sl7 | exact .there sl8 | exact .there sl9 | exact .there sl10 | exact .there sl11 | exact .there sl12) (.cons (A := lineP rp _ _) (by with_reducible first | exact sl0 | exact .there sl0 | exact .there sl1 | exact .there sl2 | exact .there sl3 | exact .there sl4 | exact .there sl5 | exact .there sl6 | exact .there sl7 | exact .there sl8 | exact .there sl9 | exact .there sl10 | exact .there sl11 | exact .there sl12) (.cons (A := mpP m _) (by with_reducible first | exact sl0 | exact .there sl0 | exact .there sl1 | exact .there sl2 | exact .there sl3 | exact .there sl4 | exact .there sl5 | exact .there sl6 | exact .there sl7 | exact .there sl8 | exact .there sl9 | exact .there sl10 | exact .there sl11 | exact .there sl12) (.cons (A := bagP σ _ _) (by with_reducible first | exact sl0 | exact .there sl0 | exact .there sl1 | exact .there sl2 | exact .there sl3 | exact .there sl4 | exact .there sl5 | exact .there sl6 | exact .there sl7 | exact .there sl8 | exact .there sl9 | exact .there sl10 | exact .there sl11 | exact .there sl12) (.same _))))))))).emb (by exact Emb.cons sl0 (Emb.skip (Emb.same _))))
  | nil =>
    refine cs.no rfl ?_
    dsimp only [List.set, List.tail_cons, List.tail_nil, List.head?_cons, List.head?_nil, Option.getD_some, Option.getD_none] at h
    (repeat (first | with_reducible refine dr.mk h fun _ h => ?_ | with_reducible refine nn.mk ?_ | ((first | with_reducible apply ldI.mk | with_reducible apply ldB.mk | with_reducible apply ldP.mk | with_reducible apply ldS.mk | with_reducible apply ldM.mk | with_reducible apply ldF.mk | with_reducible apply ldG.mk); (· exact (by refine Ok.cellS h (by with_reducible first | exact sl0 | exact .there sl0 | exact .there sl1 | exact .there sl2 | exact .there sl3 | exact .there sl4 | exact .there sl5 | exact .there sl6 | exact .there sl7 | exact .there sl8 | exact .there sl9 | exact .there sl10 | exact .there sl11 | exact .there sl12) ?_; rfl))) | (refine st1.mk (Ok.bring h (by with_reducible first | exact sl0 | exact .there sl0 | exact .there sl1 | exact .there sl2 | exact .there sl3 | exact .there sl4 | exact .there sl5 | exact .there sl6 | exact .there sl7 | exact .there sl8 | exact .there sl9 | exact .there sl10 | exact .there sl11 | exact .there sl12)) (by simp) fun _ h => ?_; dsimp only [List.set] at h)))
    refine call43 (Len_order (Ok.emb (h) (.cons (A := lineP sp _ _) (by with_reducible first | exact sl0 | exact .there sl0 | exact .there sl1 | exact .there sl2 | exact .there sl3 | exact .there sl4 | exact .there sl5 | exact .there sl6 | exact .there sl7 | exact .there sl8 | exact .there sl9 | exact .there sl10 | exact .there sl11 | exact .there sl12) (.same _))) ⟨((S.length : Int), ()), rfl, ?_⟩)
    have h := ((Ok.emb (h) (.cons (A := pts c _) (by with_reducible first | exact sl0 | exact .there sl0 | exact .there sl1 | exact .there sl2 | exact .there sl3 | exact .there sl4 | exact .there sl5 | exact .there sl6 | exact .there sl7 | exact .there sl8 | exact .there sl9 | exact .there sl10 | exact .there sl11 | exact .there sl12) (.same _)))).drop
    have close : ∀ {w' M'}, Ok e (pts b (mbC rb most sp rp m) :: ringP rb z M' :: lineP sp [.bool byPri] S :: lineP rp [.bool false] [] :: mpP m f :: bagP σ s (ids S) :: A :: L) w' → Ok e (mbfP b byPri most z ⟨M', S, [], s⟩ :: A :: L) w' := fun {w' M'} h => mbfI (q := ⟨M', S, [], s⟩) h1 h
    by_cases hS : S = []
    · subst hS
      refine jn.at (fitR z M (l.length : Nat), ()) (fun w' => Ok e (mbfP b byPri most z ⟨if fitR z M (l.length : Nat) then M ++ [l] else M, [], [], s⟩ :: A :: L) w') (fun J hJ => cs.yes rfl ?_) (fun w' h => ?_)
      · refine nn.mk (ldP.mk (by refine Ok.cellS h (by with_reducible first | exact sl0 | exact .there sl0 | exact .there sl1 | exact .there sl2 | exact .there sl3 | exact .there sl4 | exact .there sl5 | exact .there sl6 | exact .there sl7 | exact .there sl8 | exact .there sl9 | exact .there sl10 | exact .there sl11 | exact .there sl12) ?_; rfl) ?_)
        refine call44 (Put_ring (Ok.emb (h) (.cons (A := ringP rb _ _) (by with_reducible first | exact sl0 | exact .there sl0 | exact .there sl1 | exact .there sl2 | exact .there sl3 | exact .there sl4 | exact .there sl5 | exact .there sl6 | exact .there sl7 | exact .there sl8 | exact .there sl9 | exact .there sl10 | exact .there sl11 | exact .there sl12) (.cons (A := A) (by with_reducible first | exact sl0 | exact .there sl0 | exact .there sl1 | exact .there sl2 | exact .there sl3 | exact .there sl4 | exact .there sl5 | exact .there sl6 | exact .there sl7 | exact .there sl8 | exact .there sl9 | exact .there sl10 | exact .there sl11 | exact .there sl12) (.same _)))) r (by omega) fun w3 h => ⟨(fitR z M (l.length : Nat), ()), rfl, ?_⟩)
        exact hJ _ (close (Ok.emb (h) (.cons (A := pts b _) (by with_reducible first | exact sl0 | exact .there sl0 | exact .there sl1 | exact .there sl2 | exact .there sl3 | exact .there sl4 | exact .there sl5 | exact .there sl6 | exact .there sl7 | exact .there sl8 | exact .there sl9 | exact .there sl10 | exact .there sl11 | exact .there sl12) (.cons (A := ringP rb _ _) (by with_reducible first | exact sl0 | exact .there sl0 | exact .there sl1 | exact .there sl2 | exact .there sl3 | exact .there sl4 | exact .there sl5 | exact .there sl6 | exact .there sl7 | exact .there sl8 | exact .there sl9 | exact .there sl10 | exact .there sl11 | exact .there sl12) (.cons (A := lineP sp _ _) (by with_reducible first | exact sl0 | exact .there sl0 | exact .there sl1 | exact .there sl2 | exact .there sl3 | exact .there sl4 | exact .there sl5 | exact .there sl6 | exact .there sl7 | exact .there sl8 | exact .there sl9 | exact .there sl10 | exact .there sl11 | exact .there sl12) (.cons (A := lineP rp _ _) (by with_reducible first | exact sl0 | exact .there sl0 | exact .there sl1 | exact .there sl2 | exact .there sl3 | exact .there sl4 | exact .there sl5 | exact .there sl6 | exact .there sl7 | exact .there sl8 | exact .there sl9 | exact .there sl10 | exact .there sl11 | exact .there sl12) (.cons (A := mpP m _) (by with_reducible first | exact sl0 | exact .there sl0 | exact .there sl1 | exact .there sl2 | exact .there sl3 | exact .there sl4 | exact .there sl5 | exact .there sl6 | exact .there sl7 | exact .there sl8 | exact .there sl9 | exact .there sl10 | exact .there sl11 | exact .there sl12) (.cons (A := bagP σ _ _) (by with_reducible first | exact sl0 | exact .there sl0 | exact .there sl1 | exact .there sl2 | exact .there sl3 | exact .there sl4 | exact .there sl5 | exact .there sl6 | exact .there sl7 | exact .there sl8 | exact .there sl9 | exact .there sl10 | exact .there sl11 | exact .there sl12) (.same _)))))))))
      · cases hf : fitR z M (l.length : Nat) with
        | true =>
          rw [hf] at h k
          exact k _ h
        | false =>
          rw [hf] at h k
          exact k _ h
    · refine jn.at (false, ()) (fun w' => Ok e (mbfP b byPri most z ⟨M, S, [], s⟩ :: A :: L) w') (fun J hJ => cs.no ?_ ?_) (fun w' h => ?_)
      · have : S.length ≠ 0 := fun hn => hS (List.length_eq_zero_iff.1 hn)
        exact beq_eq_false_iff_ne.2 (by omega)
      · exact hJ _ (close (Ok.emb (h) (.cons (A := pts b _) (by with_reducible first | exact sl0 | exact .there sl0 | exact .there sl1 | exact .there sl2 | exact .there sl3 | exact .there sl4 | exact .there sl5 | exact .there sl6 | exact .there sl7 | exact .there sl8 | exact .there sl9 | exact .there sl10 | exact .there sl11 | exact .there sl12) (.cons (A := ringP rb _ _) (by with_reducible first | exact sl0 | exact .there sl0 | exact .there sl1 | exact .there sl2 | exact .there sl3 | exact .there sl4 | exact .there sl5 | exact .there sl6 | exact .there sl7 | exact .there sl8 | exact .there sl9 | exact .there sl10 | exact .there sl11 | exact .there sl12) (.cons (A := lineP sp _ _) (by with_reducible first | exact sl0 | exact .there sl0 | exact .there sl1 | exact .there sl2 | exact .there sl3 | exact .there sl4 | exact .there sl5 | exact .there sl6 | exact .there sl7 | exact .there sl8 | exact .there sl9 | exact .there sl10 | exact .there sl11 | exact .there sl12) (.cons (A := lineP rp _ _) (by with_reducible first | exact sl0 | exact .there sl0 | exact .there sl1 | exact .there sl2 | exact .there sl3 | exact .there sl4 | exact .there sl5 | exact .there sl6 | exact .there sl7 | exact .there sl8 | exact .there sl9 | exact .there sl10 | exact .there sl11 | exact .there sl12) (.cons (A := mpP m _) (by with_reducible first | exact sl0 | exact .there sl0 | exact .there sl1 | exact .there sl2 | exact .there sl3 | exact .there sl4 | exact .there sl5 | exact .there sl6 | exact .there sl7 | exact .there sl8 | exact .there sl9 | exact .there sl10 | exact .there sl11 | exact .there sl12) (.cons (A := bagP σ _ _) (by with_reducible first | exact sl0 | exact .there sl0 | exact .there sl1 | exact .there sl2 | exact .there sl3 | exact .there sl4 | exact .there sl5 | exact .there sl6 | exact .there sl7 | exact .there sl8 | exact .there sl9 | exact .there sl10 | exact .there sl11 | exact .there sl12) (.same _)))))))))
      · rw [if_neg (fun hn => hS hn.1)] at k
        exact k _ h

set_option maxHeartbeats 1000000 in
theorem Send_mbf {e w A L b byPri most z q t pri x l R} (h : Ok e (mbfP b byPri most z q :: A :: L) w) (r : RdB e A x l) (ho : BBo z q) (hm : most ≤ 1024)
    (k : ∀ w', Ok e (mbfP b byPri most z (q.send z most byPri t pri l).2 :: A :: L) w' → R [.bool (q.send z most byPri t pri l).1.1, .int .i64 (q.send z most byPri t pri l).1.2.1, .int .i64 (q.send z most byPri t pri l).1.2.2] w') :
    sh10 (some ⟨b, 0, none⟩) t pri x R w := by
  unfold sh10
  unfold BB.send at k
  refine call14 (TrySend_mbf h r ho hm fun w1 h => ⟨((q.trySend z most l).1.1, (q.trySend z most l).1.2.1, (q.trySend z most l).1.2.2, ()), rfl, ?_⟩)
  dsimp only
  refine jn.bool (decide ((q.trySend z most l).1.1 = true ∨ (q.trySend z most l).1.2.2 ≠ 0)) (fun J hJ => cs.mk (fun h2 => ?_) (fun h2 => ?_)) ?_
  · rw [decide_eq_true (.inl h2)] at hJ
    exact hJ
  · rw [show decide ((q.trySend z most l).1.1 = true ∨ (q.trySend z most l).1.2.2 ≠ 0) = ((q.trySend z most l).1.2.2 != 0) by rw [Bool.eq_iff_iff]; simp [h2]] at hJ
    exact hJ
  refine cs.mk (fun h2 => ?_) (fun h2 => ?_)
  · rw [if_pos (of_decide_eq_true h2)] at k
    exact k w1 h
  have h2 := of_decide_eq_false h2
  rw [if_neg h2] at k
  obtain ⟨h3, h4, h5⟩ := trySend_no h2
  rw [h3] at h
  dsimp only at h
  have l1 := okL_len ho.s
  obtain ⟨rb, sp, rp, m, f, σ, h1, h⟩ := mbfE h
  refine nn.mk (ldP.mk (by refine Ok.cellS h (by with_reducible first | exact sl0 | exact .there sl0 | exact .there sl1 | exact .there sl2 | exact .there sl3 | exact .there sl4 | exact .there sl5 | exact .there sl6 | exact .there sl7 | exact .there sl8 | exact .there sl9 | exact .there sl10 | exact .there sl11 | exact .there sl12) ?_; rfl) (nn.mk ?_))
  refine call34 (Has_order (Ok.emb (h) (.cons (A := lineP rp _ _) (by with_reducible first | exact sl0 | exact .there sl0 | exact .there sl1 | exact .there sl2 | exact .there sl3 | exact .there sl4 | exact .there sl5 | exact .there sl6 | exact .there sl7 | exact .there sl8 | exact .there sl9 | exact .there sl10 | exact .there sl11 | exact .there sl12) (.same _))) (by rw [h4]; simp) fun w2 h => ⟨(false, ()), by rw [h4]; rfl, ?_⟩)
  refine cs.no rfl (nn.mk (ldP.mk (by refine Ok.cellS h (by with_reducible first | exact sl0 | exact .there sl0 | exact .there sl1 | exact .there sl2 | exact .there sl3 | exact .there sl4 | exact .there sl5 | exact .there sl6 | exact .there sl7 | exact .there sl8 | exact .there sl9 | exact .there sl10 | exact .there sl11 | exact .there sl12) ?_; rfl) ?_))
  refine call35 (Add_order (Ok.emb (h) (.cons (A := lineP sp _ _) (by with_reducible first | exact sl0 | exact .there sl0 | exact .there sl1 | exact .there sl2 | exact .there sl3 | exact .there sl4 | exact .there sl5 | exact .there sl6 | exact .there sl7 | exact .there sl8 | exact .there sl9 | exact .there sl10 | exact .there sl11 | exact .there sl12) (.same _))) (by omega) fun w3 h => ⟨((addL byPri q.S t pri).1, ()), rfl, ?_⟩)
  dsimp only
  refine cs.mk (fun hc => ?_) (fun hc => ?_)
  · have hc : (addL byPri q.S t pri).1 ≠ 0 := by simpa using hc
    rw [if_neg hc] at k
    rw [addL_other hc] at h
    exact k w3 (mbfI (q := q) h1 (Ok.emb (h) (.cons (A := pts b _) (by with_reducible first | exact sl0 | exact .there sl0 | exact .there sl1 | exact .there sl2 | exact .there sl3 | exact .there sl4 | exact .there sl5 | exact .there sl6 | exact .there sl7 | exact .there sl8 | exact .there sl9 | exact .there sl10 | exact .there sl11 | exact .there sl12) (.cons (A := ringP rb _ _) (by with_reducible first | exact sl0 | exact .there sl0 | exact .there sl1 | exact .there sl2 | exact .there sl3 | exact .there sl4 | exact .there sl5 | exact .there sl6 | exact .there sl7 | exact .there sl8 | exact .there sl9 | exact .there sl10 | exact .there sl11 | exact .there sl12) (.cons (A := lineP sp _ _) (by with_reducible first | exact sl0 | exact .there sl0 | exact .there sl1 | exact .there sl2 | exact .there sl3 | exact .there sl4 | exact .there sl5 | exact .there sl6 | exact .there sl7 | exact .there sl8 | exact .there sl9 | exact .there sl10 | exact .there sl11 | exact .there sl12) (.cons (A := lineP rp _ _) (by with_reducible first | exact sl0 | exact .there sl0 | exact .there sl1 | exact .there sl2 | exact .there sl3 | exact .there sl4 | exact .there sl5 | exact .there sl6 | exact .there sl7 | exact .there sl8 | exact .there sl9 | exact .there sl10 | exact .there sl11 | exact .there sl12) (.cons (A := mpP m _) (by with_reducible first | exact sl0 | exact .there sl0 | exact .there sl1 | exact .there sl2 | exact .there sl3 | exact .there sl4 | exact .there sl5 | exact .there sl6 | exact .there sl7 | exact .there sl8 | exact .there sl9 | exact .there sl10 | exact .there sl11 | exact .there sl12) (.cons (A := bagP σ _ _) (by with_reducible first | exact sl0 | exact .there sl0 | exact .there sl1 | exact .there sl2 | exact .there sl3 | exact .there sl4 | exact .there sl5 | exact .there sl6 | exact .there sl7 | exact .there sl8 | exact .there sl9 | exact .there sl10 | exact .there sl11 | exact .there sl12) (.same _)))))))))
  · have hc : (addL byPri q.S t pri).1 = 0 := by simpa using hc
    rw [if_pos hc] at k
    obtain ⟨h6, h7, h8⟩ := addL_zero hc
    refine dr.mk h fun w4 h => nn.mk (ldM.mk (by refine Ok.cellS h (by with_reducible first | exact sl0 | exact .there sl0 | exact .there sl1 | exact .there sl2 | exact .there sl3 | exact .there sl4 | exact .there sl5 | exact .there sl6 | exact .there sl7 | exact .there sl8 | exact .there sl9 | exact .there sl10 | exact .there sl11 | exact .there sl12) ?_; rfl) ?_)
    refine call36 (Clone_b (Ok.emb (h) (.cons (A := A) (by with_reducible first | exact sl0 | exact .there sl0 | exact .there sl1 | exact .there sl2 | exact .there sl3 | exact .there sl4 | exact .there sl5 | exact .there sl6 | exact .there sl7 | exact .there sl8 | exact .there sl9 | exact .there sl10 | exact .there sl11 | exact .there sl12) (.same _))) r (by omega) fun y w5 hy h => ⟨(y, ()), rfl, (by refine Ok.cellS h (by with_reducible first | exact sl0 | exact .there sl0 | exact .there sl1 | exact .there sl2 | exact .there sl3 | exact .there sl4 | exact .there sl5 | exact .there sl6 | exact .there sl7 | exact .there sl8 | exact .there sl9 | exact .there sl10 | exact .there sl11 | exact .there sl12) ?_; rfl), ?_⟩)
    refine efU.mapUpdate mapT_b (Ok.emb (h) (.cons (A := mpP m f) (by with_reducible first | exact sl0 | exact .there sl0 | exact .there sl1 | exact .there sl2 | exact .there sl3 | exact .there sl4 | exact .there sl5 | exact .there sl6 | exact .there sl7 | exact .there sl8 | exact .there sl9 | exact .there sl10 | exact .there sl11 | exact .there sl12) (.same _))) fun w6 h => ?_
    have h := (Ok.emb (h) (.cons (A := bagP σ _ _) (by with_reducible first | exact sl0 | exact .there sl0 | exact .there sl1 | exact .there sl2 | exact .there sl3 | exact .there sl4 | exact .there sl5 | exact .there sl6 | exact .there sl7 | exact .there sl8 | exact .there sl9 | exact .there sl10 | exact .there sl11 | exact .there sl12) (.same _)))
    have h := bag_congr (σ' := updI σ t y) (s' := updI q.s t l) (fun i hi => by
      have hne : i ≠ t := fun he => h7 (he ▸ hi)
      rw [updI_other hne, updI_other hne]; exact ⟨rfl, rfl⟩) h
    have h := ((Ok.emb (h) (.cons (A := slc 1 y _) (by with_reducible first | exact sl0 | exact .there sl0 | exact .there sl1 | exact .there sl2 | exact .there sl3 | exact .there sl4 | exact .there sl5 | exact .there sl6 | exact .there sl7 | exact .there sl8 | exact .there sl9 | exact .there sl10 | exact .there sl11 | exact .there sl12) (.same _)))).slcR
    rw [show rdb y l = rdb (updI σ t y t) (updI q.s t l t) by rw [updI_same, updI_same]] at h
    have h := (Ok.emb (h) (.cons (A := rdb _ _) (by with_reducible first | exact sl0 | exact .there sl0 | exact .there sl1 | exact .there sl2 | exact .there sl3 | exact .there sl4 | exact .there sl5 | exact .there sl6 | exact .there sl7 | exact .there sl8 | exact .there sl9 | exact .there sl10 | exact .there sl11 | exact .there sl12) (.cons (A := bagP _ _ _) (by with_reducible first | exact sl0 | exact .there sl0 | exact .there sl1 | exact .there sl2 | exact .there sl3 | exact .there sl4 | exact .there sl5 | exact .there sl6 | exact .there sl7 | exact .there sl8 | exact .there sl9 | exact .there sl10 | exact .there sl11 | exact .there sl12) (.same _))))
    have h := bag_perm (J := ids (addL byPri q.S t pri).2) (by rw [h8]; exact (putL_ids (byPri := byPri) (l := q.S) (x := (t, pri))).symm) (bag_put h)
    refine k w6 (mbfI (q := ⟨q.M, (addL byPri q.S t pri).2, q.R, updI q.s t l⟩) (σ := updI σ t y) ⟨fun i hi => ?_, fun i hi => ?_⟩ (Ok.emb (h) (.cons (A := pts b _) (by with_reducible first | exact sl0 | exact .there sl0 | exact .there sl1 | exact .there sl2 | exact .there sl3 | exact .there sl4 | exact .there sl5 | exact .there sl6 | exact .there sl7 | exact .there sl8 | exact .there sl9 | exact .there sl10 | exact .there sl11 | exact .there sl12) (.cons (A := ringP rb _ _) (by with_reducible first | exact sl0 | exact .there sl0 | exact .there sl1 | exact .there sl2 | exact .there sl3 | exact .there sl4 | exact .there sl5 | exact .there sl6 | exact .there sl7 | exact .there sl8 | exact .there sl9 | exact .there sl10 | exact .there sl11 | exact .there sl12) (.cons (A := lineP sp _ _) (by with_reducible first | exact sl0 | exact .there sl0 | exact .there sl1 | exact .there sl2 | exact .there sl3 | exact .there sl4 | exact .there sl5 | exact .there sl6 | exact .there sl7 | exact .there sl8 | exact .there sl9 | exact .there sl10 | exact .there sl11 | exact .there sl12) (.cons (A := lineP rp _ _) (by with_reducible first | exact sl0 | exact .there sl0 | exact .there sl1 | exact .there sl2 | exact .there sl3 | exact .there sl4 | exact .there sl5 | exact .there sl6 | exact .there sl7 | exact .there sl8 | exact .there sl9 | exact .there sl10 | exact .there sl11 | exact .there sl12) (.cons (A := mpP m _) (by with_reducible first | exact sl0 | exact .there sl0 | exact .there sl1 | exact .there sl2 | exact .there sl3 | exact .there sl4 | exact .there sl5 | exact .there sl6 | exact .there sl7 | exact .there sl8 | exact .there sl9 | exact .there sl10 | exact .there sl11 | exact .there sl12) (.cons (A := bagP _ _ _) (by with_reducible first | exact sl0 | exact .there sl0 | exact .there sl1 | exact .there sl2 | exact .there sl3 | exact .there sl4 | exact .there sl5 | exact .there sl6 | exact .there sl7 | exact .there sl8 | exact .there sl9 | exact .there sl10 | exact .there sl11 | exact .there sl12) (.same _)))))))))
    · by_cases hit : i = t
      · rw [hit, upd_same, updI_same]
      · rw [upd_other hit, updI_other hit]
        rcases addL_mem hi with h9 | h9
        · exact absurd h9.2 hit
        · exact h1.1 i h9
    · have hi2 : i ∉ t :: ids q.S := fun hm => hi (by
        show i ∈ ids (addL byPri q.S t pri).2
        rw [h8]
        exact (putL_ids (byPri := byPri) (l := q.S) (x := (t, pri))).mem_iff.2 hm)
      have hne : i ≠ t := fun he => hi2 (by rw [he]; exact List.mem_cons_self ..)
      rw [upd_other hne]
      exact h1.2 i fun hm => hi2 (List.mem_cons_of_mem _ hm)

end Go.Proofs.Ytjamgdepbjipdaa.B
