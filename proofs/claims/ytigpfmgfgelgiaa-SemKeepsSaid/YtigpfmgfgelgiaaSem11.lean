/- Contracts of the packages sem and ref11. -/
import Derived.Test.YtigpfmgfgelgiaaSame4
namespace Go.Proofs.Ytigpfmgfgelgiaa.B
open Go
set_option linter.unusedVariables false

/-- a semaphore's cells -/
abbrev semC (p : Nat) (c m : Int) : List Value := [.pointer (some ⟨p, 0, none⟩), .int .i64 c, .int .i64 m]

structure SigR where
  id : Int
  code : Int
  c : Int
  l : List (Int × Int)

def sigM (c m : Int) : List (Int × Int) → SigR
  | x :: r => ⟨x.1, 0, c, r⟩
  | [] => if c ≥ m then ⟨0, -43, c, []⟩ else ⟨0, 0, c + 1, []⟩

def semOk (c m : Int) : Prop := 1 ≤ m ∧ m ≤ 65535 ∧ 0 ≤ c ∧ c ≤ m

instance (c m : Int) : Decidable (semOk c m) := by unfold semOk; infer_instance

theorem sigM_ok {c m : Int} {l : List (Int × Int)} (h : semOk c m) : semOk (sigM c m l).c m := by
  cases l with
  | cons x r => exact h
  | nil =>
    simp only [sigM, semOk] at *
    split
    · exact h
    · simp only; omega

structure WaitR where
  ok : Bool
  code : Int
  c : Int
  l : List (Int × Int)

def waitM (byPri : Bool) (c : Int) (l : List (Int × Int)) (id pri : Int) : WaitR :=
  if c ≤ 0 then ⟨false, (addL byPri l id pri).1, c, (addL byPri l id pri).2⟩ else ⟨true, 0, c - 1, l⟩

theorem New_sem {e w L byPri c m R} (h : Ok e L w) (k0 : ¬ semOk c m → R [.pointer none, .int .i64 (-17)] w) (k1 : semOk c m → ∀ s p w', Ok e (pts s (semC p c m) :: lineP p [.bool byPri] ([]) :: L) w' → R [.pointer (some ⟨s, 0, none⟩), .int .i64 0] w') : sh8 byPri c m R w := by
  unfold sh8
  refine jn.bool (decide (m < 1 ∨ m > 65535)) (fun J hJ => cs.mk (fun h1 => ?_) (fun h1 => ?_)) ?_
  · have h1 := of_decide_eq_true h1
    rw [decide_eq_true (.inl h1)] at hJ
    exact hJ
  · have h1 := of_decide_eq_false h1
    simpa [h1] using hJ
  refine jn.bool (decide (m < 1 ∨ m > 65535 ∨ c < 0)) (fun J hJ => cs.mk (fun h1 => ?_) (fun h1 => ?_)) ?_
  · have h1 := of_decide_eq_true h1
    rw [decide_eq_true (by omega)] at hJ
    exact hJ
  · have h1 := of_decide_eq_false h1
    rw [show decide (c < 0) = decide (m < 1 ∨ m > 65535 ∨ c < 0) from decide_eq_decide.2 (by omega)]
    exact hJ
  refine jn.bool (decide (¬ semOk c m)) (fun J hJ => cs.mk (fun h1 => ?_) (fun h1 => ?_)) ?_
  · have h1 := of_decide_eq_true h1
    rw [decide_eq_true (by unfold semOk; omega)] at hJ
    exact hJ
  · have h1 := of_decide_eq_false h1
    rw [show decide (c > m) = decide (¬ semOk c m) from decide_eq_decide.2 (by unfold semOk; omega)]
    exact hJ
  refine cs.mk (fun h1 => k0 (of_decide_eq_true h1)) (fun h1 => ?_)
  have h1 : semOk c m := Decidable.not_not.1 (of_decide_eq_false h1)
  refine call24 (New_order h fun p w1 h => ⟨(some ⟨p, 0, none⟩, ()), rfl, ?_⟩)
  refine al.mk h fun s w2 h => k1 h1 s p w2 h

theorem Signal_sem {e w L s p byPri c m l R} (h : Ok e (pts s (semC p c m) :: lineP p [.bool byPri] (l) :: L) w) (hb : l.length ≤ 2 ^ 20) (ho : semOk c m) (k : ∀ w', Ok e (pts s (semC p (sigM c m l).c m) :: lineP p [.bool byPri] ((sigM c m l).l) :: L) w' → R [.int .i64 (sigM c m l).id, .int .i64 (sigM c m l).code] w') : sh9 (some ⟨s, 0, none⟩) R w := by
  unfold sh9
  refine nn.mk (ldP.mk (h.cell rfl) ?_)
  refine call25 (Take_order h.p1 hb fun w1 h => ⟨(((l.head?.getD (0, 0)).1, (l.head?.getD (0, 0)).2, ()), !l.isEmpty, ()), rfl, ?_⟩)
  refine al.mk h fun b w2 h => st1.mk h (by simp) fun w3 h => st1.mk h (by simp) fun w4 h => ?_
  dsimp only
  cases l with
  | cons x r => exact cs.yes rfl (ldI.mk (h.cell rfl) (k w4 h.drop.p1))
  | nil =>
    refine cs.no rfl (dr.mk h fun w5 h => nn.mk (ldI.mk (h.p2.cell rfl) (nn.mk (ldI.mk (h.p2.cell rfl) ?_))))
    unfold semOk at ho
    refine cs.mk (fun h1 => ?_) (fun h1 => ?_)
    · have h1 := of_decide_eq_true h1
      simp only [sigM, if_pos h1] at k
      exact k w5 h.drop.p1
    · have h1 := of_decide_eq_false h1
      simp only [sigM, if_neg h1] at k
      refine nn.mk (ldI.mk (h.p2.cell rfl) (nn.mk (st1.mk h.p2 (by simp) fun w6 h => ?_)))
      rw [w64_in (by omega) (by omega)] at h
      exact k w6 h.p1.drop

theorem Poll_sem {e w L s p c m R} (h : Ok e (pts s (semC p c m) :: L) w) (ho : semOk c m) (k : ∀ w', Ok e (pts s (semC p (if c ≤ 0 then c else c - 1) m) :: L) w' → R [.bool (decide (0 < c))] w') : sh13 (some ⟨s, 0, none⟩) R w := by
  unfold sh13
  unfold semOk at ho
  refine nn.mk (ldI.mk (h.cell rfl) ?_)
  refine cs.mk (fun h1 => ?_) (fun h1 => ?_)
  · have h1 : c ≤ 0 := by simpa using h1
    rw [if_pos h1, decide_eq_false (by omega)] at k
    exact k w h
  · have h1 : ¬ c ≤ 0 := by simpa using h1
    rw [if_neg h1, decide_eq_true (by omega)] at k
    refine nn.mk (ldI.mk (h.cell rfl) (nn.mk (st1.mk h (by simp) fun w1 h => ?_)))
    rw [w64_in (by omega) (by omega)] at h
    exact k w1 h

theorem Wait_sem {e w L s p byPri c m l id pri R} (h : Ok e (pts s (semC p c m) :: lineP p [.bool byPri] (l) :: L) w) (hb : l.length ≤ 2 ^ 20) (ho : semOk c m) (k : ∀ w', Ok e (pts s (semC p (waitM byPri c l id pri).c m) :: lineP p [.bool byPri] ((waitM byPri c l id pri).l) :: L) w' → R [.bool (waitM byPri c l id pri).ok, .int .i64 (waitM byPri c l id pri).code] w') : sh12 (some ⟨s, 0, none⟩) id pri R w := by
  unfold sh12
  unfold waitM at k
  refine call13 (Poll_sem h ho fun w1 h => ⟨(decide (0 < c), ()), rfl, ?_⟩)
  dsimp only
  refine cs.mk (fun h1 => ?_) (fun h1 => ?_)
  · have h1 := of_decide_eq_true h1
    rw [if_neg (by omega)] at k h
    exact k w1 h
  · have h1 := of_decide_eq_false h1
    rw [if_pos (by omega)] at k h
    refine nn.mk (ldP.mk (h.cell rfl) ?_)
    refine call27 (Add_order h.p1 hb fun w2 h => ⟨((addL byPri l id pri).1, ()), rfl, ?_⟩)
    exact k w2 h.p1

theorem New_ref11 {e w L byPri c m R} (h : Ok e L w) (k0 : ¬ semOk c m → R [.pointer none, .int .i64 (-17)] w) (k1 : semOk c m → ∀ s p w', Ok e (pts s (semC p c m) :: refP p byPri ([]) :: L) w' → R [.pointer (some ⟨s, 0, none⟩), .int .i64 0] w') : sh14 byPri c m R w := by
  unfold sh14
  refine jn.bool (decide (m < 1 ∨ m > 65535)) (fun J hJ => cs.mk (fun h1 => ?_) (fun h1 => ?_)) ?_
  · have h1 := of_decide_eq_true h1
    rw [decide_eq_true (.inl h1)] at hJ
    exact hJ
  · have h1 := of_decide_eq_false h1
    simpa [h1] using hJ
  refine jn.bool (decide (m < 1 ∨ m > 65535 ∨ c < 0)) (fun J hJ => cs.mk (fun h1 => ?_) (fun h1 => ?_)) ?_
  · have h1 := of_decide_eq_true h1
    rw [decide_eq_true (by omega)] at hJ
    exact hJ
  · have h1 := of_decide_eq_false h1
    rw [show decide (c < 0) = decide (m < 1 ∨ m > 65535 ∨ c < 0) from decide_eq_decide.2 (by omega)]
    exact hJ
  refine jn.bool (decide (¬ semOk c m)) (fun J hJ => cs.mk (fun h1 => ?_) (fun h1 => ?_)) ?_
  · have h1 := of_decide_eq_true h1
    rw [decide_eq_true (by unfold semOk; omega)] at hJ
    exact hJ
  · have h1 := of_decide_eq_false h1
    rw [show decide (c > m) = decide (¬ semOk c m) from decide_eq_decide.2 (by unfold semOk; omega)]
    exact hJ
  refine cs.mk (fun h1 => k0 (of_decide_eq_true h1)) (fun h1 => ?_)
  have h1 : semOk c m := Decidable.not_not.1 (of_decide_eq_false h1)
  refine al.mk h fun p w1 h => al.mk h fun s w2 h => k1 h1 s p w2 ?_
  exact Ok.p1 (refI (s := ⟨none, 0, 0⟩) (h.slcNil 2).p2)

theorem Signal_ref11 {e w L s p byPri c m l R} (h : Ok e (pts s (semC p c m) :: refP p byPri (l) :: L) w) (hb : l.length ≤ 2 ^ 20) (ho : semOk c m) (k : ∀ w', Ok e (pts s (semC p (sigM c m l).c m) :: refP p byPri ((sigM c m l).l) :: L) w' → R [.int .i64 (sigM c m l).id, .int .i64 (sigM c m l).code] w') : sh15 (some ⟨s, 0, none⟩) R w := by
  unfold sh15
  refine nn.mk (ldP.mk (h.cell rfl) ?_)
  refine call28 (Take_ref4 h.p1 hb fun w1 h => ⟨(((l.head?.getD (0, 0)).1, (l.head?.getD (0, 0)).2, ()), !l.isEmpty, ()), rfl, ?_⟩)
  refine al.mk h fun b w2 h => st1.mk h (by simp) fun w3 h => st1.mk h (by simp) fun w4 h => ?_
  dsimp only
  cases l with
  | cons x r => exact cs.yes rfl (ldI.mk (h.cell rfl) (k w4 h.drop.p1))
  | nil =>
    refine cs.no rfl (dr.mk h fun w5 h => nn.mk (ldI.mk (h.p2.cell rfl) (nn.mk (ldI.mk (h.p2.cell rfl) ?_))))
    unfold semOk at ho
    refine cs.mk (fun h1 => ?_) (fun h1 => ?_)
    · have h1 := of_decide_eq_true h1
      simp only [sigM, if_pos h1] at k
      exact k w5 h.drop.p1
    · have h1 := of_decide_eq_false h1
      simp only [sigM, if_neg h1] at k
      refine nn.mk (ldI.mk (h.p2.cell rfl) (nn.mk (st1.mk h.p2 (by simp) fun w6 h => ?_)))
      rw [w64_in (by omega) (by omega)] at h
      exact k w6 h.p1.drop

theorem Poll_ref11 {e w L s p c m R} (h : Ok e (pts s (semC p c m) :: L) w) (ho : semOk c m) (k : ∀ w', Ok e (pts s (semC p (if c ≤ 0 then c else c - 1) m) :: L) w' → R [.bool (decide (0 < c))] w') : sh17 (some ⟨s, 0, none⟩) R w := by
  unfold sh17
  unfold semOk at ho
  refine nn.mk (ldI.mk (h.cell rfl) ?_)
  refine cs.mk (fun h1 => ?_) (fun h1 => ?_)
  · have h1 : c ≤ 0 := by have h0 : c = 0 := (by simpa using h1); omega
    rw [if_pos h1, decide_eq_false (by omega)] at k
    exact k w h
  · have h1 : ¬ c ≤ 0 := by have h0 : ¬ c = 0 := (by simpa using h1); omega
    rw [if_neg h1, decide_eq_true (by omega)] at k
    refine nn.mk (ldI.mk (h.cell rfl) (nn.mk (st1.mk h (by simp) fun w1 h => ?_)))
    rw [w64_in (by omega) (by omega)] at h
    exact k w1 h

theorem Wait_ref11 {e w L s p byPri c m l id pri R} (h : Ok e (pts s (semC p c m) :: refP p byPri (l) :: L) w) (hb : l.length ≤ 2 ^ 20) (ho : semOk c m) (k : ∀ w', Ok e (pts s (semC p (waitM byPri c l id pri).c m) :: refP p byPri ((waitM byPri c l id pri).l) :: L) w' → R [.bool (waitM byPri c l id pri).ok, .int .i64 (waitM byPri c l id pri).code] w') : sh16 (some ⟨s, 0, none⟩) id pri R w := by
  unfold sh16
  unfold waitM at k
  refine call17 (Poll_ref11 h ho fun w1 h => ⟨(decide (0 < c), ()), rfl, ?_⟩)
  dsimp only
  refine cs.mk (fun h1 => ?_) (fun h1 => ?_)
  · have h1 := of_decide_eq_true h1
    rw [if_neg (by omega)] at k h
    exact k w1 h
  · have h1 := of_decide_eq_false h1
    rw [if_pos (by omega)] at k h
    refine nn.mk (ldP.mk (h.cell rfl) ?_)
    refine call29 (Add_ref4 h.p1 hb fun w2 h => ⟨((addL byPri l id pri).1, ()), rfl, ?_⟩)
    exact k w2 h.p1

theorem Apart_sem {e w L s p byPri c m l R} (h : Ok e (pts s (semC p c m) :: lineP p [.bool byPri] l :: L) w) (hb : l.length ≤ 2 ^ 20) (k : ∀ s' p' w', Ok e (pts s' (semC p' c m) :: lineP p' [.bool byPri] l :: pts s (semC p c m) :: lineP p [.bool byPri] l :: L) w' → R [.pointer (some ⟨s', 0, none⟩)] w') : sh22 (some ⟨s, 0, none⟩) R w := by
  unfold sh22
  refine dr.mk h fun w1 h => nn.mk (ldP.mk (h.cell rfl) (nn.mk (ldI.mk (h.cell rfl) (nn.mk (ldI.mk (h.cell rfl) ?_)))))
  refine call35 (Twin_order h.p1 hb fun p' w2 h => ⟨(some ⟨p', 0, none⟩, ()), rfl, h.p2.cell rfl, h.p2.cell rfl, ?_⟩)
  refine al.mk h fun s' w3 h => k s' p' w3 ?_
  exact h.p3.p2.p2

end Go.Proofs.Ytigpfmgfgelgiaa.B
