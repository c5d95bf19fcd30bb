/- Contracts of the package ctx: entering and leaving. -/
import Derived.Test.YtbpdkchglmpnkaaCtx
namespace Go.Proofs.Ytbpdkchglmpnkaa.B
open Go
set_option linter.unusedVariables false

theorem PlaceM.top_at {m : PlaceM} {x : Int} (h : m.lv[m.lv.length - 1]? = some x) : m.top = x := by
  unfold PlaceM.top
  rw [List.getLast?_eq_getElem?, h]; rfl

theorem PlaceM.inn_iff (m : PlaceM) : m.inn = true ↔ 0 < m.lv.length := by simp [PlaceM.inn]

theorem Enter_ctx {e w L p m l R} (h : Ok e (placeP p m :: L) w) (hb : m.lv.length ≤ 2 ^ 30) (k : ∀ w', Ok e (placeP p (m.enter l).2 :: L) w' → R [.int .i64 (m.enter l).1] w') : sh9 (some ⟨p, 0, none⟩) l R w := by
  unfold sh9
  refine jn.bool (decide (l < 1) || decide (l > 15)) (fun J hJ => cs.mk (fun h1 => ?_) (fun h1 => ?_)) ?_
  · simpa [show l < 1 by simpa using h1] using hJ
  · simpa [show ¬ l < 1 by simpa using h1] using hJ
  dsimp only
  refine cs.mk (fun h1 => ?_) (fun h1 => ?_)
  · have he : m.enter l = (-17, m) := by
      have : l < 1 ∨ l > 15 := by simpa using h1
      simp only [PlaceM.enter, if_pos this]
    rw [he] at k; exact k w h
  have hl : ¬ (l < 1 ∨ l > 15) := by simpa using h1
  refine dr.mk h fun w1 h => ?_
  refine jn.bool (m.locked || (m.inn && decide (l ≤ m.top))) (fun J hJ => ?_) ?_
  · have h0 := h
    obtain ⟨s, hs, h⟩ := placeE h
    repeat (first | refine nn.mk ?_ | refine ldI.mk (by first | exact h.cell rfl | exact h.p1.cell rfl | exact h.p2.cell rfl | exact h.p3.cell rfl | exact h.p4.cell rfl) ?_ | refine ldB.mk (by first | exact h.cell rfl | exact h.p1.cell rfl | exact h.p2.cell rfl | exact h.p3.cell rfl | exact h.p4.cell rfl) ?_ | refine ldP.mk (by first | exact h.cell rfl | exact h.p1.cell rfl | exact h.p2.cell rfl | exact h.p3.cell rfl | exact h.p4.cell rfl) ?_ | refine ldS.mk (by first | exact h.cell rfl | exact h.p1.cell rfl | exact h.p2.cell rfl | exact h.p3.cell rfl | exact h.p4.cell rfl) ?_ | refine ldM.mk (by first | exact h.cell rfl | exact h.p1.cell rfl | exact h.p2.cell rfl | exact h.p3.cell rfl | exact h.p4.cell rfl) ?_)
    refine cs.mk (fun h2 => ?_) (fun h2 => ?_)
    · simpa [h2] using hJ
    repeat (first | refine nn.mk ?_ | refine ldI.mk (by first | exact h.cell rfl | exact h.p1.cell rfl | exact h.p2.cell rfl | exact h.p3.cell rfl | exact h.p4.cell rfl) ?_ | refine ldB.mk (by first | exact h.cell rfl | exact h.p1.cell rfl | exact h.p2.cell rfl | exact h.p3.cell rfl | exact h.p4.cell rfl) ?_ | refine ldP.mk (by first | exact h.cell rfl | exact h.p1.cell rfl | exact h.p2.cell rfl | exact h.p3.cell rfl | exact h.p4.cell rfl) ?_ | refine ldS.mk (by first | exact h.cell rfl | exact h.p1.cell rfl | exact h.p2.cell rfl | exact h.p3.cell rfl | exact h.p4.cell rfl) ?_ | refine ldM.mk (by first | exact h.cell rfl | exact h.p1.cell rfl | exact h.p2.cell rfl | exact h.p3.cell rfl | exact h.p4.cell rfl) ?_)
    refine call10 (In_ctx h0 ⟨(m.inn, ()), rfl, ?_⟩)
    dsimp only
    refine cs.mk (fun h3 => ?_) (fun h3 => ?_)
    · repeat (first | refine nn.mk ?_ | refine ldI.mk (by first | exact h.cell rfl | exact h.p1.cell rfl | exact h.p2.cell rfl | exact h.p3.cell rfl | exact h.p4.cell rfl) ?_ | refine ldB.mk (by first | exact h.cell rfl | exact h.p1.cell rfl | exact h.p2.cell rfl | exact h.p3.cell rfl | exact h.p4.cell rfl) ?_ | refine ldP.mk (by first | exact h.cell rfl | exact h.p1.cell rfl | exact h.p2.cell rfl | exact h.p3.cell rfl | exact h.p4.cell rfl) ?_ | refine ldS.mk (by first | exact h.cell rfl | exact h.p1.cell rfl | exact h.p2.cell rfl | exact h.p3.cell rfl | exact h.p4.cell rfl) ?_ | refine ldM.mk (by first | exact h.cell rfl | exact h.p1.cell rfl | exact h.p2.cell rfl | exact h.p3.cell rfl | exact h.p4.cell rfl) ?_)
      have hpos := m.inn_iff.1 h3
      have hw : w64 ((s.len : Int) - 1) = ((m.lv.length - 1 : Nat) : Int) := by rw [hs, w64_in (by omega) (by omega)]; omega
      rw [hw]
      refine ix_int h.p1 (by omega) (by omega) fun b o x hx hc => ?_
      refine ldI.mk (hc _ ⟨_, h.p1⟩) ?_
      rw [Int.toNat_natCast] at hx
      rw [← PlaceM.top_at hx]
      simpa [h2, h3] using hJ
    · simpa [h2, h3] using hJ
  dsimp only
  refine cs.mk (fun h2 => ?_) (fun h2 => ?_)
  · have he : m.enter l = (-25, m) := by
      have : m.locked = true ∨ m.inn = true ∧ l ≤ m.top := by simpa using h2
      simp only [PlaceM.enter, if_neg hl, if_pos this]
    rw [he] at k; exact k w1 h
  have he : m.enter l = (0, { m with lv := m.lv ++ [l] }) := by
    have : ¬ (m.locked = true ∨ m.inn = true ∧ l ≤ m.top) := by simpa using h2
    simp only [PlaceM.enter, if_neg hl, if_neg this]
  rw [he] at k
  obtain ⟨s, hs, h⟩ := placeE h
  repeat (first | refine nn.mk ?_ | refine ldI.mk (by first | exact h.cell rfl | exact h.p1.cell rfl | exact h.p2.cell rfl | exact h.p3.cell rfl | exact h.p4.cell rfl) ?_ | refine ldB.mk (by first | exact h.cell rfl | exact h.p1.cell rfl | exact h.p2.cell rfl | exact h.p3.cell rfl | exact h.p4.cell rfl) ?_ | refine ldP.mk (by first | exact h.cell rfl | exact h.p1.cell rfl | exact h.p2.cell rfl | exact h.p3.cell rfl | exact h.p4.cell rfl) ?_ | refine ldS.mk (by first | exact h.cell rfl | exact h.p1.cell rfl | exact h.p2.cell rfl | exact h.p3.cell rfl | exact h.p4.cell rfl) ?_ | refine ldM.mk (by first | exact h.cell rfl | exact h.p1.cell rfl | exact h.p2.cell rfl | exact h.p3.cell rfl | exact h.p4.cell rfl) ?_)
  refine al.mk h fun b w2 h => ?_
  refine ef.append1 slT_int (by decide) (us := [.int .i64 l]) (n := 1) h.p2.p1 rfl (by simp [Value.oneCell']) (by omega) fun s' w3 hl' h => ?_
  have h := h.p1
  repeat (first | refine nn.mk ?_ | refine ldI.mk (by first | exact h.cell rfl | exact h.p1.cell rfl | exact h.p2.cell rfl | exact h.p3.cell rfl | exact h.p4.cell rfl) ?_ | refine ldB.mk (by first | exact h.cell rfl | exact h.p1.cell rfl | exact h.p2.cell rfl | exact h.p3.cell rfl | exact h.p4.cell rfl) ?_ | refine ldP.mk (by first | exact h.cell rfl | exact h.p1.cell rfl | exact h.p2.cell rfl | exact h.p3.cell rfl | exact h.p4.cell rfl) ?_ | refine ldS.mk (by first | exact h.cell rfl | exact h.p1.cell rfl | exact h.p2.cell rfl | exact h.p3.cell rfl | exact h.p4.cell rfl) ?_ | refine ldM.mk (by first | exact h.cell rfl | exact h.p1.cell rfl | exact h.p2.cell rfl | exact h.p3.cell rfl | exact h.p4.cell rfl) ?_)
  refine st1.mk h (by simp) fun w4 h => ?_
  refine k w4 (placeI (s := s') (m := { m with lv := m.lv ++ [l] }) ?_)
  have : ints (m.lv ++ [l]) = ints m.lv ++ [.int .i64 l] := by simp [ints]
  rw [this]
  exact h

theorem Exit_ctx {e w L p m R} (h : Ok e (placeP p m :: L) w) (hb : m.lv.length ≤ 2 ^ 30) (k : ∀ w', Ok e (placeP p m.exit.2 :: L) w' → R [.int .i64 m.exit.1] w') : sh12 (some ⟨p, 0, none⟩) R w := by
  unfold sh12
  repeat (first | refine nn.mk ?_ | refine ldI.mk (by first | exact h.cell rfl | exact h.p1.cell rfl | exact h.p2.cell rfl | exact h.p3.cell rfl | exact h.p4.cell rfl) ?_ | refine ldB.mk (by first | exact h.cell rfl | exact h.p1.cell rfl | exact h.p2.cell rfl | exact h.p3.cell rfl | exact h.p4.cell rfl) ?_ | refine ldP.mk (by first | exact h.cell rfl | exact h.p1.cell rfl | exact h.p2.cell rfl | exact h.p3.cell rfl | exact h.p4.cell rfl) ?_ | refine ldS.mk (by first | exact h.cell rfl | exact h.p1.cell rfl | exact h.p2.cell rfl | exact h.p3.cell rfl | exact h.p4.cell rfl) ?_ | refine ldM.mk (by first | exact h.cell rfl | exact h.p1.cell rfl | exact h.p2.cell rfl | exact h.p3.cell rfl | exact h.p4.cell rfl) ?_)
  refine call10 (In_ctx h ⟨(m.inn, ()), rfl, ?_⟩)
  dsimp only
  refine cs.mk (fun h1 => ?_) (fun h1 => ?_)
  · have he : m.exit = (-25, m) := by simp [PlaceM.exit, show m.inn = false by simpa using h1]
    rw [he] at k; exact k w h
  have hin : m.inn = true := by simpa using h1
  have he : m.exit = (0, { m with lv := m.lv.take (m.lv.length - 1) }) := by simp [PlaceM.exit, hin]
  rw [he] at k
  have hpos := m.inn_iff.1 hin
  refine dr.mk h fun w1 h => ?_
  obtain ⟨s, hs, h⟩ := placeE h
  repeat (first | refine nn.mk ?_ | refine ldI.mk (by first | exact h.cell rfl | exact h.p1.cell rfl | exact h.p2.cell rfl | exact h.p3.cell rfl | exact h.p4.cell rfl) ?_ | refine ldB.mk (by first | exact h.cell rfl | exact h.p1.cell rfl | exact h.p2.cell rfl | exact h.p3.cell rfl | exact h.p4.cell rfl) ?_ | refine ldP.mk (by first | exact h.cell rfl | exact h.p1.cell rfl | exact h.p2.cell rfl | exact h.p3.cell rfl | exact h.p4.cell rfl) ?_ | refine ldS.mk (by first | exact h.cell rfl | exact h.p1.cell rfl | exact h.p2.cell rfl | exact h.p3.cell rfl | exact h.p4.cell rfl) ?_ | refine ldM.mk (by first | exact h.cell rfl | exact h.p1.cell rfl | exact h.p2.cell rfl | exact h.p3.cell rfl | exact h.p4.cell rfl) ?_)
  have hw : w64 ((s.len : Int) - 1) = ((m.lv.length - 1 : Nat) : Int) := by rw [hs, w64_in (by omega) (by omega)]; omega
  rw [hw]
  refine sb.take h.p1 (by omega) (by omega) fun s' hl' hc' h => ?_
  have h := h.p1
  repeat (first | refine nn.mk ?_ | refine ldI.mk (by first | exact h.cell rfl | exact h.p1.cell rfl | exact h.p2.cell rfl | exact h.p3.cell rfl | exact h.p4.cell rfl) ?_ | refine ldB.mk (by first | exact h.cell rfl | exact h.p1.cell rfl | exact h.p2.cell rfl | exact h.p3.cell rfl | exact h.p4.cell rfl) ?_ | refine ldP.mk (by first | exact h.cell rfl | exact h.p1.cell rfl | exact h.p2.cell rfl | exact h.p3.cell rfl | exact h.p4.cell rfl) ?_ | refine ldS.mk (by first | exact h.cell rfl | exact h.p1.cell rfl | exact h.p2.cell rfl | exact h.p3.cell rfl | exact h.p4.cell rfl) ?_ | refine ldM.mk (by first | exact h.cell rfl | exact h.p1.cell rfl | exact h.p2.cell rfl | exact h.p3.cell rfl | exact h.p4.cell rfl) ?_)
  refine st1.mk h (by simp) fun w2 h => ?_
  refine k w2 (placeI (s := s') (m := { m with lv := m.lv.take (m.lv.length - 1) }) ?_)
  have : ints (m.lv.take (m.lv.length - 1)) = (ints m.lv).take (m.lv.length - 1) := by simp [ints]
  rw [this]
  simpa using h

/-! ### the reference's place: the same layout -/

theorem In_ref23 {e w L p m R} (h : Ok e (placeP p m :: L) w) (k : R [.bool m.inn] w) : sh20 (some ⟨p, 0, none⟩) R w := by
  obtain ⟨s, hs, h⟩ := placeE h
  unfold sh20
  repeat (first | refine nn.mk ?_ | refine ldI.mk (by first | exact h.cell rfl | exact h.p1.cell rfl | exact h.p2.cell rfl | exact h.p3.cell rfl | exact h.p4.cell rfl) ?_ | refine ldB.mk (by first | exact h.cell rfl | exact h.p1.cell rfl | exact h.p2.cell rfl | exact h.p3.cell rfl | exact h.p4.cell rfl) ?_ | refine ldP.mk (by first | exact h.cell rfl | exact h.p1.cell rfl | exact h.p2.cell rfl | exact h.p3.cell rfl | exact h.p4.cell rfl) ?_ | refine ldS.mk (by first | exact h.cell rfl | exact h.p1.cell rfl | exact h.p2.cell rfl | exact h.p3.cell rfl | exact h.p4.cell rfl) ?_ | refine ldM.mk (by first | exact h.cell rfl | exact h.p1.cell rfl | exact h.p2.cell rfl | exact h.p3.cell rfl | exact h.p4.cell rfl) ?_)
  rw [hs]; exact k

theorem Dispatch_ref23 {e w L p m R} (h : Ok e (placeP p m :: L) w) (k : R [.bool m.dispatch] w) : sh23 (some ⟨p, 0, none⟩) R w := by
  unfold sh23
  refine call20 (In_ref23 h ⟨(m.inn, ()), rfl, ?_⟩)
  dsimp only
  obtain ⟨s, hs, h⟩ := placeE h
  refine jn.bool (!m.inn && !m.locked) (fun J hJ => cs.mk (fun h1 => ?_) (fun h1 => ?_)) ?_
  · repeat (first | refine nn.mk ?_ | refine ldI.mk (by first | exact h.cell rfl | exact h.p1.cell rfl | exact h.p2.cell rfl | exact h.p3.cell rfl | exact h.p4.cell rfl) ?_ | refine ldB.mk (by first | exact h.cell rfl | exact h.p1.cell rfl | exact h.p2.cell rfl | exact h.p3.cell rfl | exact h.p4.cell rfl) ?_ | refine ldP.mk (by first | exact h.cell rfl | exact h.p1.cell rfl | exact h.p2.cell rfl | exact h.p3.cell rfl | exact h.p4.cell rfl) ?_ | refine ldS.mk (by first | exact h.cell rfl | exact h.p1.cell rfl | exact h.p2.cell rfl | exact h.p3.cell rfl | exact h.p4.cell rfl) ?_ | refine ldM.mk (by first | exact h.cell rfl | exact h.p1.cell rfl | exact h.p2.cell rfl | exact h.p3.cell rfl | exact h.p4.cell rfl) ?_)
    simpa [show m.inn = false by simpa using h1] using hJ
  · simpa [show m.inn = true by simpa using h1] using hJ
  dsimp only
  refine jn.bool m.dispatch (fun J hJ => cs.mk (fun h1 => ?_) (fun h1 => ?_)) k
  · repeat (first | refine nn.mk ?_ | refine ldI.mk (by first | exact h.cell rfl | exact h.p1.cell rfl | exact h.p2.cell rfl | exact h.p3.cell rfl | exact h.p4.cell rfl) ?_ | refine ldB.mk (by first | exact h.cell rfl | exact h.p1.cell rfl | exact h.p2.cell rfl | exact h.p3.cell rfl | exact h.p4.cell rfl) ?_ | refine ldP.mk (by first | exact h.cell rfl | exact h.p1.cell rfl | exact h.p2.cell rfl | exact h.p3.cell rfl | exact h.p4.cell rfl) ?_ | refine ldS.mk (by first | exact h.cell rfl | exact h.p1.cell rfl | exact h.p2.cell rfl | exact h.p3.cell rfl | exact h.p4.cell rfl) ?_ | refine ldM.mk (by first | exact h.cell rfl | exact h.p1.cell rfl | exact h.p2.cell rfl | exact h.p3.cell rfl | exact h.p4.cell rfl) ?_)
    simpa [PlaceM.dispatch, h1] using hJ
  · simpa [PlaceM.dispatch, h1] using hJ

theorem Enter_ref23 {e w L p m l R} (h : Ok e (placeP p m :: L) w) (hb : m.lv.length ≤ 2 ^ 30) (k : ∀ w', Ok e (placeP p (m.enter l).2 :: L) w' → R [.int .i64 (m.enter l).1] w') : sh17 (some ⟨p, 0, none⟩) l R w := by
  unfold sh17
  refine jn.bool (decide (l < 1) || decide (l > 15)) (fun J hJ => cs.mk (fun h1 => ?_) (fun h1 => ?_)) ?_
  · simpa [show l < 1 by simpa using h1] using hJ
  · simpa [show ¬ l < 1 by simpa using h1] using hJ
  dsimp only
  refine cs.mk (fun h1 => ?_) (fun h1 => ?_)
  · have he : m.enter l = (-17, m) := by
      have : l < 1 ∨ l > 15 := by simpa using h1
      simp only [PlaceM.enter, if_pos this]
    rw [he] at k; exact k w h
  have hl : ¬ (l < 1 ∨ l > 15) := by simpa using h1
  refine dr.mk h fun w1 h => ?_
  refine jn.bool (m.locked || (m.inn && decide (l ≤ m.top))) (fun J hJ => ?_) ?_
  · obtain ⟨s, hs, h⟩ := placeE h
    repeat (first | refine nn.mk ?_ | refine ldI.mk (by first | exact h.cell rfl | exact h.p1.cell rfl | exact h.p2.cell rfl | exact h.p3.cell rfl | exact h.p4.cell rfl) ?_ | refine ldB.mk (by first | exact h.cell rfl | exact h.p1.cell rfl | exact h.p2.cell rfl | exact h.p3.cell rfl | exact h.p4.cell rfl) ?_ | refine ldP.mk (by first | exact h.cell rfl | exact h.p1.cell rfl | exact h.p2.cell rfl | exact h.p3.cell rfl | exact h.p4.cell rfl) ?_ | refine ldS.mk (by first | exact h.cell rfl | exact h.p1.cell rfl | exact h.p2.cell rfl | exact h.p3.cell rfl | exact h.p4.cell rfl) ?_ | refine ldM.mk (by first | exact h.cell rfl | exact h.p1.cell rfl | exact h.p2.cell rfl | exact h.p3.cell rfl | exact h.p4.cell rfl) ?_)
    refine cs.mk (fun h2 => ?_) (fun h2 => ?_)
    · simpa [h2] using hJ
    repeat (first | refine nn.mk ?_ | refine ldI.mk (by first | exact h.cell rfl | exact h.p1.cell rfl | exact h.p2.cell rfl | exact h.p3.cell rfl | exact h.p4.cell rfl) ?_ | refine ldB.mk (by first | exact h.cell rfl | exact h.p1.cell rfl | exact h.p2.cell rfl | exact h.p3.cell rfl | exact h.p4.cell rfl) ?_ | refine ldP.mk (by first | exact h.cell rfl | exact h.p1.cell rfl | exact h.p2.cell rfl | exact h.p3.cell rfl | exact h.p4.cell rfl) ?_ | refine ldS.mk (by first | exact h.cell rfl | exact h.p1.cell rfl | exact h.p2.cell rfl | exact h.p3.cell rfl | exact h.p4.cell rfl) ?_ | refine ldM.mk (by first | exact h.cell rfl | exact h.p1.cell rfl | exact h.p2.cell rfl | exact h.p3.cell rfl | exact h.p4.cell rfl) ?_)
    refine cs.mk (fun h3 => ?_) (fun h3 => ?_)
    · repeat (first | refine nn.mk ?_ | refine ldI.mk (by first | exact h.cell rfl | exact h.p1.cell rfl | exact h.p2.cell rfl | exact h.p3.cell rfl | exact h.p4.cell rfl) ?_ | refine ldB.mk (by first | exact h.cell rfl | exact h.p1.cell rfl | exact h.p2.cell rfl | exact h.p3.cell rfl | exact h.p4.cell rfl) ?_ | refine ldP.mk (by first | exact h.cell rfl | exact h.p1.cell rfl | exact h.p2.cell rfl | exact h.p3.cell rfl | exact h.p4.cell rfl) ?_ | refine ldS.mk (by first | exact h.cell rfl | exact h.p1.cell rfl | exact h.p2.cell rfl | exact h.p3.cell rfl | exact h.p4.cell rfl) ?_ | refine ldM.mk (by first | exact h.cell rfl | exact h.p1.cell rfl | exact h.p2.cell rfl | exact h.p3.cell rfl | exact h.p4.cell rfl) ?_)
      have h3 : m.inn = true := by rw [← h3, hs]; rfl
      have hpos := m.inn_iff.1 h3
      have hw : w64 ((s.len : Int) - 1) = ((m.lv.length - 1 : Nat) : Int) := by rw [hs, w64_in (by omega) (by omega)]; omega
      rw [hw]
      refine ix_int h.p1 (by omega) (by omega) fun b o x hx hc => ?_
      refine ldI.mk (hc _ ⟨_, h.p1⟩) ?_
      rw [Int.toNat_natCast] at hx
      rw [← PlaceM.top_at hx]
      simpa [h2, h3] using hJ
    · have h3 : m.inn = false := by rw [← h3, hs]; rfl
      simpa [h2, h3] using hJ
  dsimp only
  refine cs.mk (fun h2 => ?_) (fun h2 => ?_)
  · have he : m.enter l = (-25, m) := by
      have : m.locked = true ∨ m.inn = true ∧ l ≤ m.top := by simpa using h2
      simp only [PlaceM.enter, if_neg hl, if_pos this]
    rw [he] at k; exact k w1 h
  have he : m.enter l = (0, { m with lv := m.lv ++ [l] }) := by
    have : ¬ (m.locked = true ∨ m.inn = true ∧ l ≤ m.top) := by simpa using h2
    simp only [PlaceM.enter, if_neg hl, if_neg this]
  rw [he] at k
  refine al.mk h fun b0 w2 h => ?_
  have h := (h.slcNew (n := 0) (sz := 1) rfl (by simp)).p1
  obtain ⟨s, hs, h⟩ := placeE h
  repeat (first | refine nn.mk ?_ | refine ldI.mk (by first | exact h.cell rfl | exact h.p1.cell rfl | exact h.p2.cell rfl | exact h.p3.cell rfl | exact h.p4.cell rfl) ?_ | refine ldB.mk (by first | exact h.cell rfl | exact h.p1.cell rfl | exact h.p2.cell rfl | exact h.p3.cell rfl | exact h.p4.cell rfl) ?_ | refine ldP.mk (by first | exact h.cell rfl | exact h.p1.cell rfl | exact h.p2.cell rfl | exact h.p3.cell rfl | exact h.p4.cell rfl) ?_ | refine ldS.mk (by first | exact h.cell rfl | exact h.p1.cell rfl | exact h.p2.cell rfl | exact h.p3.cell rfl | exact h.p4.cell rfl) ?_ | refine ldM.mk (by first | exact h.cell rfl | exact h.p1.cell rfl | exact h.p2.cell rfl | exact h.p3.cell rfl | exact h.p4.cell rfl) ?_)
  refine ef.append2 slT_int (by decide) h.p2.p2.p1 (by simp only; omega) fun s1 w3 hl1 h => ?_
  dsimp only at hl1
  refine al.mk h fun b w4 h => ?_
  dsimp only
  refine ef.append1 slT_int (by decide) (us := [.int .i64 l]) (n := 1) h rfl (by simp [Value.oneCell']) (by omega) fun s' w5 hl' h => ?_
  have h := h.p2
  repeat (first | refine nn.mk ?_ | refine ldI.mk (by first | exact h.cell rfl | exact h.p1.cell rfl | exact h.p2.cell rfl | exact h.p3.cell rfl | exact h.p4.cell rfl) ?_ | refine ldB.mk (by first | exact h.cell rfl | exact h.p1.cell rfl | exact h.p2.cell rfl | exact h.p3.cell rfl | exact h.p4.cell rfl) ?_ | refine ldP.mk (by first | exact h.cell rfl | exact h.p1.cell rfl | exact h.p2.cell rfl | exact h.p3.cell rfl | exact h.p4.cell rfl) ?_ | refine ldS.mk (by first | exact h.cell rfl | exact h.p1.cell rfl | exact h.p2.cell rfl | exact h.p3.cell rfl | exact h.p4.cell rfl) ?_ | refine ldM.mk (by first | exact h.cell rfl | exact h.p1.cell rfl | exact h.p2.cell rfl | exact h.p3.cell rfl | exact h.p4.cell rfl) ?_)
  refine st1.mk h (by simp) fun w6 h => ?_
  refine k w6 (placeI (s := s') (m := { m with lv := m.lv ++ [l] }) (L := L) ?_)
  have : ints (m.lv ++ [l]) = [] ++ ints m.lv ++ [.int .i64 l] := by simp [ints]
  rw [this]
  exact h.p2.drop

theorem Exit_ref23 {e w L p m R} (h : Ok e (placeP p m :: L) w) (hb : m.lv.length ≤ 2 ^ 30) (k : ∀ w', Ok e (placeP p m.exit.2 :: L) w' → R [.int .i64 m.exit.1] w') : sh18 (some ⟨p, 0, none⟩) R w := by
  unfold sh18
  obtain ⟨s, hs, h⟩ := placeE h
  repeat (first | refine nn.mk ?_ | refine ldI.mk (by first | exact h.cell rfl | exact h.p1.cell rfl | exact h.p2.cell rfl | exact h.p3.cell rfl | exact h.p4.cell rfl) ?_ | refine ldB.mk (by first | exact h.cell rfl | exact h.p1.cell rfl | exact h.p2.cell rfl | exact h.p3.cell rfl | exact h.p4.cell rfl) ?_ | refine ldP.mk (by first | exact h.cell rfl | exact h.p1.cell rfl | exact h.p2.cell rfl | exact h.p3.cell rfl | exact h.p4.cell rfl) ?_ | refine ldS.mk (by first | exact h.cell rfl | exact h.p1.cell rfl | exact h.p2.cell rfl | exact h.p3.cell rfl | exact h.p4.cell rfl) ?_ | refine ldM.mk (by first | exact h.cell rfl | exact h.p1.cell rfl | exact h.p2.cell rfl | exact h.p3.cell rfl | exact h.p4.cell rfl) ?_)
  refine cs.mk (fun h1 => ?_) (fun h1 => ?_)
  · have h0 : s.len = 0 := by simpa using h1
    have he : m.exit = (-25, m) := by
      have : m.inn = false := by cases hi : m.inn with | false => rfl | true => have := m.inn_iff.1 hi; omega
      simp [PlaceM.exit, this]
    rw [he] at k; exact k w (placeI h)
  have hne : s.len ≠ 0 := by simpa using h1
  have hin : m.inn = true := m.inn_iff.2 (by omega)
  have he : m.exit = (0, { m with lv := m.lv.take (m.lv.length - 1) }) := by simp [PlaceM.exit, hin]
  rw [he] at k
  have hpos := m.inn_iff.1 hin
  refine dr.mk h fun w1 h => ?_
  repeat (first | refine nn.mk ?_ | refine ldI.mk (by first | exact h.cell rfl | exact h.p1.cell rfl | exact h.p2.cell rfl | exact h.p3.cell rfl | exact h.p4.cell rfl) ?_ | refine ldB.mk (by first | exact h.cell rfl | exact h.p1.cell rfl | exact h.p2.cell rfl | exact h.p3.cell rfl | exact h.p4.cell rfl) ?_ | refine ldP.mk (by first | exact h.cell rfl | exact h.p1.cell rfl | exact h.p2.cell rfl | exact h.p3.cell rfl | exact h.p4.cell rfl) ?_ | refine ldS.mk (by first | exact h.cell rfl | exact h.p1.cell rfl | exact h.p2.cell rfl | exact h.p3.cell rfl | exact h.p4.cell rfl) ?_ | refine ldM.mk (by first | exact h.cell rfl | exact h.p1.cell rfl | exact h.p2.cell rfl | exact h.p3.cell rfl | exact h.p4.cell rfl) ?_)
  have hw : w64 ((s.len : Int) - 1) = ((m.lv.length - 1 : Nat) : Int) := by rw [hs, w64_in (by omega) (by omega)]; omega
  rw [hw]
  obtain ⟨hl, hv, hc, hcase⟩ := h.p1.slcE
  rcases hcase with ⟨_, h0, _⟩ | ⟨b, post, ha, hp, _⟩
  · omega
  refine sb_view ha (by omega) (by omega) (by omega) fun s1 hs1 ha1 => ?_
  have ha1 := ha1 (by simp; omega)
  simp only [Int.toNat_zero, Nat.zero_mul, Nat.sub_zero, Int.toNat_natCast, add_off, Nat.add_zero] at hs1 ha1
  refine al.mk h fun b0 w2 h => ?_
  refine ⟨(by first | exact h.cell rfl | exact h.p1.cell rfl | exact h.p2.cell rfl | exact h.p3.cell rfl | exact h.p4.cell rfl), (by first | exact h.cell rfl | exact h.p1.cell rfl | exact h.p2.cell rfl | exact h.p3.cell rfl | exact h.p4.cell rfl), ?_⟩
  have h := h.slcNew (n := 0) (sz := 1) rfl (by simp)
  refine ef.append slT_int (by decide) (us := (ints m.lv).take (m.lv.length - 1)) h (by simp [hs1]) (fun e => by rw [ha1] at e; cases e) (fun a e j u hu => ?_) (fun v hv' => hv v (List.mem_of_mem_take hv')) (by simp only [hs1]; omega) fun s' w3 hl' h => ?_
  · rw [ha1] at e; cases e
    have := h.p2.slc_cells ha j u (by rw [List.getElem?_take] at hu; split at hu; exact hu; cases hu)
    exact this
  have h := h.p1
  repeat (first | refine nn.mk ?_ | refine ldI.mk (by first | exact h.cell rfl | exact h.p1.cell rfl | exact h.p2.cell rfl | exact h.p3.cell rfl | exact h.p4.cell rfl) ?_ | refine ldB.mk (by first | exact h.cell rfl | exact h.p1.cell rfl | exact h.p2.cell rfl | exact h.p3.cell rfl | exact h.p4.cell rfl) ?_ | refine ldP.mk (by first | exact h.cell rfl | exact h.p1.cell rfl | exact h.p2.cell rfl | exact h.p3.cell rfl | exact h.p4.cell rfl) ?_ | refine ldS.mk (by first | exact h.cell rfl | exact h.p1.cell rfl | exact h.p2.cell rfl | exact h.p3.cell rfl | exact h.p4.cell rfl) ?_ | refine ldM.mk (by first | exact h.cell rfl | exact h.p1.cell rfl | exact h.p2.cell rfl | exact h.p3.cell rfl | exact h.p4.cell rfl) ?_)
  refine st1.mk h (by simp) fun w4 h => ?_
  refine k w4 (placeI (s := s') (m := { m with lv := m.lv.take (m.lv.length - 1) }) ?_)
  have : ints (m.lv.take (m.lv.length - 1)) = [] ++ (ints m.lv).take (m.lv.length - 1) := by simp [ints]
  rw [this]
  exact h.p2.drop

end Go.Proofs.Ytbpdkchglmpnkaa.B
