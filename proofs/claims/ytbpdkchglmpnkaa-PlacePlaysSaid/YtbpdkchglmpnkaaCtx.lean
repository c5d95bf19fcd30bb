/- Contracts of the package ctx. -/
import Derived.Test.YtbpdkchglmpnkaaInts
namespace Go.Proofs.Ytbpdkchglmpnkaa.B
open Go
set_option linter.unusedVariables false

/-- where the kernel is -/
structure PlaceM where
  lv : List Int
  locked : Bool
  disabled : Bool
  deriving DecidableEq

namespace PlaceM

def inn (m : PlaceM) : Bool := decide ((m.lv.length : Int) > 0)

def dispatch (m : PlaceM) : Bool := !m.inn && !m.locked && !m.disabled

/-- the top level -/
def top (m : PlaceM) : Int := m.lv.getLast?.getD 0

def enter (m : PlaceM) (l : Int) : Int × PlaceM :=
  if l < 1 ∨ l > 15 then (-17, m)
  else if m.locked ∨ (m.inn ∧ l ≤ m.top) then (-25, m)
  else (0, { m with lv := m.lv ++ [l] })

def exit (m : PlaceM) : Int × PlaceM :=
  if m.inn then (0, { m with lv := m.lv.take (m.lv.length - 1) }) else (-25, m)

def ok3 (m : PlaceM) (k : Int) : Bool := if k = 3 then m.inn && !m.locked else false

def ok2 (m : PlaceM) (k : Int) (idle : Bool) : Bool := if k = 2 then ((!m.inn && !idle) && !m.locked) && !m.disabled else m.ok3 k

def ok1 (m : PlaceM) (k : Int) (idle : Bool) : Bool := if k = 1 then (!m.inn && !idle) && !m.locked else m.ok2 k idle

def ok4 (m : PlaceM) (k : Int) (idle : Bool) : Bool := if k = 4 then !m.inn && !idle else m.ok1 k idle

def ok (m : PlaceM) (k : Int) (idle : Bool) : Bool := if k = 0 then true else m.ok4 k idle

def may (m : PlaceM) (k : Int) (idle : Bool) : Int := if m.ok k idle then 0 else -25

end PlaceM

def placeP (p : Nat) (m : PlaceM) : SP := fun h => ∃ s, oksH [pts p [vS s, .bool m.locked, .bool m.disabled], slc 1 s (ints m.lv)] h

theorem placeE {e w L p m} (h : Ok e (placeP p m :: L) w) : ∃ s, s.len = m.lv.length ∧ Ok e (pts p [vS s, .bool m.locked, .bool m.disabled] :: slc 1 s (ints m.lv) :: L) w := by
  obtain ⟨s, h⟩ := h.exE
  have h := h.unpack
  refine ⟨s, ?_, h⟩
  have := h.p1.slc_len
  rw [ints_len] at this
  omega

theorem placeI {e w L p m s} (h : Ok e (pts p [vS s, .bool m.locked, .bool m.disabled] :: slc 1 s (ints m.lv) :: L) w) : Ok e (placeP p m :: L) w :=
  (Ok.pack (M := [pts p [vS s, .bool m.locked, .bool m.disabled], slc 1 s (ints m.lv)]) h).imp fun k hk => ⟨s, hk⟩

theorem New_ctx {e w L R} (h : Ok e L w) (k : ∀ p w', Ok e (placeP p ⟨[], false, false⟩ :: L) w' → R [.pointer (some ⟨p, 0, none⟩)] w') : sh8 R w := by
  unfold sh8
  refine al.mk h fun p w1 h => k p w1 ?_
  exact placeI (s := ⟨none, 0, 0⟩) (m := ⟨[], false, false⟩) (h.slcNil 1).p1

theorem In_ctx {e w L p m R} (h : Ok e (placeP p m :: L) w) (k : R [.bool m.inn] w) : sh10 (some ⟨p, 0, none⟩) R w := by
  obtain ⟨s, hs, h⟩ := placeE h
  unfold sh10
  repeat (first | refine nn.mk ?_ | refine ldI.mk (by first | exact h.cell rfl | exact h.p1.cell rfl | exact h.p2.cell rfl | exact h.p3.cell rfl | exact h.p4.cell rfl) ?_ | refine ldB.mk (by first | exact h.cell rfl | exact h.p1.cell rfl | exact h.p2.cell rfl | exact h.p3.cell rfl | exact h.p4.cell rfl) ?_ | refine ldP.mk (by first | exact h.cell rfl | exact h.p1.cell rfl | exact h.p2.cell rfl | exact h.p3.cell rfl | exact h.p4.cell rfl) ?_ | refine ldS.mk (by first | exact h.cell rfl | exact h.p1.cell rfl | exact h.p2.cell rfl | exact h.p3.cell rfl | exact h.p4.cell rfl) ?_ | refine ldM.mk (by first | exact h.cell rfl | exact h.p1.cell rfl | exact h.p2.cell rfl | exact h.p3.cell rfl | exact h.p4.cell rfl) ?_)
  rw [hs]; exact k

theorem Locked_ctx {e w L p m R} (h : Ok e (placeP p m :: L) w) (k : R [.bool m.locked] w) : sh21 (some ⟨p, 0, none⟩) R w := by
  obtain ⟨s, hs, h⟩ := placeE h
  unfold sh21
  repeat (first | refine nn.mk ?_ | refine ldI.mk (by first | exact h.cell rfl | exact h.p1.cell rfl | exact h.p2.cell rfl | exact h.p3.cell rfl | exact h.p4.cell rfl) ?_ | refine ldB.mk (by first | exact h.cell rfl | exact h.p1.cell rfl | exact h.p2.cell rfl | exact h.p3.cell rfl | exact h.p4.cell rfl) ?_ | refine ldP.mk (by first | exact h.cell rfl | exact h.p1.cell rfl | exact h.p2.cell rfl | exact h.p3.cell rfl | exact h.p4.cell rfl) ?_ | refine ldS.mk (by first | exact h.cell rfl | exact h.p1.cell rfl | exact h.p2.cell rfl | exact h.p3.cell rfl | exact h.p4.cell rfl) ?_ | refine ldM.mk (by first | exact h.cell rfl | exact h.p1.cell rfl | exact h.p2.cell rfl | exact h.p3.cell rfl | exact h.p4.cell rfl) ?_)
  exact k

theorem Disabled_ctx {e w L p m R} (h : Ok e (placeP p m :: L) w) (k : R [.bool m.disabled] w) : sh22 (some ⟨p, 0, none⟩) R w := by
  obtain ⟨s, hs, h⟩ := placeE h
  unfold sh22
  repeat (first | refine nn.mk ?_ | refine ldI.mk (by first | exact h.cell rfl | exact h.p1.cell rfl | exact h.p2.cell rfl | exact h.p3.cell rfl | exact h.p4.cell rfl) ?_ | refine ldB.mk (by first | exact h.cell rfl | exact h.p1.cell rfl | exact h.p2.cell rfl | exact h.p3.cell rfl | exact h.p4.cell rfl) ?_ | refine ldP.mk (by first | exact h.cell rfl | exact h.p1.cell rfl | exact h.p2.cell rfl | exact h.p3.cell rfl | exact h.p4.cell rfl) ?_ | refine ldS.mk (by first | exact h.cell rfl | exact h.p1.cell rfl | exact h.p2.cell rfl | exact h.p3.cell rfl | exact h.p4.cell rfl) ?_ | refine ldM.mk (by first | exact h.cell rfl | exact h.p1.cell rfl | exact h.p2.cell rfl | exact h.p3.cell rfl | exact h.p4.cell rfl) ?_)
  exact k

theorem Lock_ctx {e w L p m b R} (h : Ok e (placeP p m :: L) w) (k : ∀ w', Ok e (placeP p { m with locked := b } :: L) w' → R [] w') : sh13 (some ⟨p, 0, none⟩) b R w := by
  obtain ⟨s, hs, h⟩ := placeE h
  unfold sh13
  repeat (first | refine nn.mk ?_ | refine ldI.mk (by first | exact h.cell rfl | exact h.p1.cell rfl | exact h.p2.cell rfl | exact h.p3.cell rfl | exact h.p4.cell rfl) ?_ | refine ldB.mk (by first | exact h.cell rfl | exact h.p1.cell rfl | exact h.p2.cell rfl | exact h.p3.cell rfl | exact h.p4.cell rfl) ?_ | refine ldP.mk (by first | exact h.cell rfl | exact h.p1.cell rfl | exact h.p2.cell rfl | exact h.p3.cell rfl | exact h.p4.cell rfl) ?_ | refine ldS.mk (by first | exact h.cell rfl | exact h.p1.cell rfl | exact h.p2.cell rfl | exact h.p3.cell rfl | exact h.p4.cell rfl) ?_ | refine ldM.mk (by first | exact h.cell rfl | exact h.p1.cell rfl | exact h.p2.cell rfl | exact h.p3.cell rfl | exact h.p4.cell rfl) ?_)
  refine st1.mk h (by simp) fun w1 h => k w1 (placeI (m := { m with locked := b }) h)

theorem Disable_ctx {e w L p m b R} (h : Ok e (placeP p m :: L) w) (k : ∀ w', Ok e (placeP p { m with disabled := b } :: L) w' → R [] w') : sh15 (some ⟨p, 0, none⟩) b R w := by
  obtain ⟨s, hs, h⟩ := placeE h
  unfold sh15
  repeat (first | refine nn.mk ?_ | refine ldI.mk (by first | exact h.cell rfl | exact h.p1.cell rfl | exact h.p2.cell rfl | exact h.p3.cell rfl | exact h.p4.cell rfl) ?_ | refine ldB.mk (by first | exact h.cell rfl | exact h.p1.cell rfl | exact h.p2.cell rfl | exact h.p3.cell rfl | exact h.p4.cell rfl) ?_ | refine ldP.mk (by first | exact h.cell rfl | exact h.p1.cell rfl | exact h.p2.cell rfl | exact h.p3.cell rfl | exact h.p4.cell rfl) ?_ | refine ldS.mk (by first | exact h.cell rfl | exact h.p1.cell rfl | exact h.p2.cell rfl | exact h.p3.cell rfl | exact h.p4.cell rfl) ?_ | refine ldM.mk (by first | exact h.cell rfl | exact h.p1.cell rfl | exact h.p2.cell rfl | exact h.p3.cell rfl | exact h.p4.cell rfl) ?_)
  refine st1.mk h (by simp) fun w1 h => k w1 (placeI (m := { m with disabled := b }) h)

theorem Dispatch_ctx {e w L p m R} (h : Ok e (placeP p m :: L) w) (k : R [.bool m.dispatch] w) : sh11 (some ⟨p, 0, none⟩) R w := by
  unfold sh11
  refine call10 (In_ctx h ⟨(m.inn, ()), rfl, ?_⟩)
  dsimp only
  obtain ⟨s, hs, h⟩ := placeE h
  refine jn.bool (!m.inn && !m.locked) (fun J hJ => cs.mk (fun h1 => ?_) (fun h1 => ?_)) ?_
  · repeat (first | refine nn.mk ?_ | refine ldI.mk (by first | exact h.cell rfl | exact h.p1.cell rfl | exact h.p2.cell rfl | exact h.p3.cell rfl | exact h.p4.cell rfl) ?_ | refine ldB.mk (by first | exact h.cell rfl | exact h.p1.cell rfl | exact h.p2.cell rfl | exact h.p3.cell rfl | exact h.p4.cell rfl) ?_ | refine ldP.mk (by first | exact h.cell rfl | exact h.p1.cell rfl | exact h.p2.cell rfl | exact h.p3.cell rfl | exact h.p4.cell rfl) ?_ | refine ldS.mk (by first | exact h.cell rfl | exact h.p1.cell rfl | exact h.p2.cell rfl | exact h.p3.cell rfl | exact h.p4.cell rfl) ?_ | refine ldM.mk (by first | exact h.cell rfl | exact h.p1.cell rfl | exact h.p2.cell rfl | exact h.p3.cell rfl | exact h.p4.cell rfl) ?_)
    simpa [show m.inn = false by simpa using h1] using hJ
  · simpa [show m.inn = true by simpa using h1] using hJ
  dsimp only
  refine jn.bool m.dispatch (fun J hJ => cs.mk (fun h1 => ?_) (fun h1 => ?_)) k
  · repeat (first | refine nn.mk ?_ | refine ldI.mk (by first | exact h.cell rfl | exact h.p1.cell rfl | exact h.p2.cell rfl | exact h.p3.cell rfl | exact h.p4.cell rfl) ?_ | refine ldB.mk (by first | exact h.cell rfl | exact h.p1.cell rfl | exact h.p2.cell rfl | exact h.p3.cell rfl | exact h.p4.cell rfl) ?_ | refine ldP.mk (by first | exact h.cell rfl | exact h.p1.cell rfl | exact h.p2.cell rfl | exact h.p3.cell rfl | exact h.p4.cell rfl) ?_ | refine ldS.mk (by first | exact h.cell rfl | exact h.p1.cell rfl | exact h.p2.cell rfl | exact h.p3.cell rfl | exact h.p4.cell rfl) ?_ | refine ldM.mk (by first | exact h.cell rfl | exact h.p1.cell rfl | exact h.p2.cell rfl | exact h.p3.cell rfl | exact h.p4.cell rfl) ?_)
    simpa [PlaceM.dispatch, h1] using hJ
  · simpa [PlaceM.dispatch, h1] using hJ

theorem may_ctx {e w L p m kd idle R} (h : Ok e (placeP p m :: L) w) (k : R [.bool (m.ok kd idle)] w) : sh27 (some ⟨p, 0, none⟩) kd idle R w := by
  unfold sh27
  refine call10 (In_ctx h ⟨(m.inn, ()), rfl, ?_⟩)
  dsimp only
  have h0 := h
  obtain ⟨s, hs, h⟩ := placeE h
  refine jn.bool (!m.inn && !idle) (fun J hJ => cs.mk (fun h1 => ?_) (fun h1 => ?_)) ?_
  · simpa [show m.inn = false by simpa using h1] using hJ
  · simpa [show m.inn = true by simpa using h1] using hJ
  dsimp only
  simp only [PlaceM.ok, PlaceM.ok4, PlaceM.ok1, PlaceM.ok2, PlaceM.ok3] at k
  refine cs.mk (fun h0 => ?_) (fun n0 => ?_)
  · rw [if_pos (by simpa using h0)] at k; exact k
  rw [if_neg (by simpa using n0)] at k
  refine cs.mk (fun h0 => ?_) (fun n1 => ?_)
  · rw [if_pos (by simpa using h0)] at k; exact k
  rw [if_neg (by simpa using n1)] at k
  refine cs.mk (fun h0 => ?_) (fun n2 => ?_)
  · rw [if_pos (by simpa using h0)] at k
    refine jn.bool ((!m.inn && !idle) && !m.locked) (fun J hJ => cs.mk (fun h1 => ?_) (fun h1 => ?_)) k
    · repeat (first | refine nn.mk ?_ | refine ldI.mk (by first | exact h.cell rfl | exact h.p1.cell rfl | exact h.p2.cell rfl | exact h.p3.cell rfl | exact h.p4.cell rfl) ?_ | refine ldB.mk (by first | exact h.cell rfl | exact h.p1.cell rfl | exact h.p2.cell rfl | exact h.p3.cell rfl | exact h.p4.cell rfl) ?_ | refine ldP.mk (by first | exact h.cell rfl | exact h.p1.cell rfl | exact h.p2.cell rfl | exact h.p3.cell rfl | exact h.p4.cell rfl) ?_ | refine ldS.mk (by first | exact h.cell rfl | exact h.p1.cell rfl | exact h.p2.cell rfl | exact h.p3.cell rfl | exact h.p4.cell rfl) ?_ | refine ldM.mk (by first | exact h.cell rfl | exact h.p1.cell rfl | exact h.p2.cell rfl | exact h.p3.cell rfl | exact h.p4.cell rfl) ?_)
      simpa [h1] using hJ
    · simpa [h1] using hJ
  rw [if_neg (by simpa using n2)] at k
  refine cs.mk (fun h0 => ?_) (fun n3 => ?_)
  · rw [if_pos (by simpa using h0)] at k
    refine jn.bool ((!m.inn && !idle) && !m.locked) (fun J hJ => cs.mk (fun h1 => ?_) (fun h1 => ?_)) ?_
    · repeat (first | refine nn.mk ?_ | refine ldI.mk (by first | exact h.cell rfl | exact h.p1.cell rfl | exact h.p2.cell rfl | exact h.p3.cell rfl | exact h.p4.cell rfl) ?_ | refine ldB.mk (by first | exact h.cell rfl | exact h.p1.cell rfl | exact h.p2.cell rfl | exact h.p3.cell rfl | exact h.p4.cell rfl) ?_ | refine ldP.mk (by first | exact h.cell rfl | exact h.p1.cell rfl | exact h.p2.cell rfl | exact h.p3.cell rfl | exact h.p4.cell rfl) ?_ | refine ldS.mk (by first | exact h.cell rfl | exact h.p1.cell rfl | exact h.p2.cell rfl | exact h.p3.cell rfl | exact h.p4.cell rfl) ?_ | refine ldM.mk (by first | exact h.cell rfl | exact h.p1.cell rfl | exact h.p2.cell rfl | exact h.p3.cell rfl | exact h.p4.cell rfl) ?_)
      simpa [h1] using hJ
    · simpa [h1] using hJ
    dsimp only
    refine jn.bool (((!m.inn && !idle) && !m.locked) && !m.disabled) (fun J hJ => cs.mk (fun h1 => ?_) (fun h1 => ?_)) k
    · repeat (first | refine nn.mk ?_ | refine ldI.mk (by first | exact h.cell rfl | exact h.p1.cell rfl | exact h.p2.cell rfl | exact h.p3.cell rfl | exact h.p4.cell rfl) ?_ | refine ldB.mk (by first | exact h.cell rfl | exact h.p1.cell rfl | exact h.p2.cell rfl | exact h.p3.cell rfl | exact h.p4.cell rfl) ?_ | refine ldP.mk (by first | exact h.cell rfl | exact h.p1.cell rfl | exact h.p2.cell rfl | exact h.p3.cell rfl | exact h.p4.cell rfl) ?_ | refine ldS.mk (by first | exact h.cell rfl | exact h.p1.cell rfl | exact h.p2.cell rfl | exact h.p3.cell rfl | exact h.p4.cell rfl) ?_ | refine ldM.mk (by first | exact h.cell rfl | exact h.p1.cell rfl | exact h.p2.cell rfl | exact h.p3.cell rfl | exact h.p4.cell rfl) ?_)
      simpa [h1] using hJ
    · simpa [h1] using hJ
  rw [if_neg (by simpa using n3)] at k
  refine cs.mk (fun h1 => ?_) (fun n4 => ?_)
  · rw [if_pos (by simpa using h1)] at k
    refine call10 (In_ctx h0 ⟨(m.inn, ()), rfl, ?_⟩)
    dsimp only
    refine jn.bool (m.inn && !m.locked) (fun J hJ => cs.mk (fun h1 => ?_) (fun h1 => ?_)) k
    · repeat (first | refine nn.mk ?_ | refine ldI.mk (by first | exact h.cell rfl | exact h.p1.cell rfl | exact h.p2.cell rfl | exact h.p3.cell rfl | exact h.p4.cell rfl) ?_ | refine ldB.mk (by first | exact h.cell rfl | exact h.p1.cell rfl | exact h.p2.cell rfl | exact h.p3.cell rfl | exact h.p4.cell rfl) ?_ | refine ldP.mk (by first | exact h.cell rfl | exact h.p1.cell rfl | exact h.p2.cell rfl | exact h.p3.cell rfl | exact h.p4.cell rfl) ?_ | refine ldS.mk (by first | exact h.cell rfl | exact h.p1.cell rfl | exact h.p2.cell rfl | exact h.p3.cell rfl | exact h.p4.cell rfl) ?_ | refine ldM.mk (by first | exact h.cell rfl | exact h.p1.cell rfl | exact h.p2.cell rfl | exact h.p3.cell rfl | exact h.p4.cell rfl) ?_)
      simpa [h1] using hJ
    · simpa [h1] using hJ
  · rw [if_neg (by simpa using n4)] at k; exact k

theorem May_ctx {e w L p m kd idle R} (h : Ok e (placeP p m :: L) w) (k : R [.int .i64 (m.may kd idle)] w) : sh16 (some ⟨p, 0, none⟩) kd idle R w := by
  unfold sh16
  repeat (first | refine nn.mk ?_ | refine ldI.mk (by first | exact h.cell rfl | exact h.p1.cell rfl | exact h.p2.cell rfl | exact h.p3.cell rfl | exact h.p4.cell rfl) ?_ | refine ldB.mk (by first | exact h.cell rfl | exact h.p1.cell rfl | exact h.p2.cell rfl | exact h.p3.cell rfl | exact h.p4.cell rfl) ?_ | refine ldP.mk (by first | exact h.cell rfl | exact h.p1.cell rfl | exact h.p2.cell rfl | exact h.p3.cell rfl | exact h.p4.cell rfl) ?_ | refine ldS.mk (by first | exact h.cell rfl | exact h.p1.cell rfl | exact h.p2.cell rfl | exact h.p3.cell rfl | exact h.p4.cell rfl) ?_ | refine ldM.mk (by first | exact h.cell rfl | exact h.p1.cell rfl | exact h.p2.cell rfl | exact h.p3.cell rfl | exact h.p4.cell rfl) ?_)
  refine call27 (may_ctx h ⟨(m.ok kd idle, ()), rfl, ?_⟩)
  dsimp only
  unfold PlaceM.may at k
  refine cs.mk (fun h1 => ?_) (fun h1 => ?_)
  · have h1 : m.ok kd idle = false := by simpa using h1
    rw [h1] at k; exact k
  · have h1 : m.ok kd idle = true := by simpa using h1
    rw [h1] at k; exact k

theorem Levels_ctx {e w L p m R} (h : Ok e (placeP p m :: L) w) (hb : m.lv.length ≤ 2 ^ 31) (k : ∀ s w', s.len = m.lv.length → Ok e (slc 1 s (ints m.lv) :: placeP p m :: L) w' → R [vS s] w') : sh14 (some ⟨p, 0, none⟩) R w := by
  obtain ⟨s, hs, h⟩ := placeE h
  unfold sh14
  repeat (first | refine nn.mk ?_ | refine ldI.mk (by first | exact h.cell rfl | exact h.p1.cell rfl | exact h.p2.cell rfl | exact h.p3.cell rfl | exact h.p4.cell rfl) ?_ | refine ldB.mk (by first | exact h.cell rfl | exact h.p1.cell rfl | exact h.p2.cell rfl | exact h.p3.cell rfl | exact h.p4.cell rfl) ?_ | refine ldP.mk (by first | exact h.cell rfl | exact h.p1.cell rfl | exact h.p2.cell rfl | exact h.p3.cell rfl | exact h.p4.cell rfl) ?_ | refine ldS.mk (by first | exact h.cell rfl | exact h.p1.cell rfl | exact h.p2.cell rfl | exact h.p3.cell rfl | exact h.p4.cell rfl) ?_ | refine ldM.mk (by first | exact h.cell rfl | exact h.p1.cell rfl | exact h.p2.cell rfl | exact h.p3.cell rfl | exact h.p4.cell rfl) ?_)
  refine call26 (Clone_int h.p1 (by omega) fun s1 w1 hl1 h => ⟨(s1, ()), rfl, ?_⟩)
  dsimp only
  refine call25 (Clip_int h fun s2 w2 hl2 h => ⟨(s2, ()), rfl, ?_⟩)
  dsimp only
  exact k s2 w2 (by omega) (placeI h.p2.p2.p1).p1

end Go.Proofs.Ytbpdkchglmpnkaa.B
