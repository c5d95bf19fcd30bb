/- Contracts of the package mbx: standing apart. -/
import Derived.Test.YtiepcdoknmpemaaMbx3
namespace Go.Proofs.Ytiepcdoknmpemaa.B
open Go
set_option linter.unusedVariables false

theorem Apart_mbx {e w L b p mp most byPri ms l R} (h : Ok e (boxP b p mp most ms :: lineP p [.bool byPri] l :: L) w) (hm : ms.length ≤ 2 ^ 20) (hb : l.length ≤ 2 ^ 20)
    (k : ∀ b' p' w', Ok e (boxP b' p' mp most ms :: lineP p' [.bool byPri] l :: boxP b p mp most ms :: lineP p [.bool byPri] l :: L) w' → R [.pointer (some ⟨b', 0, none⟩)] w') : sh22 (some ⟨b, 0, none⟩) R w := by
  unfold sh22
  refine dr.mk h fun w1 h => ?_
  obtain ⟨s, hs, h⟩ := boxE h
  refine nn.mk (ldP.mk (h.cell rfl) (nn.mk (ldB.mk (h.cell rfl) (nn.mk (ldI.mk (h.cell rfl) (nn.mk (ldS.mk (h.cell rfl) ?_)))))))
  refine call41 (Twin_order h.p2 hb fun p' w2 h => ⟨(some ⟨p', 0, none⟩, ()), rfl, h.p2.cell rfl, h.p2.cell rfl, h.p2.cell rfl, ?_⟩)
  refine call42 (Clone_msg h.p3 (by omega) fun s1 w3 hl1 h => ⟨(s1, ()), rfl, h.p4.cell rfl, h.p4.cell rfl, ?_⟩)
  refine al.mk h fun b' w4 h => k b' p' w4 ?_
  exact (boxI (s := s) (boxI (s := s1) (p := p') (mp := mp) (most := most) h).p4.p2.p1).q2

end Go.Proofs.Ytiepcdoknmpemaa.B
