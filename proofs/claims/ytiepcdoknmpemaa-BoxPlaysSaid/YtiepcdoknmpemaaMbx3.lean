/- Contracts of the package mbx: receiving, the row of messages. -/
import Derived.Test.YtiepcdoknmpemaaMbx2
namespace Go.Proofs.Ytiepcdoknmpemaa.B
open Go
set_option linter.unusedVariables false

structure RecvR where
  msg : Int
  ok : Bool
  code : Int
  ms : List (Int × Int)
  l : List (Int × Int)

def recvM (byPri : Bool) (ms l : List (Int × Int)) (task pri : Int) : RecvR :=
  match ms with
  | x :: r => ⟨x.1, true, 0, r, l⟩
  | [] => ⟨0, false, (addL byPri l task pri).1, [], (addL byPri l task pri).2⟩

theorem Recv_mbx {e w L b p mp most byPri ms l task pri R} (h : Ok e (boxP b p mp most ms :: lineP p [.bool byPri] l :: L) w) (hm : ms.length ≤ 2 ^ 20) (hb : l.length ≤ 2 ^ 20)
    (k : ∀ w', Ok e (boxP b p mp most (recvM byPri ms l task pri).ms :: lineP p [.bool byPri] (recvM byPri ms l task pri).l :: L) w' → R [.int .i64 (recvM byPri ms l task pri).msg, .bool (recvM byPri ms l task pri).ok, .int .i64 (recvM byPri ms l task pri).code] w') : sh12 (some ⟨b, 0, none⟩) task pri R w := by
  unfold sh12
  refine call10 (Poll_mbx h hm fun w1 h => ⟨((ms.head?.getD (0, 0)).1, !ms.isEmpty, ()), rfl, ?_⟩)
  dsimp only
  cases ms with
  | cons x r => exact cs.yes rfl (k w1 h)
  | nil =>
    refine cs.no rfl ?_
    obtain ⟨s, hs, h⟩ := boxE h
    refine nn.mk (ldP.mk (h.cell rfl) ?_)
    refine call32 (Add_order h.p2 hb fun w2 h => ⟨((addL byPri l task pri).1, ()), rfl, ?_⟩)
    exact k w2 (boxI (s := s) h.q2)

theorem Messages_mbx {e w L b p mp most ms R} (h : Ok e (boxP b p mp most ms :: L) w) (hm : ms.length ≤ 2 ^ 20)
    (k : ∀ s w', s.len = ms.length → Ok e (slc 1 s (ints (ms.map Prod.fst)) :: boxP b p mp most ms :: L) w' → R [vS s] w') : sh11 (some ⟨b, 0, none⟩) R w := by
  unfold sh11
  obtain ⟨s, hs, h⟩ := boxE h
  refine nn.mk (ldS.mk (h.cell rfl) ?_)
  refine lp.mk (fun t w' => ∃ n : Nat, t.2.1 = (n : Int) ∧ n ≤ ms.length ∧ Ok e (slc 1 t.1 (ints ((ms.take n).map Prod.fst)) :: pts b [.pointer (some ⟨p, 0, none⟩), .bool mp, .int .i64 most, vS s] :: slc 2 s (prs ms) :: L) w')
    (fun t _ => ms.length - t.2.1.toNat) ⟨0, rfl, Nat.zero_le _, h.slcNil 1⟩ ?_
  clear h
  rintro ⟨out, i, _⟩ w1 ⟨n, hn, hnl, h⟩
  dsimp only at hn h
  subst hn
  have hout := h.slc_len
  rw [ints_len, List.length_map, List.length_take] at hout
  refine cs.mk (fun hlt => ?_) (fun hge => ?_)
  · have hlt : n < ms.length := by have := of_decide_eq_true hlt; dsimp only at this; omega
    refine ix_pr h.p2 (by simp) (by simpa using hlt) fun c o q hq _ _ c1 c2 => ldI.mk (c1 _ ⟨_, h.p2⟩) (ldI.mk (c2 _ ⟨_, h.p2⟩) ?_)
    rw [Int.toNat_natCast] at hq
    refine al.mk h fun d w2 h => st1.mk h (by simp) fun w3 h => st1.mk h (by simp) fun w4 h => ldI.mk (h.cell rfl) ?_
    refine al.mk h.drop fun d2 w5 h => ?_
    refine ef.append1 (n := 1) slT_int (by decide) h rfl (by intro v hv; simp at hv; subst hv; rfl) (by dsimp only; omega) fun r w6 hr h => ?_
    refine ⟨⟨n + 1, ?_, hlt, ?_⟩, ?_⟩
    · show w64 ((n : Int) + 1) = _
      rw [w64_in (by omega) (by omega)]; rfl
    · rw [List.take_add_one, hq, List.map_append]
      simpa [ints] using h
    · show _ - (w64 ((n : Int) + 1)).toNat < _ - Int.toNat (n : Int)
      rw [w64_in (by omega) (by omega)]
      omega
  · have hge : ms.length ≤ n := by have := of_decide_eq_false hge; dsimp only at this; omega
    rw [List.take_of_length_le hge] at h
    refine call31 (Clip_int h fun s2 w2 hl2 h => ⟨(s2, ()), rfl, ?_⟩)
    exact k s2 w2 (by dsimp only at hl2; omega) (boxI (s := s) h.q2).p1

end Go.Proofs.Ytiepcdoknmpemaa.B
