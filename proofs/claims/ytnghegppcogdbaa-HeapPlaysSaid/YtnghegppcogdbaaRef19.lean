/- Contracts of the laws' own pool of any sizes: gaps, finding. -/
import Derived.Test.YtnghegppcogdbaaMpl6
import Derived.Test.YtnghegppcogdbaaRef4
namespace Go.Proofs.Ytnghegppcogdbaa.B
open Go
set_option linter.unusedVariables false

theorem Align8_ref1 {e w L z R} (h : Ok e L w) (hz : 0 ≤ z ∧ z ≤ 65536) (k : ∀ w', Ok e L w' → R [.int .i64 ((z + 7) / 8 * 8)] w') : sh79 z 8 R w := by
  unfold sh79
  refine jn.bool (false) (fun J hJ => ?_) ?_
  · refine cs.no (decide_eq_false (by omega)) ?_
    rw [show decide (z > 1073741824) = false from decide_eq_false (by omega)]
    exact hJ
  refine jn.bool (false) (fun J hJ => ?_) ?_
  · exact cs.no rfl hJ
  refine jn.bool (false) (fun J hJ => ?_) ?_
  · exact cs.no rfl hJ
  refine jn.bool (decide (z % 8 = 0)) (fun J hJ => ?_) ?_
  · refine cs.no rfl (ob.mk (by decide) ?_)
    rw [Int.tmod_eq_emod_of_nonneg (by omega), show (z % 8 == 0) = decide (z % 8 = 0) by rw [Bool.eq_iff_iff, beq_iff_eq, decide_eq_true_iff]]
    exact hJ
  refine cs.mk (fun h1 => ?_) (fun h1 => ob.mk (by decide) ?_)
  · have h1 := of_decide_eq_true h1
    have := k _ h
    rw [show (z + 7) / 8 * 8 = z by omega] at this
    exact this
  · have h1 := of_decide_eq_false h1
    rw [Int.tmod_eq_emod_of_nonneg (by omega), w64_in (x := z + 8) (by omega) (by omega), w64_in (by omega) (by omega)]
    have := k _ h
    rw [show (z + 7) / 8 * 8 = z + 8 - z % 8 by omega] at this
    exact this

theorem takes_ref19 {e w L n R} (h : Ok e L w) (hn : 0 ≤ n ∧ n ≤ 65536) (k : ∀ w', Ok e L w' → R [.int .i64 (tk n)] w') : sh66 n R w := by
  unfold sh66
  refine call79 (Align8_ref1 h hn fun w1 h => ⟨((n + 7) / 8 * 8, ()), rfl, ?_⟩)
  dsimp only
  rw [w64_in (by omega) (by omega)]
  exact k w1 h

abbrev rlC (p : Nat) (W : List Int) (a z : Int) (s : Sl) : List Value := .pointer (some ⟨p, 0, none⟩) :: (ints W ++ [.int .i64 a, .int .i64 z, vS s])

theorem rlC_a {p W a z s} (hW : W.length = 17) : (rlC p W a z s)[0 + 18]? = some (.int .i64 a) := by
  show (ints W ++ [.int .i64 a, .int .i64 z, vS s])[17]? = _
  rw [List.getElem?_append_right (by rw [ints_len]; omega), ints_len, hW]; rfl

theorem rlC_z {p W a z s} (hW : W.length = 17) : (rlC p W a z s)[0 + 19]? = some (.int .i64 z) := by
  show (ints W ++ [.int .i64 a, .int .i64 z, vS s])[18]? = _
  rw [List.getElem?_append_right (by rw [ints_len]; omega), ints_len, hW]; rfl

theorem rlC_s {p W a z s} (hW : W.length = 17) : (rlC p W a z s)[0 + 20]? = some (vS s) := by
  show (ints W ++ [.int .i64 a, .int .i64 z, vS s])[19]? = _
  rw [List.getElem?_append_right (by rw [ints_len]; omega), ints_len, hW]; rfl

theorem rlC_w {p W a z s} {i : Nat} {x : Int} (h : W[i]? = some x) : (rlC p W a z s)[0 + 1 + i * 1]? = some (.int .i64 x) := by
  rw [show 0 + 1 + i * 1 = i + 1 by omega]
  show (ints W ++ [.int .i64 a, .int .i64 z, vS s])[i]? = _
  have hlt := (List.getElem?_eq_some_iff.1 h).1
  rw [List.getElem?_append_left (by rw [ints_len]; exact hlt)]
  exact ints_get h

theorem rlC_setS {p W a z s s'} (hW : W.length = 17) : (rlC p W a z s).set (0 + 20) (vS s') = rlC p W a z s' := by
  show _ :: (ints W ++ [.int .i64 a, .int .i64 z, vS s]).set 19 (vS s') = _
  rw [List.set_append_right _ _ (by rw [ints_len]; omega), ints_len, hW]; rfl

theorem rlC_setW {p W a z s} {i : Nat} {x : Int} (h : i < W.length) : (rlC p W a z s).set (0 + 1 + i * 1) (.int .i64 x) = rlC p (W.set i x) a z s := by
  rw [show 0 + 1 + i * 1 = i + 1 by omega]
  show _ :: (ints W ++ [.int .i64 a, .int .i64 z, vS s]).set i (.int .i64 x) = _
  rw [List.set_append_left _ _ (by rw [ints_len]; exact h)]
  simp [rlC, ints, List.map_set]

theorem rlC_len {p W a z s} (hW : W.length = 17) : (rlC p W a z s).length = 21 := by simp [hW]

def heldW (S : List (Int × Int)) (g : Int → Int) (W : List Int) : Prop := W.length = 17 ∧ ∀ i ∈ ids S, W[i.toNat]? = some (g i)

def rplP (u : Nat) (byPri : Bool) (a z : Int) (q : LP) : SP := fun h => ∃ p s W, heldW q.S q.g W ∧ oksH [pts u (rlC p W a z s), refP p byPri q.S, slc 2 s (prs q.L)] h

theorem rplE {e w L u byPri a z q} (h : Ok e (rplP u byPri a z q :: L) w) : ∃ p s W, heldW q.S q.g W ∧ s.len = q.L.length ∧ Ok e (pts u (rlC p W a z s) :: refP p byPri q.S :: slc 2 s (prs q.L) :: L) w := by
  obtain ⟨p, h⟩ := h.exE
  obtain ⟨s, h⟩ := h.exE
  obtain ⟨W, h⟩ := h.exE
  obtain ⟨hf, h⟩ := h.pureE
  have h := h.unpack
  exact ⟨p, s, W, hf, slc_prs_len h.p2, h⟩

theorem rplI {e w L u byPri a z q p s W} (hf : heldW q.S q.g W) (h : Ok e (pts u (rlC p W a z s) :: refP p byPri q.S :: slc 2 s (prs q.L) :: L) w) : Ok e (rplP u byPri a z q :: L) w :=
  (Ok.pack (M := [pts u (rlC p W a z s), refP p byPri q.S, slc 2 s (prs q.L)]) h).imp fun k hk => ⟨p, s, W, hf, hk⟩

theorem may_ref19 {e w L b byPri a z q n R} (h : Ok e (rplP b byPri a z q :: L) w) (ho : LPo a z q)
    (k : R [.bool (decide (1 ≤ n ∧ n ≤ z - 8))] w) : sh41 (some ⟨b, 0, none⟩) n R w := by
  unfold sh41
  have hc := ho.c
  obtain ⟨p, s, W, hf, hs, h⟩ := rplE h
  have hW := hf.1
  refine jn.bool (decide (1 ≤ n ∧ n ≤ z - 8)) (fun J hJ => ?_) ?_
  · refine cs.mk (fun h1 => ?_) (fun h1 => ?_)
    · have h1 := of_decide_eq_true h1
      refine nn.mk (ldI.mk (Ok.cellS h (by with_reducible first | exact sl0 | exact .there sl0 | exact .there sl1 | exact .there sl2 | exact .there sl3 | exact .there sl4 | exact .there sl5 | exact .there sl6 | exact .there sl7 | exact .there sl8 | exact .there sl9 | exact .there sl10 | exact .there sl11 | exact .there sl12) (rlC_z hW)) ?_)
      rw [w64_in (x := z - 8) (by omega) (by omega)]
      rw [show decide (1 ≤ n ∧ n ≤ z - 8) = decide (n ≤ z - 8) from decide_eq_decide.2 (by omega)] at hJ
      exact hJ
    · have h1 := of_decide_eq_false h1
      rw [decide_eq_false (by omega)] at hJ
      exact hJ
  exact k

end Go.Proofs.Ytnghegppcogdbaa.B
