/- A law of layer 11: the two semaphores answer alike. -/
import Derived.Test.YtigpfmgfgelgiaaLaws11
namespace Go.Proofs.Ytigpfmgfgelgiaa.B
open Go
set_option linter.unusedVariables false

theorem addL_len (byPri : Bool) (l : List (Int × Int)) (id pri : Int) : (addL byPri l id pri).2.length ≤ l.length + 1 := by
  unfold addL
  split
  · exact Nat.le_succ _
  · split
    · exact Nat.le_succ _
    · rw [putL_len]; exact Nat.le_refl _

theorem chgL_len (byPri : Bool) (l : List (Int × Int)) (id pri : Int) : (chgL byPri l id pri).2.length ≤ l.length + 1 := by
  unfold chgL
  split
  · exact Nat.le_succ _
  · split
    · rw [putL_len]; exact Nat.succ_le_succ (rmL_len ..)
    · simp

/-- no one waits while something is left -/
def semInv (c m : Int) (l : List (Int × Int)) (n : Nat) : Prop := semOk c m ∧ l.length ≤ n ∧ (0 < c → l = [])

theorem sigM_inv {c m l n} (h : semInv c m l n) : semInv (sigM c m l).c m (sigM c m l).l (n + 1) := by
  obtain ⟨h1, h2, h3⟩ := h
  refine ⟨sigM_ok h1, ?_, ?_⟩
  · cases l with
    | cons x r => simp [sigM] at h2 ⊢; omega
    | nil => simp only [sigM]; split <;> simp
  · cases l with
    | cons x r =>
      intro hc
      have := h3 hc
      cases this
    | nil => intro _; simp only [sigM]; split <;> rfl

theorem waitM_inv {byPri c m l n id pri} (h : semInv c m l n) : semInv (waitM byPri c l id pri).c m (waitM byPri c l id pri).l (n + 1) := by
  obtain ⟨h1, h2, h3⟩ := h
  unfold waitM
  split
  · next h0 =>
    refine ⟨h1, ?_, fun hc => absurd hc (by simp only; omega)⟩
    have := addL_len byPri l id pri
    simp only; omega
  · next h0 =>
    refine ⟨?_, by simp only; omega, fun _ => h3 (by omega)⟩
    simp only [semOk] at *; omega

theorem semInv_mono {c m l n} (h : semInv c m l n) : semInv c m l (n + 1) := ⟨h.1, Nat.le_succ_of_le h.2.1, h.2.2⟩

set_option maxHeartbeats 2000000 in
theorem SemPlays_walk {e : World} {a0 : Bool} {a1 a2 : Int} {a3 : Sl} {vs : List Value} (_ : (Lit.int .i64 a1).wf = true) (_ : (Lit.int .i64 a2).wf = true) (ha : ArgF [.i .i64, .i .i64, .i .i64] e a3 vs) : sh6 a0 a1 a2 a3 (LawEnd e) e := by
  unfold sh6
  refine call7 (known_11 (Ok.start e) fun w1 h => ⟨(true, ()), enc_b rfl, ?_⟩)
  refine cs.no rfl ?_
  refine cs.mk (fun _ => ⟨rfl, h⟩) (fun hc => ?_)
  have hle : a3.len ≤ 100 := by have := of_decide_eq_false hc; omega
  refine call8 (New_sem h (fun h0 => ⟨(none, (-17 : Int), ()), rfl, ?_⟩) fun h0 s p w2 h => ⟨(some ⟨s, 0, none⟩, (0 : Int), ()), rfl, ?_⟩)
  · refine call14 (New_ref11 h (fun h0 => ⟨(none, (-17 : Int), ()), rfl, ?_⟩) fun h1 => absurd h1 h0)
    refine jn.bool false (fun J hJ => cs.no rfl hJ) ?_
    refine cs.no rfl (cs.yes rfl ⟨rfl, h⟩)
  refine call14 (New_ref11 h (fun h1 => absurd h0 h1) fun _ u q w3 h => ⟨(some ⟨u, 0, none⟩, (0 : Int), ()), rfl, ?_⟩)
  refine jn.bool false (fun J hJ => cs.no rfl hJ) ?_
  refine cs.no rfl (cs.no rfl ?_)
  have h : Ok e [pts s (semC p a1 a2), lineP p [.bool a0] [], pts u (semC q a1 a2), refP q a0 [], old e] w3 := h.p3.p3
  let G : Nat → TK [kP] → World → Prop := fun n t w' => ∃ s p c l, t.1 = some ⟨s, 0, none⟩ ∧ semInv c a2 l n ∧ Ok e [pts s (semC p c a2), lineP p [.bool a0] l, pts u (semC q c a2), refP q a0 l, old e] w'
  refine lp.mk (fun t w' => ∃ s p c l, ∃ n : Nat, t.1 = some ⟨s, 0, none⟩ ∧ t.2.1 = (n : Int) ∧ n ≤ a3.len ∧ semInv c a2 l n ∧ Ok e [pts s (semC p c a2), lineP p [.bool a0] l, pts u (semC q c a2), refP q a0 l, old e] w')
    (fun t _ => a3.len - t.2.1.toNat) ⟨s, p, a1, [], 0, rfl, rfl, Nat.zero_le _, ⟨h0, Nat.le_refl _, fun _ => rfl⟩, h⟩ ?_
  clear h
  rintro ⟨t1, i, _⟩ w3 ⟨s, p, c, l, n, ht, hn, hn1, hinv, h⟩
  dsimp only at ht hn
  subst ht hn
  refine cs.mk (fun hlt => ?_) (fun hge => ⟨rfl, h.drop.drop.drop.drop⟩)
  have hlt : n < a3.len := by have := of_decide_eq_true hlt; dsimp only at this; omega
  obtain ⟨_, hv0, kd, rfl, _⟩ := ha.2 n hlt 0 _ rfl
  obtain ⟨_, hv1, id, rfl, _⟩ := ha.2 n hlt 1 _ rfl
  obtain ⟨_, hv2, pri, rfl, _⟩ := ha.2 n hlt 2 _ rfl
  refine ix_args ha.1 (by decide) (by simp) (by simpa using hlt) fun b1 o hh => ?_
  refine ldI.mk (hh 0 _ (by decide) (by simpa using hv0) _ ⟨_, h.p4⟩) ?_
  refine ldI.mk (hh 1 _ (by decide) (by simpa using hv1) _ ⟨_, h.p4⟩) ?_
  refine ldI.mk (hh 2 _ (by decide) (by simpa using hv2) _ ⟨_, h.p4⟩) ?_
  clear hh
  refine al.mk h fun b w4 h => st1.mk h (by simp) fun w5 h => st1.mk h (by simp) fun w6 h => st1.mk h (by simp) fun w7 h => ?_
  have h : Ok e [pts b [.int .i64 kd, .int .i64 id, .int .i64 pri], pts s (semC p c a2), lineP p [.bool a0] l, pts u (semC q c a2), refP q a0 l, old e] w7 := h
  have hb : l.length ≤ 2 ^ 20 := by have := hinv.2.1; omega
  refine ldI.mk (h.cell rfl) ?_
  refine jn.all (G (n + 1)) (fun J hJ => ?_) (fun t w' hw => ?_)
  · refine cs.mk (fun _ => ?_) (fun _ => ?_)
    · refine call9 (Signal_sem h.p1.p2.p1 hb hinv.1 fun w8 h => ⟨((sigM c a2 l).id, (sigM c a2 l).code, ()), rfl, ?_⟩)
      refine call15 (Signal_ref11 h.p4.p4 hb hinv.1 fun w9 h => ⟨((sigM c a2 l).id, (sigM c a2 l).code, ()), rfl, ?_⟩)
      dsimp only
      refine jn.bool false (fun J1 hJ1 => cs.no (by simp) (by simpa using hJ1)) ?_
      exact cs.no rfl (hJ _ _ ⟨s, p, _, _, rfl, sigM_inv hinv, h.p4.drop.p3.p3⟩)
    refine jn.all (G (n + 1)) (fun J1 hJ1 => ?_) (fun t w' hw => hJ t w' hw)
    refine cs.mk (fun _ => ?_) (fun _ => ?_)
    · refine ldI.mk (h.cell rfl) (ldI.mk (h.cell rfl) ?_)
      refine call12 (Wait_sem h.p1.p2.p1 hb hinv.1 fun w8 h => ⟨((waitM a0 c l id pri).ok, (waitM a0 c l id pri).code, ()), rfl, ?_⟩)
      refine ldI.mk (h.p2.cell rfl) (ldI.mk (h.p2.cell rfl) ?_)
      refine call16 (Wait_ref11 h.p4.p4 hb hinv.1 fun w9 h => ⟨((waitM a0 c l id pri).ok, (waitM a0 c l id pri).code, ()), rfl, ?_⟩)
      dsimp only
      refine jn.bool false (fun J2 hJ2 => cs.no (by simp) (by simpa using hJ2)) ?_
      exact cs.no rfl (hJ1 _ _ ⟨s, p, _, _, rfl, waitM_inv hinv, h.p4.drop.p3.p3⟩)
    refine jn.all (G (n + 1)) (fun J2 hJ2 => ?_) (fun t w' hw => hJ1 t w' hw)
    refine cs.mk (fun _ => ?_) (fun _ => ?_)
    · refine call13 (Poll_sem h.p1 hinv.1 fun w8 h => ⟨(decide (0 < c), ()), rfl, ?_⟩)
      refine call17 (Poll_ref11 h.p3 hinv.1 fun w9 h => ⟨(decide (0 < c), ()), rfl, ?_⟩)
      dsimp only
      refine cs.no (by simp) (hJ2 _ _ ⟨s, p, _, l, rfl, ?_, h.p2.drop.p2.p2⟩)
      obtain ⟨h1, h2, h3⟩ := hinv
      split
      · exact ⟨h1, by omega, h3⟩
      · refine ⟨by simp only [semOk] at *; omega, by omega, fun _ => h3 (by omega)⟩
    refine jn.all (G (n + 1)) (fun J3 hJ3 => ?_) (fun t w' hw => hJ2 t w' hw)
    refine cs.mk (fun _ => ?_) (fun _ => ?_)
    · refine dr.mk h fun w8 h => nn.mk (ldP.mk (h.p1.cell rfl) (nn.mk (ldI.mk (h.cell rfl) (nn.mk (ldP.mk (h.p3.cell rfl) (ldI.mk (h.cell rfl) ?_))))))
      refine call18 (Remove_order h.p2 (by omega) fun w9 h => ⟨(decide (0 ≤ atI l id), ()), rfl, h.p1.cell rfl, h.p3.cell rfl, ?_⟩)
      refine call19 (Remove_ref4 h.p4 hb fun w10 h => ⟨(decide (0 ≤ atI l id), ()), rfl, ?_⟩)
      dsimp only
      refine cs.no (by simp) (hJ3 _ _ ⟨s, p, c, rmL l id, rfl, ?_, h.p2.drop.p3.p2.p3⟩)
      obtain ⟨h1, h2, h3⟩ := hinv
      refine ⟨h1, by have := rmL_len l id; omega, fun hc => ?_⟩
      rw [h3 hc]
      rfl
    refine jn.all (G (n + 1)) (fun J4 hJ4 => ?_) (fun t w' hw => hJ3 t w' hw)
    refine cs.mk (fun _ => ?_) (fun _ => ?_)
    · refine dr.mk h fun w8 h => nn.mk (ldP.mk (h.p1.cell rfl) (ldI.mk (h.cell rfl) (ldI.mk (h.cell rfl) (nn.mk (ldP.mk (h.p3.cell rfl) (ldI.mk (h.cell rfl) (ldI.mk (h.cell rfl) ?_)))))))
      refine call20 (Change_order h.p2 hb fun w9 h => ⟨((chgL a0 l id pri).1, ()), rfl, h.p1.cell rfl, h.p1.cell rfl, h.p3.cell rfl, ?_⟩)
      refine call21 (Change_ref4 h.p4 hb fun w10 h => ⟨((chgL a0 l id pri).1, ()), rfl, ?_⟩)
      dsimp only
      refine cs.no (by simp) (hJ4 _ _ ⟨s, p, c, (chgL a0 l id pri).2, rfl, ?_, h.p2.drop.p3.p2.p3⟩)
      obtain ⟨h1, h2, h3⟩ := hinv
      refine ⟨h1, by have := chgL_len a0 l id pri; omega, fun hc => ?_⟩
      rw [h3 hc]
      rfl
    refine jn.all (G (n + 1)) (fun J5 hJ5 => ?_) (fun t w' hw => hJ4 t w' hw)
    refine cs.mk (fun _ => ?_) (fun _ => hJ5 _ _ ⟨s, p, c, l, rfl, semInv_mono hinv, h.drop⟩)
    refine call22 (Apart_sem h.p1.p2.p1 hb fun s2 p2 w8 h => ⟨(some ⟨s2, 0, none⟩, ()), rfl, ?_⟩)
    refine cs.no rfl ?_
    refine call9 (Signal_sem h.p3.p3 hb hinv.1 fun w9 h => ⟨((sigM c a2 l).id, (sigM c a2 l).code, ()), rfl, ?_⟩)
    exact hJ5 _ _ ⟨s2, p2, c, l, rfl, semInv_mono hinv, h.drop.drop.p2.drop⟩
  · obtain ⟨s, p, c, l, ht, hinv, h⟩ := hw
    obtain ⟨t1, _⟩ := t
    dsimp only at ht
    subst ht
    have hb : l.length ≤ 2 ^ 20 := by have := hinv.2.1; omega
    refine dr.mk h fun w8 h => ?_
    refine jn.at (false, ()) (fun w' => Ok e [lineP p [.bool a0] l, refP q a0 l, pts s (semC p c a2), pts u (semC q c a2), old e] w') (fun J hJ => ?_) (fun w' h => ?_)
    · refine nn.mk (ldI.mk (h.cell rfl) (nn.mk (ldI.mk (h.p2.cell rfl) (cs.no (by simp) (nn.mk (ldI.mk (h.cell rfl) (cs.no (by simp) (nn.mk (ldP.mk (h.cell rfl) (nn.mk (ldP.mk (h.p2.cell rfl) ?_)))))))))))
      refine call23 (Same_4 h.p3.p2 hb fun w9 h => ⟨(true, ()), rfl, cs.no rfl (nn.mk (ldI.mk (h.p2.cell rfl) ?_))⟩)
      refine cs.mk (fun hc => ?_) (fun _ => hJ _ h)
      refine nn.mk (ldP.mk (h.p2.cell rfl) (nn.mk ?_))
      refine call10 (Len_order h ⟨((l.length : Int), ()), rfl, ?_⟩)
      have hl := hinv.2.2 (of_decide_eq_true hc)
      subst hl
      exact hJ _ h
    refine cs.no rfl ?_
    refine ⟨⟨s, p, c, l, n + 1, rfl, ?_, hlt, hinv, h.p2.p3.p2.p2⟩, ?_⟩
    · show w64 ((n : Int) + 1) = _
      rw [w64_in (by omega) (by omega)]; rfl
    · show _ - (w64 ((n : Int) + 1)).toNat < _ - Int.toNat (n : Int)
      rw [w64_in (by omega) (by omega)]
      omega

end Go.Proofs.Ytigpfmgfgelgiaa.B
