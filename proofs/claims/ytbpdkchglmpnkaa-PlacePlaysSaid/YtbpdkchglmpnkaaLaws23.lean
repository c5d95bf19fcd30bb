/- The four laws of layer 23, by their contracts. -/
import Derived.Test.YtbpdkchglmpnkaaWalk23
import Derived.Test.YtbpdkchglmpnkaaRow
namespace Go.Proofs.Ytbpdkchglmpnkaa.B
open Go
set_option linter.unusedVariables false

theorem PlaceRefuses_walk {e : World} {a0 a1 : Int} {a2 : Bool} (_ : (Lit.int .i64 a0).wf = true) (_ : (Lit.int .i64 a1).wf = true) : sh4 a0 a1 a2 (LawEnd e) e := by
  unfold sh4
  refine call7 (known_23 (Ok.start e) fun w1 h => ⟨(true, ()), enc_b rfl, ?_⟩)
  dsimp only
  refine cs.no rfl ?_
  refine call8 (New_ctx h fun p w2 h => ⟨(some ⟨p, 0, none⟩, ()), rfl, ?_⟩)
  dsimp only
  refine call9 (Enter_ctx h (by decide) fun w3 h => ⟨((PlaceM.enter ⟨[], false, false⟩ a0).1, ()), rfl, ?_⟩)
  dsimp only
  refine call13 (Lock_ctx h fun w4 h => ⟨(), rfl, ?_⟩)
  have hlen : (PlaceM.enter ⟨[], false, false⟩ a0).2.lv.length ≤ 1 := by
    simp only [PlaceM.enter]; split
    · simp
    · split <;> simp
  refine call9 (Enter_ctx h (Nat.le_trans hlen (by decide)) fun w5 h => ⟨((PlaceM.enter { (PlaceM.enter ⟨[], false, false⟩ a0).2 with locked := a2 } a1).1, ()), rfl, ?_⟩)
  dsimp only
  refine jn.bool (decide (1 ≤ a0 ∧ a0 ≤ 15)) (fun J hJ => cs.mk (fun h1 => ?_) (fun h1 => ?_)) ?_
  · simpa [show 1 ≤ a0 by simpa using h1] using hJ
  · simpa [show ¬ 1 ≤ a0 by simpa using h1] using hJ
  dsimp only
  refine jn.at ((((PlaceM.enter ⟨[], false, false⟩ a0).2.lv.length : Int), (PlaceM.enter ⟨[], false, false⟩ a0).2.top, ())) (fun w' => w5 = w') (fun J hJ => ?_) (fun w' hw => ?_)
  · refine cs.mk (fun hc => ?_) (fun hc => ?_)
    · have hc : 1 ≤ a0 ∧ a0 ≤ 15 := by simpa using hc
      have he : PlaceM.enter ⟨[], false, false⟩ a0 = (0, ⟨[a0], false, false⟩) := by
        simp only [PlaceM.enter]; rw [if_neg (by omega)]; simp [PlaceM.inn]
      rw [he] at hJ ⊢
      refine cs.no rfl ?_
      exact hJ _ rfl
    · have hc : ¬ (1 ≤ a0 ∧ a0 ≤ 15) := by simpa using hc
      have he : PlaceM.enter ⟨[], false, false⟩ a0 = (-17, ⟨[], false, false⟩) := by
        simp only [PlaceM.enter]; rw [if_pos (by omega)]
      rw [he] at hJ ⊢
      refine cs.no rfl ?_
      exact hJ _ rfl
  subst hw
  dsimp only
  have hpre : (PlaceM.enter ⟨[], false, false⟩ a0).2 = ⟨[], false, false⟩ ∨ (PlaceM.enter ⟨[], false, false⟩ a0).2 = ⟨[a0], false, false⟩ ∧ 1 ≤ a0 := by
    simp only [PlaceM.enter]; split
    · exact .inl rfl
    · right
      refine ⟨?_, by omega⟩
      simp [PlaceM.inn]
  revert h
  generalize (PlaceM.enter ⟨[], false, false⟩ a0).2 = m at *
  intro h
  refine jn.bool (decide (a1 < 1 ∨ a1 > 15)) (fun J hJ => cs.mk (fun h1 => ?_) (fun h1 => ?_)) ?_
  · simpa [show a1 < 1 by simpa using h1] using hJ
  · simpa [show ¬ a1 < 1 by simpa using h1] using hJ
  dsimp only
  have hin : ({ m with locked := a2 } : PlaceM).inn = m.inn := rfl
  refine jn.at ((((PlaceM.enter { m with locked := a2 } a1).2.lv.length : Int), ())) (fun w' => w5 = w') (fun J hJ => ?_) (fun w' hw => ?_)
  · have hJ := hJ _ rfl
    refine cs.mk (fun hc => ?_) (fun hc => ?_)
    · have hc : a1 < 1 ∨ a1 > 15 := by simpa using hc
      have he : PlaceM.enter { m with locked := a2 } a1 = (-17, { m with locked := a2 }) := by
        simp only [PlaceM.enter]; rw [if_pos hc]
      rw [he] at hJ ⊢
      refine cs.no rfl ?_
      exact hJ
    · have hc : ¬ (a1 < 1 ∨ a1 > 15) := by simpa using hc
      refine jn.bool (a2 || decide (a1 ≤ m.top)) (fun J1 hJ1 => cs.mk (fun h1 => ?_) (fun h1 => ?_)) ?_
      · simpa [h1] using hJ1
      · simpa [h1] using hJ1
      dsimp only
      have hmt : m.inn = false → m.top = 0 := by
        rcases hpre with rfl | ⟨rfl, _⟩
        · intro _; rfl
        · intro h; cases h
      by_cases hb : a2 = true ∨ (m.inn = true ∧ a1 ≤ m.top)
      · have he : PlaceM.enter { m with locked := a2 } a1 = (-25, { m with locked := a2 }) := by
          simp only [PlaceM.enter]; rw [if_neg hc]; exact if_pos hb
        rw [he] at hJ ⊢
        refine jn.at (((m.lv.length : Int), ())) (fun w' => w5 = w') (fun J1 hJ1 => ?_) (fun w' hw => ?_)
        · refine cs.yes ?_ (cs.no rfl ?_)
          · rcases hb with hb | ⟨_, hb⟩
            · simp [hb]
            · simp [hb]
          exact hJ1 _ rfl
        · subst hw; exact hJ
      · have he : PlaceM.enter { m with locked := a2 } a1 = (0, { m with lv := m.lv ++ [a1], locked := a2 }) := by
          simp only [PlaceM.enter]; rw [if_neg hc]; exact if_neg hb
        rw [he] at hJ ⊢
        refine jn.at (((m.lv.length + 1 : Int), ())) (fun w' => w5 = w') (fun J1 hJ1 => ?_) (fun w' hw => ?_)
        · refine cs.no ?_ (cs.no rfl ?_)
          · have h1 : a2 = false := by cases a2 <;> simp_all
            have h2 : ¬ a1 ≤ m.top := by
              intro h2
              cases hi : m.inn
              · have := hmt hi; omega
              · exact hb (.inr ⟨hi, h2⟩)
            simp [h1]; omega
          · have hw : w64 ((m.lv.length : Int) + 1) = (m.lv.length : Int) + 1 := w64_in (by omega) (by rcases hpre with rfl | ⟨rfl, _⟩ <;> simp)
            rw [hw]; exact hJ1 _ rfl
        · subst hw
          simpa using hJ
  subst hw
  dsimp only
  refine nn.mk ?_
  have hl2 : (PlaceM.enter { m with locked := a2 } a1).2.lv.length ≤ 2 := by
    have hm : m.lv.length ≤ 1 := by rcases hpre with rfl | ⟨rfl, _⟩ <;> simp
    simp only [PlaceM.enter]; split
    · simp; omega
    · split
      · simp; omega
      · simp; omega
  refine call14 (Levels_ctx h (by omega) fun s w6 hs h => ⟨(s, ()), rfl, ?_⟩)
  dsimp only
  rw [hs]
  exact ⟨by simp, h.drop.drop⟩

theorem PlaceKinds_walk {e : World} {a0 a1 : Bool} {a2 : Int} {a3 : Bool} (hw2 : (Lit.int .u8 a2).wf = true) : sh5 a0 a1 a2 a3 (LawEnd e) e := by
  unfold sh5
  refine call7 (known_23 (Ok.start e) fun w1 h => ⟨(true, ()), enc_b rfl, ?_⟩)
  dsimp only
  refine cs.no rfl ?_
  refine call8 (New_ctx h fun p w2 h => ⟨(some ⟨p, 0, none⟩, ()), rfl, ?_⟩)
  dsimp only
  have hk := wf_u8 hw2
  have hm : Int.tmod a2 16 = a2 % 16 := Int.tmod_eq_emod_of_nonneg hk.1
  refine jn.at () (fun w' => ∃ lv, Ok e [placeP p ⟨lv, false, false⟩, old e] w' ∧ (lv = [] ∧ decide (Int.tmod a2 16 > 0) = false ∨ (∃ x, lv = [x]) ∧ decide (Int.tmod a2 16 > 0) = true)) (fun J hJ => cs.mk (fun hc => ?_) (fun hc => ?_)) ?_
  · refine call9 (Enter_ctx h (by decide) fun w3 h => ⟨((PlaceM.enter ⟨[], false, false⟩ (w64 (Int.tmod a2 16))).1, ()), rfl, ?_⟩)
    have hc' : Int.tmod a2 16 > 0 := by simpa using hc
    have hw : w64 (Int.tmod a2 16) = Int.tmod a2 16 := w64_in (by omega) (by omega)
    refine hJ _ ⟨_, ?_, .inr ⟨⟨Int.tmod a2 16, rfl⟩, hc⟩⟩
    have he : (PlaceM.enter ⟨[], false, false⟩ (w64 (Int.tmod a2 16))).2 = ⟨[Int.tmod a2 16], false, false⟩ := by
      rw [hw]; simp only [PlaceM.enter]; rw [if_neg (by omega)]; simp [PlaceM.inn]
    rw [he] at h; exact h
  · exact hJ _ ⟨[], h, .inl ⟨rfl, hc⟩⟩
  rintro w3 ⟨lv, h, hv⟩
  refine call13 (Lock_ctx h fun w4 h => ⟨(), rfl, ?_⟩)
  refine call15 (Disable_ctx h fun w5 h => ⟨(), rfl, ?_⟩)
  dsimp only at h
  refine call16 (May_ctx h ⟨(PlaceM.may ⟨lv, a0, a1⟩ 2 a3, ()), rfl, ?_⟩)
  dsimp only
  refine call16 (May_ctx h ⟨(PlaceM.may ⟨lv, a0, a1⟩ 1 a3, ()), rfl, ?_⟩)
  dsimp only
  refine call16 (May_ctx h ⟨(PlaceM.may ⟨lv, a0, a1⟩ 4 a3, ()), rfl, ?_⟩)
  dsimp only
  refine call16 (May_ctx h ⟨(PlaceM.may ⟨lv, a0, a1⟩ 3 a3, ()), rfl, ?_⟩)
  dsimp only
  refine call16 (May_ctx h ⟨(PlaceM.may ⟨lv, a0, a1⟩ 0 a3, ()), rfl, ?_⟩)
  dsimp only
  have hD : ∀ K : TK [kB] → World → Prop, K (PlaceM.dispatch ⟨lv, a0, a1⟩, ()) w5 → cl Pg 11 [.pointer (some ⟨p, 0, none⟩)] [kB] w5 K := fun K hK => call11 (Dispatch_ctx h ⟨(PlaceM.dispatch ⟨lv, a0, a1⟩, ()), rfl, hK⟩)
  generalize decide (Int.tmod a2 16 > 0) = q at *
  rcases hv with ⟨rfl, rfl⟩ | ⟨⟨x, rfl⟩, rfl⟩ <;> cases a0 <;> cases a1 <;> cases a3
  all_goals
    repeat' first
      | assumption
      | refine cs.yes rfl ?_
      | refine cs.no rfl ?_
      | apply jn.bool
      | refine nn.mk ?_
      | exact ⟨rfl, h.drop⟩
      | refine hD _ ?_
      | intro J hJ
      | dsimp only

theorem PlaceNests_walk {e : World} {a0 : Sl} {xs : List Int} (ha : ArgI .u8 e a0 xs) : sh3 a0 (LawEnd e) e := by
  unfold sh3
  refine call7 (known_23 (Ok.start e) fun w1 h => ⟨(true, ()), enc_b rfl, ?_⟩)
  dsimp only
  refine cs.no rfl ?_
  refine cs.mk (fun hc => ⟨rfl, h⟩) (fun hc => ?_)
  have hle : a0.len ≤ 60 := by
    have : ¬ (a0.len : Int) > 60 := by simpa using hc
    omega
  refine call8 (New_ctx h fun p w2 h => ⟨(some ⟨p, 0, none⟩, ()), rfl, ?_⟩)
  dsimp only
  refine lp.mk (fun t w' => ∃ lv : List Int, ∃ n : Nat, t.2.2.1 = (n : Int) ∧ n ≤ a0.len ∧ lv.length ≤ n ∧ t.2.1 = (lv.length : Int) ∧ t.1 = PlaceM.top ⟨lv, false, false⟩ ∧ Ok e [placeP p ⟨lv, false, false⟩, old e] w')
    (fun t _ => a0.len - t.2.2.1.toNat) ⟨[], 0, rfl, Nat.zero_le _, Nat.le_refl _, rfl, rfl, h⟩ ?_
  rintro ⟨last, depth, i, _⟩ w3 ⟨lv, n, hn, hn1, hlv, hd, hlast, h⟩
  dsimp only at hn hd hlast
  subst hn hd hlast
  refine cs.mk (fun hlt => ?_) (fun hge => ?_)
  · have hlt : n < a0.len := by simpa using hlt
    refine ix_arg ha (by simp) (by simpa using hlt) fun b o x hx hc => ?_
    refine ldI.mk (hc _ ⟨_, h.p1⟩) ?_
    have hxr := ha.u8 (List.mem_of_getElem? hx)
    have hm : Int.tmod x 15 = x % 15 := Int.tmod_eq_emod_of_nonneg hxr.1
    rw [hm, w64_in (x := x % 15) (by omega) (by omega), w64_in (by omega) (by omega)]
    refine call9 (Enter_ctx h (show lv.length ≤ _ by omega) fun w4 h => ⟨((PlaceM.enter ⟨lv, false, false⟩ (1 + x % 15)).1, ()), rfl, ?_⟩)
    dsimp only
    have htop : PlaceM.inn ⟨lv, false, false⟩ = false → PlaceM.top ⟨lv, false, false⟩ = 0 := by
      intro h0
      cases lv with
      | nil => rfl
      | cons a l => simp [PlaceM.inn] at h0
    by_cases hb : PlaceM.inn ⟨lv, false, false⟩ = true ∧ 1 + x % 15 ≤ PlaceM.top ⟨lv, false, false⟩
    · have he : PlaceM.enter ⟨lv, false, false⟩ (1 + x % 15) = (-25, ⟨lv, false, false⟩) := by
        simp only [PlaceM.enter]; rw [if_neg (by omega)]; exact if_pos (.inr hb)
      rw [he] at h ⊢
      have hf : decide (1 + x % 15 > PlaceM.top ⟨lv, false, false⟩) = false := by
        have := hb.2
        simp; omega
      rw [hf]
      refine cs.no rfl (cs.no rfl ?_)
      refine ⟨⟨lv, n + 1, ?_, hlt, by omega, rfl, rfl, h⟩, ?_⟩
      · show w64 _ = _
        rw [w64_in (by omega) (by omega)]; rfl
      · show _ - (w64 _).toNat < _ - Int.toNat _
        rw [w64_in (by omega) (by omega)]
        omega
    · have he : PlaceM.enter ⟨lv, false, false⟩ (1 + x % 15) = (0, ⟨lv ++ [1 + x % 15], false, false⟩) := by
        simp only [PlaceM.enter]; rw [if_neg (by omega)]; exact if_neg (by simp; simpa using hb)
      rw [he] at h ⊢
      have hf : decide (1 + x % 15 > PlaceM.top ⟨lv, false, false⟩) = true := by
        simp only [decide_eq_true_eq]
        cases hi : PlaceM.inn ⟨lv, false, false⟩
        · rw [htop hi]; omega
        · have : ¬ 1 + x % 15 ≤ PlaceM.top ⟨lv, false, false⟩ := fun h1 => hb ⟨hi, h1⟩
          omega
      rw [hf]
      refine cs.no rfl (cs.yes rfl ?_)
      refine ⟨⟨lv ++ [1 + x % 15], n + 1, ?_, hlt, by simp; omega, ?_, ?_, h⟩, ?_⟩
      · show w64 _ = _
        rw [w64_in (by omega) (by omega)]; rfl
      · show w64 _ = _
        rw [w64_in (by omega) (by omega)]; simp
      · show _ = _
        simp [PlaceM.top]
        rfl
      · show _ - (w64 _).toNat < _ - Int.toNat _
        rw [w64_in (by omega) (by omega)]
        omega
  · refine lp.mk (fun t w' => ∃ l2 : List Int, ∃ n : Nat, t.1 = (n : Int) ∧ n + l2.length = lv.length ∧ Ok e [placeP p ⟨l2, false, false⟩, old e] w')
      (fun t _ => lv.length - t.1.toNat) ⟨lv, 0, rfl, Nat.zero_add _, h⟩ ?_
    rintro ⟨d, _⟩ w4 ⟨l2, n2, hn, hl2, h⟩
    dsimp only at hn
    subst hn
    refine cs.mk (fun hlt => ?_) (fun hge => ?_)
    · have hlt : n2 < lv.length := by simpa using hlt
      refine nn.mk ?_
      have hi : PlaceM.inn ⟨l2, false, false⟩ = true := by simp [PlaceM.inn]; omega
      have hdi : PlaceM.dispatch ⟨l2, false, false⟩ = false := by simp [PlaceM.dispatch, hi]
      refine call10 (In_ctx h ⟨(true, ()), enc_b hi.symm, ?_⟩)
      dsimp only
      refine jn.bool false (fun J hJ => ?_) ?_
      · refine cs.no rfl (nn.mk ?_)
        refine call11 (Dispatch_ctx h ⟨(false, ()), enc_b hdi.symm, hJ⟩)
      have hx : PlaceM.exit ⟨l2, false, false⟩ = (0, ⟨l2.take (l2.length - 1), false, false⟩) := by
        simp only [PlaceM.exit, hi]; rfl
      refine jn.at (false, ()) (fun w' => Ok e [placeP p ⟨l2.take (l2.length - 1), false, false⟩, old e] w') (fun J hJ => ?_) (fun w5 h => ?_)
      · refine cs.no rfl ?_
        refine call12 (Exit_ctx h (by simp; omega) fun w5 h => ⟨((PlaceM.exit ⟨l2, false, false⟩).1, ()), rfl, ?_⟩)
        rw [hx] at h ⊢
        exact hJ _ h
      · refine cs.no rfl ?_
        refine ⟨⟨_, n2 + 1, ?_, ?_, h⟩, ?_⟩
        · show w64 _ = _
          rw [w64_in (by omega) (by omega)]; rfl
        · simp; omega
        · show _ - (w64 _).toNat < _ - Int.toNat _
          rw [w64_in (by omega) (by omega)]
          omega
    · have hge : lv.length ≤ n2 := by simpa using hge
      have : l2 = [] := List.eq_nil_of_length_eq_zero (by omega)
      subst this
      refine nn.mk ?_
      refine call10 (In_ctx h ⟨(false, ()), rfl, ?_⟩)
      dsimp only
      refine jn.bool true (fun J hJ => ?_) ?_
      · refine cs.yes rfl (nn.mk ?_)
        refine call11 (Dispatch_ctx h ⟨(true, ()), rfl, hJ⟩)
      exact ⟨rfl, h.drop⟩

theorem PlacePlays_walk {e : World} {a0 : Sl} {a1 : Int} {vs : List Value} (ha : ArgF [.i .i64, .i .i64, .b] e a0 vs) (_ : (Lit.int .i64 a1).wf = true) : sh6 a0 a1 (LawEnd e) e := by
  unfold sh6
  refine call7 (known_23 (Ok.start e) fun w1 h => ⟨(true, ()), enc_b rfl, ?_⟩)
  dsimp only
  refine cs.no rfl ?_
  refine cs.mk (fun hc => ⟨rfl, h⟩) (fun hc => ?_)
  have hle : a0.len ≤ 100 := by
    have : ¬ (a0.len : Int) > 100 := by simpa using hc
    omega
  refine call8 (New_ctx h fun p w2 h => ⟨(some ⟨p, 0, none⟩, ()), rfl, ?_⟩)
  dsimp only
  refine al.mk h fun q w3 h => ?_
  have h : Ok e [placeP p ⟨[], false, false⟩, placeP q ⟨[], false, false⟩, old e] w3 := (placeI (s := ⟨none, 0, 0⟩) (m := ⟨[], false, false⟩) (h.slcNil 1).p1).p1
  refine lp.mk (fun t w' => ∃ m : PlaceM, ∃ n : Nat, t.1 = (n : Int) ∧ n ≤ a0.len ∧ m.lv.length ≤ n ∧ Ok e [placeP p m, placeP q m, old e] w')
    (fun t _ => a0.len - t.1.toNat) ⟨_, 0, rfl, Nat.zero_le _, Nat.le_refl _, h⟩ ?_
  rintro ⟨i, _⟩ w3 ⟨m, n, hn, hn1, hlv, h⟩
  dsimp only at hn
  subst hn
  refine cs.mk (fun hlt => ?_) (fun hge => ⟨rfl, h.drop.drop⟩)
  have hlt : n < a0.len := by simpa using hlt
  obtain ⟨_, hkd, kd, rfl, _⟩ := ha.2 n hlt 0 _ rfl
  obtain ⟨_, hl, l, rfl, _⟩ := ha.2 n hlt 1 _ rfl
  obtain ⟨_, hb, b, rfl⟩ := ha.2 n hlt 2 _ rfl
  have hix : ∀ f : Nat → Nat → Prop, (∀ b1 o, (∀ w', (∃ L', Ok e (old e :: L') w') → w'.cell? ⟨b1, o, none⟩ = some (.int .i64 kd)) → (∀ w', (∃ L', Ok e (old e :: L') w') → w'.cell? ⟨b1, o + 1, none⟩ = some (.int .i64 l)) → (∀ w', (∃ L', Ok e (old e :: L') w') → w'.cell? ⟨b1, o + 2, none⟩ = some (.bool b)) → f b1 o) → ix a0 (n : Int) 3 f := by
    intro f hf
    refine ix_args ha.1 (by decide) (by simp) (by simpa using hlt) fun b1 o hh => hf b1 o ?_ ?_ ?_
    · exact hh 0 _ (by decide) (by simpa using hkd)
    · exact hh 1 _ (by decide) (by simpa using hl)
    · exact hh 2 _ (by decide) (by simpa using hb)
  refine hix _ fun b1 o1 hc1 _ _ => ?_
  refine ldI.mk (hc1 _ ⟨_, h.p2⟩) ?_
  refine jn.at () (fun w' => ∃ m : PlaceM, m.lv.length ≤ n + 1 ∧ Ok e [placeP p m, placeP q m, old e] w') (fun J hJ => ?_) ?_
  · refine cs.mk (fun _ => ?_) (fun _ => ?_)
    · refine dr.mk h fun w4 h => ?_
      refine hix _ fun b2 o2 _ hc2 _ => ?_
      refine ldI.mk (hc2 _ ⟨_, h.p2⟩) ?_
      refine hix _ fun b3 o3 _ hc3 _ => ?_
      refine ldI.mk (hc3 _ ⟨_, h.p2⟩) ?_
      refine call9 (Enter_ctx h (by omega) fun w5 h => ⟨((m.enter l).1, ()), rfl, ?_⟩)
      refine ⟨hc3 _ ⟨_, h.p2⟩, ?_⟩
      refine call17 (Enter_ref23 h.p1 (by omega) fun w6 h => ⟨((m.enter l).1, ()), rfl, ?_⟩)
      dsimp only
      refine cs.no (by simp) ?_
      refine hJ _ ⟨_, ?_, h.p1⟩
      simp only [PlaceM.enter]; split
      · exact Nat.le_succ_of_le hlv
      · split
        · exact Nat.le_succ_of_le hlv
        · simp; omega
    refine jn.at () (fun w' => ∃ m : PlaceM, m.lv.length ≤ n + 1 ∧ Ok e [placeP p m, placeP q m, old e] w') (fun J1 hJ1 => ?_) (fun w' hw => hJ w' hw)
    refine cs.mk (fun _ => ?_) (fun _ => ?_)
    · refine call12 (Exit_ctx h (by omega) fun w5 h => ⟨(m.exit.1, ()), rfl, ?_⟩)
      refine call18 (Exit_ref23 h.p1 (by omega) fun w6 h => ⟨(m.exit.1, ()), rfl, ?_⟩)
      dsimp only
      refine cs.no (by simp) ?_
      refine hJ1 _ ⟨_, ?_, h.p1⟩
      simp only [PlaceM.exit]; split
      · simp; omega
      · exact Nat.le_succ_of_le hlv
    refine jn.at () (fun w' => ∃ m : PlaceM, m.lv.length ≤ n + 1 ∧ Ok e [placeP p m, placeP q m, old e] w') (fun J2 hJ2 => ?_) (fun w' hw => hJ1 w' hw)
    refine cs.mk (fun _ => ?_) (fun _ => ?_)
    · refine hix _ fun b2 o2 _ _ hc2 => ?_
      refine ldB.mk (hc2 _ ⟨_, h.p2⟩) ?_
      refine call13 (Lock_ctx h fun w5 h => ⟨(), rfl, ?_⟩)
      refine hix _ fun b3 o3 _ _ hc3 => ?_
      refine ldB.mk (hc3 _ ⟨_, h.p2⟩) ?_
      refine nn.mk ?_
      obtain ⟨s, hs, h⟩ := placeE h.p1
      refine st1.mk h (by simp) fun w6 h => ?_
      have h : Ok e (placeP q ⟨m.lv, b, m.disabled⟩ :: _) w6 := placeI (m := ⟨m.lv, b, m.disabled⟩) h
      exact hJ2 _ ⟨⟨m.lv, b, m.disabled⟩, by simp only; omega, h.p1⟩
    refine jn.at () (fun w' => ∃ m : PlaceM, m.lv.length ≤ n + 1 ∧ Ok e [placeP p m, placeP q m, old e] w') (fun J3 hJ3 => ?_) (fun w' hw => hJ2 w' hw)
    refine cs.mk (fun _ => ?_) (fun _ => ?_)
    · refine hix _ fun b2 o2 _ _ hc2 => ?_
      refine ldB.mk (hc2 _ ⟨_, h.p2⟩) ?_
      refine call15 (Disable_ctx h fun w5 h => ⟨(), rfl, ?_⟩)
      refine hix _ fun b3 o3 _ _ hc3 => ?_
      refine ldB.mk (hc3 _ ⟨_, h.p2⟩) ?_
      refine nn.mk ?_
      obtain ⟨s, hs, h⟩ := placeE h.p1
      refine st1.mk h (by simp) fun w6 h => ?_
      have h : Ok e (placeP q ⟨m.lv, m.locked, b⟩ :: _) w6 := placeI (m := ⟨m.lv, m.locked, b⟩) h
      exact hJ3 _ ⟨⟨m.lv, m.locked, b⟩, by simp only; omega, h.p1⟩
    exact hJ3 _ ⟨m, by omega, h⟩
  rintro w4 ⟨m, hlv, h⟩
  refine dr.mk h fun w5 h => ?_
  refine jn.at (false, ()) (fun w' => Ok e [placeP p m, placeP q m, old e] w') (fun J hJ => ?_) (fun w6 h => ?_)
  · refine nn.mk (nn.mk ?_)
    obtain ⟨s, hs, h⟩ := placeE h.p1
    refine ldS.mk (h.cell rfl) ?_
    refine call14 (Levels_ctx h.p2 (by omega) fun s2 w6 hs2 h => ⟨(s2, ()), rfl, ?_⟩)
    refine ⟨h.p2.cell rfl, ?_⟩
    dsimp only
    refine call19 (Same_int h.p3.p1 (by omega) fun w7 h => ⟨(true, ()), enc_b (by simp), ?_⟩)
    dsimp only
    have h := (placeI h.drop.p2).p1
    refine cs.no rfl (nn.mk ?_)
    refine call10 (In_ctx h ⟨(m.inn, ()), rfl, ?_⟩)
    dsimp only
    refine call20 (In_ref23 h.p1 ⟨(m.inn, ()), rfl, ?_⟩)
    dsimp only
    refine cs.no (by simp) (nn.mk (nn.mk ?_))
    obtain ⟨s3, hs3, h⟩ := placeE h.p1
    refine ldB.mk (h.cell rfl) ?_
    refine call21 (Locked_ctx h.p2 ⟨(m.locked, ()), rfl, ?_⟩)
    refine ⟨h.cell rfl, ?_⟩
    dsimp only
    refine cs.no (by simp) (nn.mk (nn.mk ?_))
    refine ldB.mk (h.cell rfl) ?_
    refine call22 (Disabled_ctx h.p2 ⟨(m.disabled, ()), rfl, ?_⟩)
    refine ⟨h.cell rfl, ?_⟩
    dsimp only
    have h := (placeI h).p1
    refine cs.no (by simp) (nn.mk ?_)
    refine call11 (Dispatch_ctx h ⟨(m.dispatch, ()), rfl, ?_⟩)
    dsimp only
    refine call23 (Dispatch_ref23 h.p1 ⟨(m.dispatch, ()), rfl, ?_⟩)
    dsimp only
    have := hJ _ h
    simpa using this
  refine cs.no rfl ?_
  refine lp.mk (fun t w' => LE.le (α := Int) 0 t.1 ∧ Ok e [placeP p m, placeP q m, old e] w') (fun t _ => 5 - t.1.toNat) ⟨Int.le_refl _, h⟩ ?_
  rintro ⟨(k : Int), _⟩ w7 ⟨hk0, h⟩
  dsimp only at hk0
  refine cs.mk (fun hk => ?_) (fun hk => ?_)
  · have hk : k < 5 := by simpa using hk
    dsimp only
    refine call16 (May_ctx h ⟨(m.may k false, ()), rfl, ?_⟩)
    dsimp only
    refine call24 (May_ref23 h.p1 ⟨(m.may k false, ()), rfl, ?_⟩)
    dsimp only
    refine jn.bool false (fun J hJ => ?_) ?_
    · refine cs.no (by simp) ?_
      refine call16 (May_ctx h ⟨(m.may k true, ()), rfl, ?_⟩)
      dsimp only
      refine call24 (May_ref23 h.p1 ⟨(m.may k true, ()), rfl, ?_⟩)
      dsimp only
      simpa using hJ
    refine cs.no rfl ?_
    have hw : w64 (k + 1) = k + 1 := w64_in (by omega) (by omega)
    rw [hw]
    refine ⟨⟨by show 0 ≤ k + 1; omega, h⟩, ?_⟩
    show 5 - Int.toNat _ < 5 - Int.toNat _
    omega
  refine call16 (May_ctx h ⟨(m.may a1 false, ()), rfl, ?_⟩)
  dsimp only
  refine call24 (May_ref23 h.p1 ⟨(m.may a1 false, ()), rfl, ?_⟩)
  dsimp only
  refine cs.no (by simp) ?_
  refine ⟨⟨m, n + 1, ?_, hlt, hlv, h⟩, ?_⟩
  · show w64 _ = _
    rw [w64_in (by omega) (by omega)]; rfl
  · show _ - (w64 _).toNat < _ - Int.toNat _
    rw [w64_in (by omega) (by omega)]
    omega

end Go.Proofs.Ytbpdkchglmpnkaa.B
