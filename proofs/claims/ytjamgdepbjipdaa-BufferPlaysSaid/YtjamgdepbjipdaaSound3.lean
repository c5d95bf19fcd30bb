/- What 'comp' reads out of the model's code is enough for the code's own run: regions that draw their order, code, functions. -/
import Derived.Test.YtjamgdepbjipdaaSound2
namespace Go.Proofs.Ytjamgdepbjipdaa.B
open Go
section
variable {P : Program} {N : Nat}

/-! ### regions in the text's order -/
theorem opsC_wp {ops : Array Oper} {R : Exit → Act → World → Prop} : ∀ (fuel : Nat) (sg : Seg) (p : Nat) (l : List Oper) (k : Nat) (al : Option (List Nat)) (st : St) (K : KT) (a : Act) (w : World) (rest : List Nat),
    (∀ j v, l[j]? = some v → ops[k + j]? = some v) → Rel N st a → (∀ st' a' w', Rel N st' a' → Same al st st' → K st' w' → wpOps P ops R rest a' w') →
    opsC P N ops fuel sg p l al st K w → wpOps P ops R (List.range' k l.length ++ rest) a w := by
  intro fuel
  induction fuel with
  | zero =>
    intro sg p l k al st K a w rest hl hr hK h
    cases l with
    | nil => simp only [opsC] at h; exact hK st a w hr (Same.refl _ _) h
    | cons o r => simp [opsC] at h
  | succ fuel ih =>
    intro sg p l k al st K a w rest hl hr hK h
    cases l with
    | nil => simp only [opsC] at h; exact hK st a w hr (Same.refl _ _) h
    | cons o r =>
      simp only [opsC] at h
      split at h
      · rename_i n j _ _
        have hcut : List.range' k (o :: r).length ++ rest = List.range' k (List.take n (o :: r)).length ++ (List.range' (k + n) (List.drop n (o :: r)).length ++ rest) := by
          rw [← List.append_assoc]
          congr 1
          rw [List.length_take, List.length_drop]
          by_cases hn : n ≤ (o :: r).length
          · rw [Nat.min_eq_left hn, List.range'_append_1]
            congr 1; omega
          · rw [Nat.min_eq_right (by omega), show (o :: r).length - n = 0 by omega]; simp
        obtain ⟨K', hb, hs, hK'⟩ := jnC_spec (N := N) hr.kn h (fun a w => wpOps P ops R (List.range' (k + n) (List.drop n (o :: r)).length ++ rest) a w)
          (fun st' a' w' hr' hs' h' => ih sg (p + n) (List.drop n (o :: r)) (k + n) al st' K a' w' rest (fun j v hv => by
            rw [List.getElem?_drop] at hv
            have := hl _ v hv
            rw [Nat.add_assoc]; exact this) hr' (fun st2 a2 w2 h1 h2 h3 => hK st2 a2 w2 h1 (hs'.trans h2) h3) h')
        rw [hcut]
        exact ih (segDel sg p) p (List.take n (o :: r)) k (some j.al) st K' a w _ (fun i v hv => by
          rw [List.getElem?_take] at hv
          split at hv
          · exact hl i v hv
          · cases hv) hr (fun st2 a2 w2 h1 h2 h3 => hK' st2 a2 w2 h1 h2 h3) hb
      · have ho : ops[k]? = some o := by simpa using hl 0 o rfl
        have hl' : ∀ j v, r[j]? = some v → ops[k + 1 + j]? = some v := fun j v hv => by
          have := hl (j + 1) v (by simpa using hv)
          rw [show k + 1 + j = k + (j + 1) by omega]; exact this
        simp only [List.length_cons, List.range'_succ, List.cons_append]
        simp only [wpOps, ho]
        rcases grd_spec hr h with ⟨hw, st', hr', hs', h'⟩ | ⟨hw, st', hr', hs', h'⟩
        · rw [if_pos hw]
          refine .inl (Oper.wp_mono ?_ (opC_wp (Q := R) hr' h'))
          rintro a2 w2 ⟨st2, hr2, hs2, h2⟩
          exact ih sg (p + 1) r (k + 1) al st2 K a2 w2 rest hl' hr2 (fun st3 a3 w3 h1 h3 h4 => hK st3 a3 w3 h1 ((hs'.trans hs2).trans h3) h4) h2
        · rw [if_neg (by rw [hw]; simp)]
          exact ih sg (p + 1) r (k + 1) al st' K _ w rest hl' hr' (fun st3 a3 w3 h1 h3 h4 => hK st3 a3 w3 h1 (hs'.trans h3) h4) h'

/-! ### regions that draw their order -/
def Dcl (ops : Array Oper) (listed : Array Bool) : Prop :=
  ∀ k o, ops[k]? = some o → listed.getD k false = true → ∀ e ∈ o.after, Region.binds .any e = true → listed.getD e.on false = true
def Bef (ops : Array Oper) (j i : Nat) : Prop := ∀ listed, Dcl ops listed → i ∈ Region.ready .any ops listed → listed.getD j false = true
theorem Dcl.add {ops : Array Oper} {listed : Array Bool} (h : Dcl ops listed) {i : Nat} (hi : i ∈ Region.ready .any ops listed) : Dcl ops (listed.setIfInBounds i true) := by
  intro k o ho hk e he hb
  by_cases hki : i = k
  · subst hki
    obtain ⟨_, o', ho', hall⟩ := mem_ready.1 hi
    rw [ho] at ho'; cases ho'
    exact getD_set_true (hall e he hb)
  · rw [getD_set_ne false hki] at hk
    exact getD_set_true (h k o ho hk e he hb)
theorem okAnc_spec {ops : Array Oper} {i : Nat} : ∀ {anc seen : List Nat}, okAnc ops i seen anc = true → (∀ c ∈ seen, Bef ops c i) → ∀ c ∈ anc, Bef ops c i := by
  intro anc
  induction anc with
  | nil => intro seen _ _ c hc; cases hc
  | cons c r ih =>
    intro seen h hs
    simp only [okAnc] at h
    split at h
    · rename_i hany
      have hc : Bef ops c i := by
        intro listed hd hi
        rw [List.any_eq_true] at hany
        obtain ⟨k, hk, hk2⟩ := hany
        cases ho : ops[k]? with
        | none => simp [ho] at hk2
        | some o =>
          simp only [ho] at hk2
          rw [Array.any_eq_true'] at hk2
          obtain ⟨e, he, hb⟩ := hk2
          simp only [Bool.and_eq_true, Nat.beq_eq] at hb
          obtain ⟨hb1, hb2⟩ := hb
          rw [← hb2]
          rcases List.mem_cons.1 hk with rfl | hk
          · obtain ⟨_, o', ho', hall⟩ := mem_ready.1 hi
            rw [ho] at ho'; cases ho'
            exact hall e he hb1
          · exact hd k o ho (hs k hk listed hd hi) e he hb1
      intro d hd
      rcases List.mem_cons.1 hd with rfl | hd
      · exact hc
      · exact ih h (fun x hx => (List.mem_cons.1 hx).elim (fun e => e ▸ hc) (hs x)) d hd
    · cases h
def Kept (ops : Array Oper) (pend : Pend) (i : Nat) (w w' : World) : Prop := ∀ p ∈ pend, ¬ Bef ops p.1 i → p.2 w → p.2 w'
def wpAnyP (P : Program) (ops : Array Oper) (Q : Act → World → Prop) (pend : Pend) : Nat → Array Bool → Act → World → Prop
  | 0, listed, a, w => Region.ready .any ops listed = [] ∧ Q a w
  | fuel + 1, listed, a, w => (Region.ready .any ops listed = [] → Q a w) ∧
      ∀ i ∈ Region.ready .any ops listed, wpOp P ops (fun e a w => e = .normal ∧ Q a w) i (fun a' w' => Kept ops pend i w w' ∧ wpAnyP P ops Q pend fuel (listed.setIfInBounds i true) a' w') a w
theorem wpOp_normal {ops : Array Oper} {Q : Act → World → Prop} {R : Exit → Act → World → Prop} {i : Nat} {K : Act → World → Prop} {a : Act} {w : World} (h : wpOp P ops (fun e a w => e = .normal ∧ Q a w) i K a w) : wpOp P ops R i K a w := by
  unfold wpOp at *
  split
  · rename_i ho; simp only [ho] at h; exact h
  · rename_i o ho
    simp only [ho] at h
    split
    · rename_i hw
      simp only [hw, if_true] at h
      rcases h with h | ⟨_, a', w', h, _⟩
      · refine .inl ?_
        unfold Oper.wp at *
        generalize (execOp a.eval o).run P w = r at *
        cases r with
        | ok n w' =>
          cases n <;> simp only [Oper.upon] at h ⊢ <;> first
            | exact h
            | exact Calls.mono h (fun e w'' he => by cases e <;> first | exact he | exact absurd he.1 (by simp) | (obtain ⟨_, _, h, _⟩ := he; exact absurd h (by simp)))
        | halt x w' => cases x <;> simp only [Oper.upon] at h ⊢ <;> first | exact h | exact absurd h.1 (by simp)
      · cases h
    · rename_i hw; simp only [hw] at h; exact h
theorem wpAny_of_P {ops : Array Oper} {Q : Act → World → Prop} {R : Exit → Act → World → Prop} (hQ : ∀ a w, Q a w → R .normal a w) {pend : Pend} : ∀ (fuel : Nat) (listed : Array Bool) (a : Act) (w : World),
    wpAnyP P ops Q pend fuel listed a w → wpAny P .any ops R fuel listed a w := by
  intro fuel
  induction fuel with
  | zero => intro listed a w h; exact ⟨h.1, hQ _ _ h.2⟩
  | succ fuel ih => intro listed a w h; exact ⟨fun h0 => hQ _ _ (h.1 h0), fun i hi => wpOp_mono (fun a' w' h' => ih _ _ _ h'.2) (wpOp_normal (h.2 i hi))⟩
theorem wpAnyP_drop {ops : Array Oper} {Q : Act → World → Prop} {p : Nat × (World → Prop)} {pend : Pend} : ∀ (fuel : Nat) (listed : Array Bool) (a : Act) (w : World),
    wpAnyP P ops Q (p :: pend) fuel listed a w → wpAnyP P ops Q pend fuel listed a w := by
  intro fuel
  induction fuel with
  | zero => intro listed a w h; exact h
  | succ fuel ih => intro listed a w h; exact ⟨h.1, fun i hi => wpOp_mono (fun a' w' h' => ⟨fun q hq => h'.1 q (List.mem_cons_of_mem _ hq), ih _ _ _ h'.2⟩) (h.2 i hi)⟩
def YieldsS (P : Program) (ops : Array Oper) (o : Oper) (v : Value) (ag : World → Prop) (a : Act) : Prop :=
  (Region.wanted o (yielded ops a.tmps) = true ∧ ∀ w, ag w → (execOp a.eval o).run P w = .ok (.value v) w) ∨ (Region.wanted o (yielded ops a.tmps) = false ∧ v = undef)
theorem YieldsS.wpOp {ops : Array Oper} {Q : Exit → Act → World → Prop} {i : Nat} {o : Oper} {v : Value} {ag : World → Prop} {a : Act} (hi : ops[i]? = some o) (hy : YieldsS P ops o v ag a) {K : Act → World → Prop} {w : World} (hw : ag w) (h : K (a.put o.dst v) w) :
    wpOp P ops Q i K a w := by
  unfold Go.wpOp
  simp only [hi]
  rcases hy with ⟨hwt, hv⟩ | ⟨hwt, rfl⟩
  · simp only [hwt, if_true, Oper.wp, hv w hw, Oper.upon]; exact .inl h
  · simp only [hwt, Bool.false_eq_true, if_false]; exact h
theorem wpOp_putS {ops : Array Oper} {Q : Act → World → Prop} {j : Nat} {oi oj : Oper} {v : Value} {ag : World → Prop} (hj : ops[j]? = some oj) (hap : oi.apart ops oj = true)
    (hsi : ∀ cs b, oi.op ≠ .select cs b) (hsj : ∀ cs b, oj.op ≠ .select cs b) {K : Act → World → Prop} {a : Act} {w : World}
    (hy : YieldsS P ops oi v ag a) (h : wpOp P ops (fun e a w => e = .normal ∧ Q a w) j K (a.put oi.dst v) w) :
    wpOp P ops (fun e a w => e = .normal ∧ Q a w) j (fun a' w' => YieldsS P ops oi v ag a' ∧ K (a'.put oi.dst v) w') a w := by
  obtain ⟨h1, h2, h3⟩ := Oper.apart_spec hap
  have keep : ∀ (a : Act), YieldsS P ops oi v ag a → ∀ u, YieldsS P ops oi v ag (a.put oj.dst u) := fun a hy u => by
    unfold YieldsS at *
    rw [execOp_put oi hsi a oj.dst u h3, wanted_put oi a oj.dst u h3]
    exact hy
  have keepD : ∀ d, YieldsS P ops oi v ag { a with defers := d :: a.defers } := fun d => hy
  unfold wpOp at *
  simp only [hj] at *
  rw [wanted_put oj a oi.dst v h1] at h
  split
  · rename_i hw
    simp only [hw, if_true] at h
    rcases h with h | ⟨_, a', w', h, _⟩
    · refine .inl ?_
      unfold Oper.wp at *
      rw [execOp_put oj hsj a oi.dst v h1] at h
      generalize (execOp a.eval oj).run P w = r at *
      cases r with
      | ok n w' =>
        cases n <;> simp only [Oper.upon] at h ⊢
        case value u => exact ⟨keep a hy u, by rw [← Act.put_comm a v u h2]; exact h⟩
        case skip => exact ⟨keep a hy _, by rw [← Act.put_comm a v undef h2]; exact h⟩
        case defer d =>
          refine ⟨keep _ (keepD d) _, ?_⟩
          rw [← Act.put_comm _ v undef h2, ← Act.put_defers]
          exact h
        case enter f args =>
          refine Calls.mono h fun e w'' he => ?_
          cases e with
          | returned u => exact ⟨keep a hy u, by rw [← Act.put_comm a v u h2]; exact he⟩
          | panicked c => exact absurd he.1 (by simp)
          | outgrown => exact he
        case row row args => exact Rows.mono h fun u w'' he => ⟨keep a hy u, by rw [← Act.put_comm a v u h2]; exact he⟩
      | halt x w' =>
        cases x <;> simp only [Oper.upon] at h ⊢
        case panic u => exact absurd h.1 (by simp)
    · cases h
  · rename_i hw
    simp only [hw] at h
    exact ⟨keep a hy _, by rw [← Act.put_comm a v undef h2]; exact h⟩
theorem wpAnyP_first {ops : Array Oper} {Q : Act → World → Prop} {i : Nat} {oi : Oper} {v : Value} {ag : World → Prop} (hi : ops[i]? = some oi) (hsel : ∀ (j : Nat) (o : Oper) cs b, ops[j]? = some o → o.op ≠ .select cs b) :
    ∀ (fuel : Nat) (pend : Pend) (listed : Array Bool) (a : Act) (w : World), Dcl ops listed →
      (∀ j oj, ops[j]? = some oj → j ≠ i → listed.getD j true = false → (∀ e ∈ oj.after, Region.binds .any e = true → e.on ≠ i) → oi.apart ops oj = true) →
      i ∈ Region.ready .any ops listed → YieldsS P ops oi v ag a → ag w →
      wpAnyP P ops Q ((i, ag) :: pend) fuel (listed.setIfInBounds i true) (a.put oi.dst v) w → wpAnyP P ops Q pend (fuel + 1) listed a w := by
  intro fuel
  induction fuel with
  | zero =>
    intro pend listed a w _ _ hr hy hag H
    refine ⟨fun h => (by rw [h] at hr; cases hr), fun j hj => ?_⟩
    by_cases hji : j = i
    · subst hji; exact hy.wpOp hi hag ⟨fun p _ _ h => h, H⟩
    · have := ready_mono hj hji
      rw [H.1] at this
      cases this
  | succ fuel ih =>
    intro pend listed a w hd hfree hr hy hag H
    refine ⟨fun h => (by rw [h] at hr; cases hr), fun j hj => ?_⟩
    by_cases hji : j = i
    · subst hji; exact hy.wpOp hi hag ⟨fun p _ _ h => h, wpAnyP_drop _ _ _ _ H⟩
    · have h1 := H.2 j (ready_mono hj hji)
      obtain ⟨hjun, oj, hoj, hall⟩ := mem_ready.1 hj
      have hiun := (mem_ready.1 hr).1
      have flip : ∀ {k : Nat}, listed.getD k true = false → listed.getD k false = true → False := by
        intro k h0 h1
        rcases Nat.lt_or_ge k listed.size with h' | h'
        · simp [h'] at h0 h1; rw [h0] at h1; cases h1
        · simp [Array.getElem?_eq_none h'] at h1
      have hnot : ∀ e ∈ oj.after, Region.binds .any e = true → e.on ≠ i := fun e he hb heq => by
        have h2 := hall e he hb
        rw [heq] at h2
        exact flip hiun h2
      have hbef : ¬ Bef ops i j := fun hb => flip hiun (hb listed hd hj)
      have h2 := wpOp_putS hoj (hfree j oj hoj hji hjun hnot) (fun cs b => hsel i oi cs b hi) (fun cs b => hsel j oj cs b hoj) hy h1
      have hfree' : ∀ k ok, ops[k]? = some ok → k ≠ i → (listed.setIfInBounds j true).getD k true = false →
          (∀ e ∈ ok.after, Region.binds .any e = true → e.on ≠ i) → oi.apart ops ok = true := fun k ok hk hki hun hno => by
        refine hfree k ok hk hki ?_ hno
        by_cases hjk : j = k
        · subst hjk; exact hjun
        · rw [getD_set_ne true hjk] at hun; exact hun
      refine wpOp_mono (fun a' w' h3 => ?_) h2
      obtain ⟨hy', hk, hrest⟩ := h3
      refine ⟨fun p hp => hk p (List.mem_cons_of_mem _ hp), ih pend (listed.setIfInBounds j true) a' w' (hd.add hj) hfree' (ready_mono hr (Ne.symm hji)) hy' (hk (i, ag) (List.mem_cons_self ..) hbef hag) ?_⟩
      rw [Array.setIfInBounds_comm _ _ hji]
      exact hrest
theorem pendC_spec {anc : List Nat} {w : World} {x : Prop} : ∀ {pend : Pend}, pendC pend anc w x → x ∧ ∀ p ∈ pend, memN anc p.1 = false → p.2 w := by
  intro pend
  induction pend with
  | nil => intro h; exact ⟨h, fun p hp => by cases hp⟩
  | cons q r ih =>
    intro h
    simp only [pendC] at h
    split at h
    · rename_i hm
      refine ⟨(ih h).1, fun p hp hn => ?_⟩
      rcases List.mem_cons.1 hp with rfl | hp
      · rw [hm] at hn; cases hn
      · exact (ih h).2 p hp hn
    · refine ⟨(ih h.2).1, fun p hp hn => ?_⟩
      rcases List.mem_cons.1 hp with rfl | hp
      · exact h.1
      · exact (ih h.2).2 p hp hn
theorem Kept.of {ops : Array Oper} {pend pend' : Pend} {i : Nat} {anc : List Nat} {w w' : World} (hp : ∀ p ∈ pend', p ∈ pend ∨ ∀ w, p.2 w) (ha : ∀ c ∈ anc, Bef ops c i) (h : ∀ p ∈ pend, memN anc p.1 = false → p.2 w') : Kept ops pend' i w w' := by
  intro p hp' hb _
  rcases hp p hp' with hm | hall
  · cases hm2 : memN anc p.1 with
    | false => exact h p hm hm2
    | true => exact absurd (ha _ ((memN_iff _ _).1 hm2)) hb
  · exact hall w'
theorem drawL_P {ops : Array Oper} {Q : Act → World → Prop} {al : Option (List Nat)} {KK : Array Bool → Pend → KT} {m : Nat} (hsel : Region.noSelect ops = true) : ∀ (xs : List (Nat × List Nat)) (f : Nat) (listed : Array Bool) (pend pend' : Pend) (st : St) (a : Act) (w : World),
    xs.length + m ≤ f → Rel N st a → Dcl ops listed → (∀ p ∈ pend', p ∈ pend ∨ ∀ w, p.2 w) →
    (∀ f listed2 pend2 pend2' st2 a2 w2, m ≤ f → Rel N st2 a2 → Same al st st2 → Dcl ops listed2 → (∀ p ∈ pend2', p ∈ pend2 ∨ ∀ w, p.2 w) → KK listed2 pend2 st2 w2 → wpAnyP P ops Q pend2' f listed2 a2 w2) →
    drawL P N al ops KK xs listed pend st w → wpAnyP P ops Q pend' f listed a w := by
  intro xs
  induction xs with
  | nil =>
    intro f listed pend pend' st a w hf hr hd hp hKK h
    exact hKK f listed pend pend' st a w (by simpa using hf) hr (Same.refl _ _) hd hp h
  | cons x r ih =>
    intro f listed pend pend' st a w hf hr hd hp hKK h
    obtain ⟨f, rfl⟩ : ∃ g, f = g + 1 := ⟨f - 1, by simp at hf; omega⟩
    have hf' : r.length + m ≤ f := by simp at hf; omega
    simp only [drawL] at h
    split at h
    · exact h.elim
    rename_i o ho
    have stab : okStab ops listed x.1 = true → x.1 ∈ Region.ready .any ops listed ∧ (∀ j oj, ops[j]? = some oj → j ≠ x.1 → listed.getD j true = false → (∀ e ∈ oj.after, Region.binds .any e = true → e.on ≠ x.1) → o.apart ops oj = true) := by
      intro hs
      simp only [okStab, Bool.and_eq_true] at hs
      exact ⟨by simpa using hs.1, Region.free_spec ho hs.2⟩
    rcases grd_spec hr h with ⟨hw, st', hr', hs', h⟩ | ⟨hw, st', hr', hs', h⟩
    · split at h
      · rename_i hc
        split at h
        · rename_i hst
          obtain ⟨hrd, hfr⟩ := stab hst
          obtain ⟨v, ⟨st2, hr2, hs2, h2⟩, hv⟩ := opC_pure hr' hc h
          refine wpAnyP_first (v := v) (ag := fun _ => True) ho (Region.noSelect_spec hsel) f pend' listed a w hd hfr hrd (.inl ⟨hw, fun w _ => hv w⟩) trivial ?_
          exact ih f _ pend _ st2 _ w hf' hr2 (hd.add hrd) (fun p hp' => (List.mem_cons.1 hp').elim (fun e => by subst e; exact .inr fun _ => trivial) (hp p))
            (fun f l2 p2 p2' st3 a3 w3 hm h3 h4 => hKK f l2 p2 p2' st3 a3 w3 hm h3 ((hs'.trans hs2).trans h4)) h2
        · exact h.elim
      · rename_i hc
        split at h
        · rename_i hst
          simp only [Bool.and_eq_true] at hst
          obtain ⟨⟨hst, hdst⟩, hdef⟩ := hst
          obtain ⟨hrd, hfr⟩ := stab hst
          split at h
          · rename_i t y hop
            split at h
            · rename_i b i hy
              obtain ⟨v, ag, h2, hag, hrun⟩ := opLd_run h
              have he : a.eval y = evD st'.fr y := hr'.ev (allDef_spec hdef y (by simp [hop, Op.operands]))
              refine wpAnyP_first (v := v) (ag := ag) ho (Region.noSelect_spec hsel) f pend' listed a w hd hfr hrd (.inl ⟨hw, fun w hw' => load_run hop (he.trans hy) (hrun w hw')⟩) hag ?_
              exact ih f _ ((x.1, ag) :: pend) _ (st'.put o.dst v) _ w hf' (hr'.put (fun d e => (okD_spec hdst d e).1) v) (hd.add hrd)
                (fun p hp' => (List.mem_cons.1 hp').elim (fun e => by subst e; exact .inl (List.mem_cons_self ..)) (fun h => (hp p h).imp (List.mem_cons_of_mem _) id))
                (fun f l2 p2 p2' st3 a3 w3 hm h3 h4 => hKK f l2 p2 p2' st3 a3 w3 hm h3 ((hs'.trans (Same.put hdst _ _)).trans h4)) h2
            · exact h.elim
          · rename_i s d y hop
            obtain ⟨g, hrun, h2⟩ := h
            have he : a.eval y = evD st'.fr y := hr'.ev (allDef_spec hdef y (by simp [hop, Op.operands]))
            refine wpAnyP_first (v := .string g) (ag := fun w' => (convert s d (evD st'.fr y)).run P w' = .ok (.string g) w') ho (Region.noSelect_spec hsel) f pend' listed a w hd hfr hrd (.inl ⟨hw, fun w hw' => by simp [execOp, hop, he, hw']⟩) hrun ?_
            exact ih f _ ((x.1, _) :: pend) _ (st'.put o.dst (.string g)) _ w hf' (hr'.put (fun d e => (okD_spec hdst d e).1) _) (hd.add hrd)
              (fun p hp' => (List.mem_cons.1 hp').elim (fun e => by subst e; exact .inl (List.mem_cons_self ..)) (fun h => (hp p h).imp (List.mem_cons_of_mem _) id))
              (fun f l2 p2 p2' st3 a3 w3 hm h3 h4 => hKK f l2 p2 p2' st3 a3 w3 hm h3 ((hs'.trans (Same.put hdst _ _)).trans h4)) h2
          · exact h.elim
        · exact h.elim
      · rename_i hc
        split at h
        · rename_i hst
          simp only [Bool.and_eq_true] at hst
          obtain ⟨hst, hanc⟩ := hst
          have hrd : Region.ready .any ops listed = [x.1] := by
            unfold okEff at hst
            split at hst
            · rename_i j hj; rw [hj]; simp only [Nat.beq_eq] at hst; rw [hst]
            · cases hst
          have hbef := okAnc_spec hanc (fun c hc => by cases hc)
          refine ⟨fun h0 => (by rw [hrd] at h0; cases h0), fun j hj => ?_⟩
          rw [hrd] at hj
          simp only [List.mem_singleton] at hj
          subst hj
          unfold wpOp
          simp only [ho, hw, if_true]
          refine .inl (Oper.wp_mono ?_ (opC_wp hr' h))
          rintro a2 w2 ⟨st2, hr2, hs2, h2⟩
          obtain ⟨h3, h4⟩ := pendC_spec h2
          refine ⟨Kept.of hp hbef h4, ?_⟩
          exact ih f _ pend pend' st2 a2 w2 hf' hr2 (hd.add (by rw [hrd]; simp)) hp (fun f l2 p2 p2' st3 a3 w3 hm h3 h4 => hKK f l2 p2 p2' st3 a3 w3 hm h3 ((hs'.trans hs2).trans h4)) h3
        · exact h.elim
    · split at h
      · rename_i hst
        obtain ⟨hrd, hfr⟩ := stab hst
        refine wpAnyP_first (v := undef) (ag := fun _ => True) ho (Region.noSelect_spec hsel) f pend' listed a w hd hfr hrd (.inr ⟨hw, rfl⟩) trivial ?_
        exact ih f _ pend _ st' _ w hf' hr' (hd.add hrd) (fun p hp' => (List.mem_cons.1 hp').elim (fun e => by subst e; exact .inr fun _ => trivial) (hp p))
          (fun f l2 p2 p2' st3 a3 w3 hm h3 h4 => hKK f l2 p2 p2' st3 a3 w3 hm h3 (hs'.trans h4)) h
      · exact h.elim
theorem effC_P {ops : Array Oper} {Q : Act → World → Prop} {al : Option (List Nat)} {i : Nat} {anc : List Nat} {pend pend' : Pend} {K : KT} {st : St} {a : Act} {w : World} {G : Act → World → Prop} (hng : noGrd ops i = true) (hr : Rel N st a)
    (hp : ∀ p ∈ pend', p ∈ pend ∨ ∀ w, p.2 w) (hbef : ∀ c ∈ anc, Bef ops c i) (hG : ∀ st' a' w', Rel N st' a' → Same al st st' → K st' w' → G a' w') (h : effC P N al ops i anc pend K st w) :
    wpOp P ops (fun e a w => e = .normal ∧ Q a w) i (fun a' w' => Kept ops pend' i w w' ∧ G a' w') a w := by
  unfold effC at h
  split at h
  · exact h.elim
  rename_i o ho
  split at h
  · unfold noGrd at hng
    rw [ho] at hng
    have hg : o.guard = none := by cases hg : o.guard <;> simp_all
    unfold wpOp
    have hw : Region.wanted o (yielded ops a.tmps) = true := by simp [Region.wanted, hg]
    simp only [ho, hw, if_true]
    refine .inl (Oper.wp_mono ?_ (opC_wp hr h))
    rintro a2 w2 ⟨st2, hr2, hs2, h2⟩
    obtain ⟨h3, h4⟩ := pendC_spec h2
    exact ⟨Kept.of hp hbef h4, hG st2 a2 w2 hr2 hs2 h3⟩
  · exact h.elim
theorem drawC_P {ops : Array Oper} {Q : Act → World → Prop} {al : Option (List Nat)} {K : KT} (hsel : Region.noSelect ops = true) : ∀ (d : DP) (f : Nat) (listed : Array Bool) (pend pend' : Pend) (st : St) (a : Act) (w : World),
    d.len ≤ f → Rel N st a → Dcl ops listed → (∀ p ∈ pend', p ∈ pend ∨ ∀ w, p.2 w) → (∀ st' a' w', Rel N st' a' → Same al st st' → K st' w' → Q a' w') →
    drawC P N al ops K d listed pend st w → wpAnyP P ops Q pend' f listed a w := by
  intro d
  induction d with
  | l xs =>
    intro f listed pend pend' st a w hf hr hd hp hK h
    simp only [drawC] at h
    refine drawL_P (m := 0) hsel xs f listed pend pend' st a w (by simpa [DP.len] using hf) hr hd hp ?_ h
    intro f l2 p2 p2' st2 a2 w2 _ hr2 hs2 _ _ h2
    split at h2
    · rename_i he
      have he : Region.ready .any ops l2 = [] := by simpa using he
      cases f with
      | zero => exact ⟨he, hK st2 a2 w2 hr2 hs2 h2⟩
      | succ f => exact ⟨fun _ => hK st2 a2 w2 hr2 hs2 h2, fun i hi => by rw [he] at hi; cases hi⟩
    · exact h2.elim
  | t xs i ai p j aj q ihp ihq =>
    intro f listed pend pend' st a w hf hr hd hp hK h
    simp only [drawC] at h
    refine drawL_P (m := 1 + max p.len q.len) hsel xs f listed pend pend' st a w (by simp only [DP.len] at hf; omega) hr hd hp ?_ h
    intro f l2 p2 p2' st2 a2 w2 hm hr2 hs2 hd2 hp2 h2
    split at h2
    · rename_i hok
      simp only [Bool.and_eq_true] at hok
      obtain ⟨⟨⟨⟨hok, hai⟩, haj⟩, hgi⟩, hgj⟩ := hok
      obtain ⟨h3, h4⟩ := h2
      obtain ⟨f, rfl⟩ : ∃ g, f = g + 1 := ⟨f - 1, by omega⟩
      have hrd : ∀ k, k ∈ Region.ready .any ops l2 ↔ k = i ∨ k = j := by
        unfold okTwo at hok
        split at hok
        · rename_i x y hxy
          rw [hxy]
          simp only [Bool.or_eq_true, Bool.and_eq_true, Nat.beq_eq] at hok
          intro k
          simp only [List.mem_cons, List.not_mem_nil, or_false]
          rcases hok with ⟨rfl, rfl⟩ | ⟨rfl, rfl⟩
          · exact Iff.rfl
          · exact or_comm
        · cases hok
      refine ⟨fun h0 => ?_, fun k hk => ?_⟩
      · have := (hrd i).2 (.inl rfl)
        rw [h0] at this; cases this
      · have hk' := (hrd k).1 hk
        by_cases hki : k = i
        · subst hki
          exact effC_P hgi hr2 hp2 (okAnc_spec hai (fun c hc => by cases hc)) (fun st3 a3 w3 hr3 hs3 h5 =>
            ihp f _ p2 p2' st3 a3 w3 (by omega) hr3 (hd2.add hk) hp2 (fun st4 a4 w4 h6 h7 h8 => hK st4 a4 w4 h6 ((hs2.trans hs3).trans h7) h8) h5) h3
        · have hkj := hk'.resolve_left hki
          subst hkj
          exact effC_P hgj hr2 hp2 (okAnc_spec haj (fun c hc => by cases hc)) (fun st3 a3 w3 hr3 hs3 h5 =>
            ihq f _ p2 p2' st3 a3 w3 (by omega) hr3 (hd2.add hk) hp2 (fun st4 a4 w4 h6 h7 h8 => hK st4 a4 w4 h6 ((hs2.trans hs3).trans h7) h8) h5) h4
    · exact h2.elim
end
end Go.Proofs.Ytjamgdepbjipdaa.B
