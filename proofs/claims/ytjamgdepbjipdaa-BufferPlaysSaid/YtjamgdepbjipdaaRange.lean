/- A range over a map: what is left of it, one step, its entry, an entry that is laid over. -/
import Derived.Test.YtjamgdepbjipdaaSep5
import Derived.Maps.RangeRun
namespace Go.Proofs.Ytjamgdepbjipdaa.B
open Go
open Go.MapKept
set_option linter.unusedVariables false
section
variable {P : Program} {e w : World} {L : List SP} {b r : Nat} {f : Int → Option Value} {t : TypeId} {z : Value}
/-- how many are left -/
def leftN (es : Array MapEntry) (seen : Array Nat) : Nat := ((es.toList.map (·.born)).filter fun x => !seen.contains x).length
def rangeI (b r : Nat) (f : Int → Option Value) (T : Int → Prop) (n : Nat) (cur : Option Int) (es : Array MapEntry) (clock since : Nat) (seen : Array Nat) (c0 : Nat) : Prop :=
  mapIs es clock f ∧ (∀ x ∈ es.toList, x.born < since) ∧ (since ≤ c0 ∧ since ≤ clock) ∧ leftN es seen = n ∧
  (∀ k, T k ↔ ∃ x ∈ es.toList, x.key = .int .i64 k ∧ seen.contains x.born = false) ∧
  ∀ k, cur = some k → c0 = clock ∧ ∃ x ∈ es.toList, x.key = .int .i64 k ∧ ∃ s' : Array Nat, seen = s'.push x.born
/-- a map, and an iterator over it: T are the keys that are to come; the one that was handed out last -/
def rgP (b r : Nat) (f : Int → Option Value) (T : Int → Prop) (n : Nat) (cur : Option Int) : SP := fun h => ∃ es clock since seen c0,
  h b = some (.map es clock) ∧ h r = some (.mapIter (some b) since seen c0) ∧ rangeI b r f T n cur es clock since seen c0
def rgM (r : Nat) (w : World) : Nat := match w.heap[r]? with
  | some (.mapIter (some b) _ seen _) => match w.heap[b]? with
    | some (.map es _) => leftN es seen
    | _ => 0
  | _ => 0
theorem Ok.impW {A B : SP} (h : Ok e (A :: L) w) (hB : ∀ k : Hp, A k → (∀ j u, k j = some u → w.heap[j]? = some u) → B k) : Ok e (B :: L) w := by
  obtain ⟨h1, h2, hd, he, hA, hL⟩ := h.heap
  refine ⟨h.os, h.tape, h.output, h1, h2, hd, he, hB h1 hA fun j u hj => ?_, hL⟩
  have := congrFun he j
  simp only [hpOf, Hp.un, hj] at this
  exact this
theorem Ok.setPart {A B : SP} {b : Nat} {o' : Obj} (h : Ok e (A :: L) w) (hA : ∀ k : Hp, A k → ∃ o, k b = some o)
    (hB : ∀ k : Hp, A k → (∀ j u, k j = some u → w.heap[j]? = some u) → B (fun j => if j = b then some o' else k j)) : Ok e (B :: L) { w with heap := w.heap.setIfInBounds b o' } := by
  obtain ⟨h1, h2, hd, he, hp, hL⟩ := h.heap
  have hw : ∀ j u, h1 j = some u → w.heap[j]? = some u := fun j u hj => by
    have := congrFun he j
    simp only [hpOf, Hp.un, hj] at this
    exact this
  obtain ⟨o, ho⟩ := hA h1 hp
  have hs := heap_set (o' := o') (hw _ _ ho)
  have h2b : h2 b = none := by
    rcases hd b with e | e
    · rw [ho] at e; cases e
    · exact e
  refine ⟨h.os, h.tape, h.output, fun j => if j = b then some o' else h1 j, h2, fun j => ?_, ?_, hB h1 hp hw, hL⟩
  · by_cases hk : j = b
    · subst hk; exact .inr h2b
    · simpa [hk] using hd j
  · funext j
    have := congrFun he j
    simp only [hpOf, Hp.un] at this ⊢
    by_cases hk : j = b
    · subst hk; simp [hs.1]
    · simp only [hk, if_false]; rw [hs.2 j hk, this]
theorem Ok.rangeE {T : Int → Prop} {n : Nat} {cur : Option Int} (h : Ok e (rgP b r f T n cur :: L) w) : ∃ es clock since seen c0, w.heap[b]? = some (.map es clock) ∧ w.heap[r]? = some (.mapIter (some b) since seen c0) ∧ rangeI b r f T n cur es clock since seen c0 := by
  obtain ⟨h1, h2, hd, he, ⟨es, clock, since, seen, c0, hb, hr, hi⟩, hL⟩ := h.heap
  refine ⟨es, clock, since, seen, c0, ?_, ?_, hi⟩
  · have := congrFun he b
    simp only [hpOf, Hp.un, hb] at this
    exact this
  · have := congrFun he r
    simp only [hpOf, Hp.un, hr] at this
    exact this
theorem rgM_eq {T : Int → Prop} {n : Nat} {cur : Option Int} (h : Ok e (rgP b r f T n cur :: L) w) : rgM r w = n := by
  obtain ⟨es, clock, since, seen, c0, hb, hr, hi⟩ := h.rangeE
  unfold rgM
  rw [hr]
  simp only [hb]
  exact hi.2.2.2.1
theorem rg_end {T : Int → Prop} {n : Nat} {cur : Option Int} (h : Ok e (rgP b r f T n cur :: L) w) : Ok e (mpP b f :: L) w :=
  h.imp fun k ⟨es, clock, since, seen, c0, hb, hr, hi⟩ => ⟨es, clock, hb, hi.1⟩
theorem rn.mk {K : Nat → World → Prop} (T : MapT P t z) (h : Ok e (mpP b f :: L) w) (kk : ∀ r n w', Ok e (rgP b r f (fun k => (f k).isSome = true) n none :: L) w' → K r w') : rn P t (.map (some b)) w K := by
  obtain ⟨kt, el, i, ht, hk, hi, hz⟩ := T.ex
  obtain ⟨es, clock, hb, hm⟩ := h.mapE
  refine ⟨_, _, run_range_map w t kt el b es clock ht hb, kk _ (leftN es #[]) _ ?_⟩
  have hlt : b < w.heap.size := by
    rcases Nat.lt_or_ge b w.heap.size with h | h
    · exact h
    · rw [Array.getElem?_eq_none h] at hb; cases hb
  have h2 : Ok e ((fun k : Hp => k w.heap.size = some (.mapIter (some b) clock #[] clock)) :: mpP b f :: L) (w.alloc (.mapIter (some b) clock #[] clock)) := by
    refine ⟨h.os, h.tape, h.output, fun k => if k = w.heap.size then some (.mapIter (some b) clock #[] clock) else none, hpOf w, fun k => ?_, ?_, by simp, h.heap⟩
    · by_cases hk : k = w.heap.size
      · subst hk; right; simp [hpOf]
      · left; simp [hk]
    · funext j
      by_cases hk : j = w.heap.size
      · subst hk
        simp only [hpOf, Hp.un, if_pos]
        exact heap_alloc_new w _
      · simp only [hpOf, Hp.un, hk, if_false]
        show (w.heap.push _)[j]? = w.heap[j]?
        rw [Array.getElem?_push, if_neg hk]
  have h3 : Ok e (oksH [(fun k : Hp => k w.heap.size = some (.mapIter (some b) clock #[] clock)), mpP b f] :: L) (w.alloc (.mapIter (some b) clock #[] clock)) := Ok.pack (M := [_, _]) h2
  refine h3.impW fun k hk hkw => ?_
  obtain ⟨k1, k2, hd, rfl, hk1, k3, k4, hd2, rfl, hk3, _⟩ := hk
  obtain ⟨es1, clock1, hb1, hm1⟩ := hk3
  have hdr : k1 b = none := by
    rcases hd b with h | h
    · exact h
    · simp only [Hp.un, hb1] at h; cases h
  have e2 : (w.alloc (.mapIter (some b) clock #[] clock)).heap[b]? = some (.map es1 clock1) := hkw b _ (by simp only [Hp.un, hdr, hb1])
  have e3 : (w.alloc (.mapIter (some b) clock #[] clock)).heap[b]? = some (.map es clock) := by rw [heap_alloc_old w _ hlt]; exact hb
  rw [e3] at e2
  cases e2
  refine ⟨es, clock, clock, #[], clock, by simp only [Hp.un, hdr, hb1], by simp only [Hp.un, hk1], hm, fun x hx => hm.1.1 x hx, ⟨Nat.le_refl _, Nat.le_refl _⟩, rfl, fun k => ?_, fun k hk => by cases hk⟩
  show (f k).isSome = true ↔ _
  rw [Option.isSome_iff_exists]
  constructor
  · rintro ⟨v, hv⟩
    obtain ⟨x, hx, hxk, _⟩ := (hm.2.2 k v).1 hv
    exact ⟨x, hx, hxk, by simp⟩
  · rintro ⟨x, hx, hxk, _⟩
    exact ⟨x.val, (hm.2.2 k _).2 ⟨x, hx, hxk, rfl⟩⟩
theorem nx.mk {K0 : World → Prop} {K1 : Int → Sl → World → Prop} {T : Int → Prop} {n : Nat} {cur : Option Int} {ty : TypeId} (h : Ok e (rgP b r f T n cur :: L) w) (hv : ∀ k, T k → ∃ s, f k = some (vS s))
    (k0 : (∀ k, ¬ T k) → K0 w) (k1 : ∀ k s n' w', T k → f k = some (vS s) → n' < n → Ok e (rgP b r f (fun j => T j ∧ j ≠ k) n' (some k) :: L) w' → K1 k s w') : nx P ty (.pointer (some ⟨r, 0, none⟩)) w K0 K1 := by
  obtain ⟨es, clock, since, seen, c0, hb, hr, hm, hold, ⟨hsc, hsk⟩, hn, hT, hcur⟩ := h.rangeE
  rcases run_next_at (P := P) w ty r b since c0 seen es clock hr hb hold hsc with ⟨h0, hrun⟩ | ⟨x, hx, w1, hw1, hrun⟩
  · refine .inl ⟨w, hrun, k0 fun k hk => ?_⟩
    obtain ⟨y, hy, _, hs⟩ := (hT k).1 hk
    rw [all_seen es seen h0 y hy] at hs
    cases hs
  · obtain ⟨hxe, hxs⟩ := mem_left hx
    obtain ⟨k, hk⟩ : ∃ k, x.key = .int .i64 k := by
      have := hm.2.1 x hxe
      cases hxk : x.key <;> rw [hxk] at this <;> simp only [IsKey] at this
      subst this
      exact ⟨_, rfl⟩
    have hTk : T k := (hT k).2 ⟨x, hxe, hk, hxs⟩
    have hfk : f k = some x.val := (hm.2.2 k _).2 ⟨x, hxe, hk, rfl⟩
    obtain ⟨s, hs⟩ := hv k hTk
    have hval : x.val = vS s := by rw [hfk] at hs; exact Option.some.inj hs
    rw [hk, hval] at hrun
    refine .inr ⟨k, s, _, hrun, k1 k s (leftN es (seen.push x.born)) _ hTk hs ?_ ?_⟩
    · rw [← hn]
      refine filter_lt _ _ (fun y hy => ?_) x.born (by simpa using hxs) (by simp) _ (List.mem_map.2 ⟨x, hxe, rfl⟩)
      simp only [contains_push, Bool.not_eq_true', Bool.or_eq_false_iff] at hy
      simpa using hy.1
    · have h' : Ok e (rgP b r f T n cur :: L) w1 := by rcases hw1 with rfl | rfl; exact h; exact h.drew
      have hb1 : w1.heap[b]? = some (.map es clock) := by rcases hw1 with rfl | rfl <;> exact hb
      have hne : b ≠ r := fun he => by rw [he, hr] at hb; cases hb
      refine h'.setPart (b := r) (fun k ⟨_, _, _, _, _, _, hr, _⟩ => ⟨_, hr⟩) fun k ⟨es', clock', _, _, _, hb', hr', _⟩ hkw => ?_
      have e1 := hkw b _ hb'
      rw [hb1] at e1
      cases e1
      refine ⟨es, clock, since, seen.push x.born, clock, by simp only [if_neg hne]; exact hb', by simp, hm, hold, ⟨hsk, hsk⟩, rfl, fun j => ?_, fun j hj => ⟨rfl, x, hxe, by cases hj; exact hk, seen, rfl⟩⟩
      · constructor
        · rintro ⟨hTj, hjk⟩
          obtain ⟨y, hy, hyk, hys⟩ := (hT j).1 hTj
          refine ⟨y, hy, hyk, ?_⟩
          rw [contains_push, hys, Bool.false_or]
          refine beq_eq_false_iff_ne.2 fun he => hjk ?_
          have := born_inj hm.1.2.1 hy hxe he
          rw [this, hk] at hyk
          cases hyk
          rfl
        · rintro ⟨y, hy, hyk, hys⟩
          rw [contains_push, Bool.or_eq_false_iff] at hys
          refine ⟨(hT j).2 ⟨y, hy, hyk, hys.1⟩, fun hjk => ?_⟩
          rw [hjk] at hyk
          have h1 : y.key = x.key := hyk.trans hk.symm
          have h2 : y = x := by
            have hnd := hm.1.2.2
            obtain ⟨i, hi⟩ := List.mem_iff_getElem?.1 hy
            obtain ⟨j', hj'⟩ := List.mem_iff_getElem?.1 hxe
            have a1 : (es.toList.map (·.key))[i]? = some x.key := by rw [List.getElem?_map, hi]; simp [h1]
            have a2 : (es.toList.map (·.key))[j']? = some x.key := by rw [List.getElem?_map, hj']; rfl
            obtain ⟨b1, b2⟩ := List.getElem?_eq_some_iff.1 a1
            obtain ⟨b3, b4⟩ := List.getElem?_eq_some_iff.1 a2
            have := (List.getElem_inj hnd).1 (b2.trans b4.symm)
            rw [this, hj'] at hi
            exact (Option.some.inj hi).symm
          rw [h2] at hys
          simp at hys
theorem ef.entry {K : TK [.l (.i .i64), .l .s] → World → Prop} {T : Int → Prop} {n : Nat} {k : Int} {s : Sl} (h : Ok e (rgP b r f T n (some k) :: L) w) (hf : f k = some (vS s)) (kk : K (k, s, ()) w) :
    ef P (Instr.entry (.pointer (some ⟨r, 0, none⟩))) [.l (.i .i64), .l .s] w K := by
  obtain ⟨es, clock, since, seen, c0, hb, hr, hm, hold, ⟨hsc, hsk⟩, hn, hT, hcur⟩ := h.rangeE
  obtain ⟨hc, x, hx, hxk, s', hs'⟩ := hcur k rfl
  subst hc
  subst hs'
  have hfk : f k = some x.val := (hm.2.2 k _).2 ⟨x, hx, hxk, rfl⟩
  have hval : x.val = vS s := by rw [hfk] at hf; exact Option.some.inj hf
  refine ⟨(k, s, ()), w, ?_, kk⟩
  rw [run_entry_at w r b since s' es c0 x hr hb hx hm.1.2.1, hxk, hval]
  rfl
theorem efU.rgUpdate {K : World → Prop} {T : Int → Prop} {n : Nat} {cur : Option Int} {k : Int} {v : Value} (M : MapT P t z) (h : Ok e (rgP b r f T n cur :: L) w) (hk : (f k).isSome = true) (kk : ∀ w', Ok e (rgP b r (upd f k (some v)) T n none :: L) w' → K w') :
    efU P (Instr.mapUpdate t (.map (some b)) (.int .i64 k) v) w K := by
  obtain ⟨kt, el, i, ht, hkt, hi, hz⟩ := M.ex
  obtain ⟨es, clock, since, seen, c0, hb, hr, hm, hold, ⟨hsc, hsk⟩, hn, hT, hcur⟩ := h.rangeE
  obtain ⟨w', hrun, hw'⟩ : efU P (Instr.mapUpdate t (.map (some b)) (.int .i64 k) v) w fun w' => ∃ es', w' = { w with heap := w.heap.setIfInBounds b (.map es' clock) } ∧ mapIs es' clock (upd f k (some v)) ∧ es'.toList.map (·.born) = es.toList.map (·.born) ∧ es'.toList.map (·.key) = es.toList.map (·.key) := by
    have hc := MapKept.run_checkKey (P := P) (w := w) (k := .int .i64 k) hkt rfl false 9999
    rcases mapIs_find hm k with ⟨h1, h2, h3⟩ | ⟨j, x, h1, hj, hxk, h2⟩
    · rw [h2] at hk; cases hk
    have hf := MapKept.run_findKey (P := P) (w := w) hkt h1
    have hj' : es[j]? = some x := by simpa using hj
    have hrun : (Instr.mapUpdate t (.map (some b)) (.int .i64 k) v).run P w = .ok () { w with heap := w.heap.setIfInBounds b (.map (es.modify j fun e => { e with key := .int .i64 k, val := v }) clock) } := by
      simp [Instr.mapUpdate, run_underlying ht, MapKept.run_getObj_map hb, hc, hf, hj', hxk, Instr.keyThatStays, Instr.sameBits, MapKept.run_setObj_map _ hb]
    have hmap : ∀ {α : Type} (g : MapEntry → α), g { x with key := .int .i64 k, val := v } = g x → (es.modify j fun e => { e with key := .int .i64 k, val := v }).toList.map g = es.toList.map g := by
      intro α g hg
      apply List.ext_getElem?
      intro i
      rw [List.getElem?_map, List.getElem?_map, Array.getElem?_toList, Array.getElem?_toList, Array.getElem?_modify]
      by_cases hij : j = i
      · rw [if_pos hij, ← hij, hj']; simp [hg]
      · rw [if_neg hij]
    refine ⟨_, hrun, _, rfl, ?_, hmap _ rfl, hmap _ hxk.symm⟩
    have h0 : Ok e (mpP b f :: L) w := rg_end h
    obtain ⟨w2, hrun2, h2⟩ := efU.mapUpdate (P := P) (K := fun w' => ∃ es' clock', w'.heap[b]? = some (.map es' clock') ∧ mapIs es' clock' (upd f k (some v))) M h0 fun w' h => h.mapE
    rw [hrun] at hrun2
    cases hrun2
    obtain ⟨es', clock', hb', hm'⟩ := h2
    have hlt : b < w.heap.size := by
      rcases Nat.lt_or_ge b w.heap.size with h | h
      · exact h
      · rw [Array.getElem?_eq_none h] at hb; cases hb
    rw [Array.getElem?_setIfInBounds_self_of_lt hlt] at hb'
    cases hb'
    exact hm'
  obtain ⟨es', rfl, hm', hborn, hkey⟩ := hw'
  refine ⟨_, hrun, kk _ ?_⟩
  have hne : r ≠ b := fun he => by rw [he, hb] at hr; cases hr
  refine h.setPart (b := b) (fun k ⟨_, _, _, _, _, hb, _, _⟩ => ⟨_, hb⟩) fun hp ⟨_, _, since1, seen1, c1, hb', hr', _⟩ hkw => ?_
  have e1 := hkw r _ hr'
  rw [hr] at e1
  cases e1
  have hpair : ∀ (j : Int) (u : Bool), (∃ x ∈ es'.toList, x.key = .int .i64 j ∧ seen.contains x.born = u) ↔ ∃ x ∈ es.toList, x.key = .int .i64 j ∧ seen.contains x.born = u := by
    have one : ∀ (a c : Array MapEntry), a.toList.map (·.born) = c.toList.map (·.born) → a.toList.map (·.key) = c.toList.map (·.key) → ∀ (j : Int) (u : Bool), (∃ x ∈ a.toList, x.key = .int .i64 j ∧ seen.contains x.born = u) → ∃ x ∈ c.toList, x.key = .int .i64 j ∧ seen.contains x.born = u := by
      rintro a c h1 h2 j u ⟨x, hx, hxk, hxs⟩
      obtain ⟨i, hi⟩ := List.mem_iff_getElem?.1 hx
      have a1 := congrArg (·[i]?) h1
      have a2 := congrArg (·[i]?) h2
      simp only [List.getElem?_map, hi, Option.map_some] at a1 a2
      cases hy : c.toList[i]? with
      | none => rw [hy] at a1; cases a1
      | some y =>
        rw [hy] at a1 a2
        simp only [Option.map_some, Option.some.injEq] at a1 a2
        exact ⟨y, List.mem_of_getElem? hy, by rw [← a2]; exact hxk, by rw [← a1]; exact hxs⟩
    exact fun j u => ⟨one es' es hborn hkey j u, one es es' hborn.symm hkey.symm j u⟩
  refine ⟨es', clock, since, seen, c0, by simp, by simp only [if_neg hne]; exact hr', hm', fun x hx => ?_, ⟨hsc, hsk⟩, ?_, fun j => (hT j).trans (hpair j false).symm, fun j hj => by cases hj⟩
  · have : x.born ∈ es'.toList.map (·.born) := List.mem_map.2 ⟨x, hx, rfl⟩
    rw [hborn] at this
    obtain ⟨y, hy, hyb⟩ := List.mem_map.1 this
    rw [← hyb]
    exact hold y hy
  · unfold leftN
    rw [hborn]
    exact hn
end
end Go.Proofs.Ytjamgdepbjipdaa.B
