/- What 'comp' reads out of the model's code is enough for the code's own run: code, functions. -/
import Derived.Test.YtjamgdepbjipdaaSound3
namespace Go.Proofs.Ytjamgdepbjipdaa.B
open Go
theorem exists_min {p : Nat → Prop} (h : ∃ n, p n) : ∃ m, p m ∧ ∀ k, p k → m ≤ k := by
  obtain ⟨n, hn⟩ := h
  induction n using Nat.strongRecOn with
  | _ n ih =>
    by_cases hk : ∃ k, k < n ∧ p k
    · obtain ⟨k, hlt, hp⟩ := hk; exact ih k hlt hp
    · exact ⟨n, hn, fun k hp => Nat.le_of_not_lt fun hlt => hk ⟨k, hlt, hp⟩⟩
theorem plGet_cons {α : Type} (d : Nat) (v : α) (r : List (Nat × α)) (t : Nat) : plGet ((d, v) :: r) t = if d = t then some v else plGet r t := by
  simp only [plGet]
  by_cases h : d = t
  · subst h; simp
  · have : Nat.beq d t = false := by rw [← Bool.not_eq_true, Nat.beq_eq]; exact h
    simp [this, h]
section
variable {P : Program} {N : Nat} {pl : Plan} {ret : KT}
theorem comp_wp : ∀ (c : Code) (n : Nat) (al : Option (List Nat)) (ex : Ex) (st : St) (K : KT) (a : Act) (w : World) (R : Exit → Act → World → Prop),
    Rel N st a → (∀ st' a' w', Rel N st' a' → Same al st st' → K st' w' → R .normal a' w') →
    (∀ id k, plGet ex id = some k → ∀ st' a' w', Rel N st' a' → Same al st st' → k st' w' → R (.exit id) a' w') →
    (∀ st' a' w', Rel N st' a' → ret st' w' → R .ret a' w') →
    comp P N pl ret c n al ex st K w → c.wp P R a w := by
  intro c
  induction c with
  | skip => intro n al ex st K a w R hr hK hex hret h; simp only [comp] at h; exact wp_skip (hK st a w hr (Same.refl _ _) h)
  | region id ops draw =>
    intro n al ex st K a w R hr hK hex hret h
    cases draw with
    | false =>
      simp only [comp] at h
      refine wp_region ?_
      have := opsC_wp (R := R) _ _ 0 ops.toList 0 al st K a w [] (fun j v hv => by simpa using hv) hr (fun st' a' w' h1 h2 h3 => by simp only [wpOps]; exact hK st' a' w' h1 h2 h3) h
      rw [List.range_eq_range']
      simpa using this
    | true =>
      simp only [comp] at h
      split at h
      · exact h.elim
      rename_i d hd
      split at h
      · exact h.elim
      rename_i hok
      simp only [Bool.and_eq_true] at hok
      obtain ⟨⟨hm, hsel⟩, hlen⟩ := hok
      have hlen : d.len ≤ ops.size := by simpa using hlen
      refine wp_region_any hm ?_
      have hd0 : Dcl ops (Array.replicate ops.size false) := fun k o ho hk => by
        exfalso
        have hlt : k < ops.size := (Array.getElem?_eq_some_iff.1 ho).1
        simp [hlt] at hk
      have fin : ∀ (al' : Option (List Nat)) (K' : KT), (∀ st' a' w', Rel N st' a' → Same al' st st' → K' st' w' → R .normal a' w') →
          drawC P N al' ops K' d (Array.replicate ops.size false) [] st w.drew → wpAny P .any ops R ops.size (Array.replicate ops.size false) a w.drew := by
        intro al' K' hK' h'
        exact wpAny_of_P (Q := fun a w => R .normal a w) (fun _ _ h => h) _ _ _ _ (drawC_P hsel d ops.size _ [] [] st a w.drew hlen hr hd0 (fun p hp => by cases hp) hK' h')
      simp only [dr] at h
      split at h
      · exact fin al K hK h
      · rename_i j hj
        obtain ⟨K', hb, hs, hK'⟩ := jnC_spec (N := N) hr.kn h (fun a w => R .normal a w) hK
        exact fin (some j.al) K' hK' hb
  | seq x y ihx ihy =>
    intro n al ex st K a w R hr hK hex hret h
    simp only [comp] at h
    refine wp_seq (ihx n al ex st _ a w _ hr (fun st' a' w' h1 h2 h3 => ?_) hex hret h)
    exact ihy _ al ex st' K a' w' R h1 (fun st2 a2 w2 h4 h5 h6 => hK st2 a2 w2 h4 (h2.trans h5) h6) (fun id k hk st2 a2 w2 h4 h5 h6 => hex id k hk st2 a2 w2 h4 (h2.trans h5) h6) hret h3
  | cond c x y ihx ihy =>
    intro n al ex st K a w R hr hK hex hret h
    cases c with
    | tmp s =>
      simp only [comp] at h
      split at h
      · rename_i hk
        have hb := hr.kn _ _ hk
        exact wp_cond_true (by rw [hr.ev (by simp [defO, hb, isU])]; exact hb) (ihx _ al ex st K a w R hr hK hex hret h)
      · rename_i hk
        have hb := hr.kn _ _ hk
        exact wp_cond_false (by rw [hr.ev (by simp [defO, hb, isU])]; exact hb) (ihy _ al ex st K a w R hr hK hex hret h)
      · split at h
        · rename_i c hb
          have he : a.eval (.tmp s) = .bool c := by rw [hr.ev (by simp [defO, hb, isU])]; exact hb
          have fin : ∀ (al' : Option (List Nat)) (K' : KT), (∀ st' a' w', Rel N st' a' → Same al' st st' → K' st' w' → R .normal a' w') →
              (∀ id k, plGet ex id = some k → ∀ st' a' w', Rel N st' a' → Same al' st st' → k st' w' → R (.exit id) a' w') →
              cs c (comp P N pl ret x (n + 1) al' ex (st.know s true) K' w) (comp P N pl ret y (n + 1 + ctlN x) al' ex (st.know s false) K' w) → (Code.cond (.tmp s) x y).wp P R a w := by
            intro al' K' hK' hex' h'
            refine wp_cond_split he (fun hc => ?_) (fun hc => ?_)
            · subst hc
              exact ihx _ al' ex _ K' a w R (hr.know hb) (fun st' a' w' h1 h2 h3 => hK' st' a' w' h1 ((Same.know hb).trans h2) h3) (fun id k hk st' a' w' h1 h2 h3 => hex' id k hk st' a' w' h1 ((Same.know hb).trans h2) h3) hret (h'.1 rfl)
            · subst hc
              exact ihy _ al' ex _ K' a w R (hr.know hb) (fun st' a' w' h1 h2 h3 => hK' st' a' w' h1 ((Same.know hb).trans h2) h3) (fun id k hk st' a' w' h1 h2 h3 => hex' id k hk st' a' w' h1 ((Same.know hb).trans h2) h3) hret (h'.2 rfl)
          split at h
          · exact fin al K hK hex h
          · rename_i j hj
            obtain ⟨K', hb', hs, hK'⟩ := jnC_spec (N := N) hr.kn h (fun a w => R .normal a w) hK
            exact fin (some j.al) K' hK' (fun id k hk st' a' w' h1 h2 h3 => hex id k hk st' a' w' h1 (h2.sub hs) h3) hb'
        · exact h.elim
    | _ => simp [comp] at h
  | block id x ih =>
    intro n al ex st K a w R hr hK hex hret h
    simp only [comp] at h
    have fin : ∀ (al' : Option (List Nat)) (K' : KT), (∀ st' a' w', Rel N st' a' → Same al' st st' → K' st' w' → R .normal a' w') →
        (∀ id k, plGet ex id = some k → ∀ st' a' w', Rel N st' a' → Same al' st st' → k st' w' → R (.exit id) a' w') →
        comp P N pl ret x (n + 1) al' ((id, K') :: ex) st K' w → (Code.block id x).wp P R a w := by
      intro al' K' hK' hex' h'
      refine wp_block (ih _ al' _ st K' a w _ hr hK' (fun i k hk st' a' w' h1 h2 h3 => ?_) hret h')
      rw [plGet_cons] at hk
      simp only [Exit.inBlock]
      split at hk
      · rename_i e; subst e; cases hk
        rw [if_pos rfl]; exact hK' st' a' w' h1 h2 h3
      · rename_i e
        rw [if_neg (Ne.symm e)]; exact hex' i k hk st' a' w' h1 h2 h3
    split at h
    · exact fin al K hK hex h
    · rename_i j hj
      obtain ⟨K', hb', hs, hK'⟩ := jnC_spec (N := N) hr.kn h (fun a w => R .normal a w) hK
      exact fin (some j.al) K' hK' (fun id k hk st' a' w' h1 h2 h3 => hex id k hk st' a' w' h1 (h2.sub hs) h3) hb'
  | loop x ih =>
    intro n al ex st K a w R hr hK hex hret h
    simp only [comp] at h
    split at h
    · exact h.elim
    rename_i j hj
    split at h
    · exact h.elim
    rename_i hs
    split at h
    · exact h.elim
    rename_i t ht
    obtain ⟨I, μ, h0, hstep⟩ := h
    let p : Act → World → Nat → Prop := fun a w m => ∃ t, I t w ∧ Rel N (st.reset j t) a ∧ μ t w = m
    have hmin : ∀ a w, (∃ m, p a w m) → ∃ m, p a w m ∧ ∀ k, p a w k → m ≤ k := fun a w h => exists_min h
    classical
    refine wp_loop (fun a w => ∃ m, p a w m) (fun a w => if h : ∃ m, p a w m then Classical.choose (hmin a w h) else 0) ⟨_, t, h0, hr.reset (Same.refl _ _) hr.kn ht, rfl⟩ ?_
    intro a1 w1 hI
    have hm := Classical.choose_spec (hmin a1 w1 hI)
    obtain ⟨⟨t1, hI1, hr1, hμ1⟩, _⟩ := hm
    have hrs := Same.reset st j t1
    refine ih _ (some j.al) ex (st.reset j t1) _ a1 w1 _ hr1 (fun st' a' w' h1 h2 h3 => ?_) (fun id k hk st' a' w' h1 h2 h3 => hex id k hk st' a' w' h1 ((hrs.trans h2).sub hs) h3) hret (hstep t1 w1 hI1)
    unfold Jp.proj at h3
    split at h3
    · rename_i t2 ht2
      obtain ⟨hI2, hlt⟩ := h3
      have hr2 : Rel N (st.reset j t2) a' := h1.reset (hrs.trans h2) hr.kn ht2
      have hp2 : p a' w' (μ t2 w') := ⟨t2, hI2, hr2, rfl⟩
      have hex2 : ∃ m, p a' w' m := ⟨_, hp2⟩
      refine ⟨hex2, ?_⟩
      show (if h : ∃ m, p a' w' m then Classical.choose (hmin a' w' h) else 0) < (if h : ∃ m, p a1 w1 m then Classical.choose (hmin a1 w1 h) else 0)
      rw [dif_pos hex2, dif_pos hI]
      have := (Classical.choose_spec (hmin a' w' hex2)).2 _ hp2
      rw [hμ1] at hlt
      exact Nat.lt_of_le_of_lt this hlt
    · exact h3.elim
  | exit id =>
    intro n al ex st K a w R hr hK hex hret h
    simp only [comp] at h
    split at h
    · rename_i k hk; exact wp_exit (hex id k hk st a w hr (Same.refl _ _) h)
    · exact h.elim
  | ret => intro n al ex st K a w R hr hK hex hret h; simp only [comp] at h; exact wp_ret (hret st a w hr h)
  | _ => intro n al ex st K a w R hr hK hex hret h; simp [comp] at h

/-! ### functions -/
theorem zipA_get : ∀ (args : List Value) (i t : Nat), frGet (zipA i args) t = if i ≤ t then (args[t - i]?).getD unk else unk := by
  intro args
  induction args with
  | nil => intro i t; simp [zipA, frGet]
  | cons v r ih =>
    intro i t
    simp only [zipA, frGet_cons, ih]
    by_cases h : i = t
    · subst h; simp
    · by_cases h2 : i ≤ t
      · rw [if_neg h, if_pos (by omega), if_pos h2]
        rw [show t - i = (t - (i + 1)) + 1 by omega]
        simp
      · rw [if_neg h, if_neg (by omega), if_neg h2]
def resOne (a : Act) : ResultVar → Sem Value
  | .tmp t => pure (a.tmps.getD t undef)
  | .cell b t => do loadVar t (← asAddr (a.tmps.getD b undef))
theorem resC_run {st : St} {a : Act} {w : World} (hr : Rel N st a) : ∀ {rs : List ResultVar} {f : List Value → Prop}, resC P st w rs f →
    ∃ vs, f vs ∧ (rs.mapM (resOne a)).run P w = .ok vs w := by
  intro rs
  induction rs with
  | nil => intro f h; exact ⟨[], h, by simp⟩
  | cons r rs ih =>
    intro f h
    cases r with
    | tmp t =>
      simp only [resC] at h
      split at h
      · exact h.elim
      · rename_i hu
        obtain ⟨vs, hf, hrun⟩ := ih h
        refine ⟨_, hf, ?_⟩
        rw [List.mapM_cons, Sem.run_bind]
        simp only [resOne, Sem.run_pure, Result.andThen_ok, Sem.run_bind, hrun, hr.fr t hu]
    | cell b t =>
      simp only [resC] at h
      split at h
      · rename_i bl o hb
        obtain ⟨v, h2, hv⟩ := opL_run h
        obtain ⟨vs, hf, hrun⟩ := ih h2
        refine ⟨_, hf, ?_⟩
        rw [List.mapM_cons, Sem.run_bind]
        have := hr.fr b (by rw [hb]; rfl)
        rw [hb] at this
        simp only [resOne, this, asAddr, Sem.run_bind, Sem.run_pure, Result.andThen_ok, hv, hrun]
      · exact h.elim
theorem results_run {fn : Func} {st : St} {a : Act} {w : World} {f : List Value → Prop} (hr : Rel N st a) (h : resC P st w fn.results.toList f) : ∃ vs, f vs ∧ (results fn a.tmps).run P w = .ok (ret1 vs) w := by
  obtain ⟨vs, hf, hrun⟩ := resC_run hr h
  refine ⟨vs, hf, ?_⟩
  have e : results fn a.tmps = (do let vs ← fn.results.mapM (resOne a); pure (if h : vs.size = 1 then vs[0] else .tuple vs)) := by
    unfold results
    congr 1
  rw [e, Sem.run_bind, Array.mapM_eq_mapM_toList, Sem.run_map, hrun]
  simp only [Result.andThen_ok, Sem.run_pure]
  match vs with
  | [] => rfl
  | [v] => rfl
  | v :: u :: r => simp [ret1]
theorem calls_of {f : FuncId} {fn : Func} {args : List Value} {w : World} {R : List Value → World → Prop} (hf : P.funcs[f]? = some fn) (h : compF P fn pl args R w) :
    Calls P f args.toArray w fun e w' => ∃ vs, e = .returned (ret1 vs) ∧ R vs w' := by
  unfold compF at h
  split at h
  · exact h.elim
  rename_i c hb
  split at h
  · rename_i hn
    have hn : args.length ≤ fn.ntmps := by simpa using hn
    have fin : ∀ st' a' w', Rel fn.ntmps st' a' → retC P fn R st' w' → a'.defers = [] ∧ ∃ v, (results fn a'.tmps).run P w' = .ok v w' ∧ ∃ vs, Ending.returned v = .returned (ret1 vs) ∧ R vs w' := by
      intro st' a' w' hr h
      obtain ⟨vs, hR, hrun⟩ := results_run hr h
      exact ⟨hr.defers, _, hrun, vs, rfl, hR⟩
    refine calls_of_wp hf hb (comp_wp (N := fn.ntmps) c 0 none [] _ _ _ w _ ?_ (fun st' a' w' h1 _ h3 => fin st' a' w' h1 h3) (fun id k hk => by cases hk) (fun st' a' w' h1 h3 => fin st' a' w' h1 h3) h)
    refine ⟨by simp; omega, rfl, fun t ht => ?_, fun s b hs => by cases hs⟩
    simp only [zipA_get, Nat.zero_le, if_true, Nat.sub_zero] at ht ⊢
    by_cases hlt : t < args.length
    · rw [Array.getD_eq_getD_getElem?, Array.getElem?_append_left (by simpa using hlt)]; simp [hlt]
    · simp [List.getElem?_eq_none (Nat.le_of_not_lt hlt), isU, unk] at ht
  · exact h.elim
theorem cl_of {f : FuncId} {fn : Func} {args : List Value} {ks : List Kd} {w : World} {K : TK ks → World → Prop} {S : Prop} (hf : P.funcs[f]? = some fn)
    (tie : compF P fn pl args (fun vs w' => ∃ t, encK ks t = vs ∧ K t w') w = S) (h : S) : cl P f args ks w K := by
  rw [← tie] at h
  refine Calls.mono (calls_of hf h) ?_
  rintro e w' ⟨vs, rfl, t, rfl, hK⟩
  exact ⟨t, rfl, hK⟩
end
#print axioms cl_of
end Go.Proofs.Ytjamgdepbjipdaa.B
