/- What 'comp' reads out of the model's code is enough for the code's own run: frames, regions, code. -/
import Derived.Test.YtjamgdepbjipdaaSound
namespace Go.Proofs.Ytjamgdepbjipdaa.B
open Go

/-! ### frames -/
theorem frGet_cons (d : Nat) (v : Value) (r : Fr) (t : Nat) : frGet ((d, v) :: r) t = if d = t then v else frGet r t := by
  simp only [frGet]
  by_cases h : d = t
  · subst h; simp
  · have : Nat.beq d t = false := by rw [← Bool.not_eq_true, Nat.beq_eq]; exact h
    simp [this, h]
theorem knGet_cons (d : Nat) (v : Bool) (r : List (Nat × Bool)) (t : Nat) : knGet ((d, v) :: r) t = if d = t then some v else knGet r t := by
  simp only [knGet]
  by_cases h : d = t
  · subst h; simp
  · have : Nat.beq d t = false := by rw [← Bool.not_eq_true, Nat.beq_eq]; exact h
    simp [this, h]
theorem knGet_del (kn : List (Nat × Bool)) (d s : Nat) : knGet (knDel kn d) s = if d = s then none else knGet kn s := by
  induction kn with
  | nil => simp [knDel, knGet]
  | cons x r ih =>
    obtain ⟨k, b⟩ := x
    simp only [knDel]
    by_cases h : k = d
    · subst h
      simp only [Nat.beq_refl]
      rw [ih, knGet_cons]
      by_cases h2 : k = s <;> simp [h2]
    · have : Nat.beq k d = false := by rw [← Bool.not_eq_true, Nat.beq_eq]; exact h
      simp only [this]
      rw [knGet_cons, knGet_cons, ih]
      by_cases h2 : k = s
      · subst h2; simp [Ne.symm h]
      · simp [h2]
theorem memN_iff (l : List Nat) (t : Nat) : memN l t = true ↔ t ∈ l := by
  induction l with
  | nil => simp [memN]
  | cons x r ih =>
    simp only [memN]
    by_cases h : x = t
    · subst h; simp
    · have : Nat.beq x t = false := by rw [← Bool.not_eq_true, Nat.beq_eq]; exact h
      simp [this, ih, Ne.symm h]
structure Rel (N : Nat) (st : St) (a : Act) : Prop where
  size : a.tmps.size = N
  defers : a.defers = []
  fr : ∀ t, isU (frGet st.fr t) = false → a.tmps.getD t undef = frGet st.fr t
  kn : ∀ s b, knGet st.kn s = some b → frGet st.fr s = .bool b
def Same (al : Option (List Nat)) (st st' : St) : Prop := ∀ t, alOk al t = false → frGet st'.fr t = frGet st.fr t
theorem Same.refl (al : Option (List Nat)) (st : St) : Same al st st := fun _ _ => rfl
theorem Same.trans {al : Option (List Nat)} {a b c : St} (h : Same al a b) (k : Same al b c) : Same al a c := fun t ht => (k t ht).trans (h t ht)
theorem okD_spec {N : Nat} {al : Option (List Nat)} {dst : Option Nat} (h : okD N al dst = true) : ∀ d, dst = some d → d < N ∧ alOk al d = true := by
  rintro d rfl
  simp only [okD] at h
  split at h
  · rename_i h1
    exact ⟨by simpa [Nat.blt_eq] using h1, h⟩
  · cases h
theorem Same.put {al : Option (List Nat)} {N : Nat} {dst : Option Nat} (h : okD N al dst = true) (st : St) (v : Value) : Same al st (st.put dst v) := by
  intro t ht
  cases dst with
  | none => rfl
  | some d =>
    have := (okD_spec h d rfl).2
    have hne : d ≠ t := by rintro rfl; rw [this] at ht; cases ht
    simp only [St.put, St.set, frGet_cons, if_neg hne]
theorem getD_put {a : Act} {d t : Nat} {v : Value} (hd : d < a.tmps.size) : (a.put (some d) v).tmps.getD t undef = if d = t then v else a.tmps.getD t undef := by
  simp only [Act.put]
  by_cases h : d = t
  · subst h; simp [hd]
  · simp [h, Array.getElem?_setIfInBounds_ne h]
theorem Rel.put {N : Nat} {st : St} {a : Act} (h : Rel N st a) {dst : Option Nat} (hd : ∀ d, dst = some d → d < N) (v : Value) : Rel N (st.put dst v) (a.put dst v) := by
  cases dst with
  | none => exact h
  | some d =>
    have hlt : d < a.tmps.size := by rw [h.size]; exact hd d rfl
    refine ⟨by simp [Act.put, h.size], h.defers, fun t ht => ?_, fun s b hs => ?_⟩
    · rw [getD_put hlt]
      simp only [St.put, St.set, frGet_cons] at ht ⊢
      split
      · rfl
      · rename_i hne; simp only [hne, if_false] at ht; exact h.fr t ht
    · simp only [St.put, St.set, frGet_cons] at hs ⊢
      rw [knGet_del] at hs
      split at hs
      · cases hs
      · rename_i hne; simp only [hne, if_false]; exact h.kn s b hs
theorem know_fr {st : St} {s : Nat} {b : Bool} (h : frGet st.fr s = .bool b) (t : Nat) : frGet (st.know s b).fr t = frGet st.fr t := by
  simp only [St.know, frGet_cons]
  split
  · rename_i e; subst e; exact h.symm
  · rfl
theorem Rel.know {N : Nat} {st : St} {a : Act} (h : Rel N st a) {s : Nat} {b : Bool} (hb : frGet st.fr s = .bool b) : Rel N (st.know s b) a := by
  refine ⟨h.size, h.defers, fun t ht => ?_, fun t c hc => ?_⟩
  · rw [know_fr hb] at ht ⊢; exact h.fr t ht
  · rw [know_fr hb]
    simp only [St.know, knGet_cons] at hc
    split at hc
    · rename_i e; subst e; cases hc; exact hb
    · exact h.kn t c hc
theorem Same.know {al : Option (List Nat)} {st : St} {s : Nat} {b : Bool} (hb : frGet st.fr s = .bool b) : Same al st (st.know s b) := fun t _ => know_fr hb t
theorem Rel.ev {N : Nat} {st : St} {a : Act} (h : Rel N st a) {x : Operand} (hx : defO st.fr x = true) : a.eval x = evD st.fr x := by
  cases x with
  | tmp t => simp only [defO, Bool.not_eq_true'] at hx; exact h.fr t hx
  | _ => rfl
theorem allDef_spec {fr : Fr} : ∀ {l : List Operand}, allDef fr l = true → ∀ x ∈ l, defO fr x = true := by
  intro l
  induction l with
  | nil => intro _ x hx; cases hx
  | cons y r ih =>
    intro h x hx
    simp only [allDef] at h
    split at h
    · rename_i hy
      rcases List.mem_cons.1 hx with rfl | hx
      · exact hy
      · exact ih h x hx
    · cases h
theorem over_put {st : St} {d : Option Nat} {x : Operand} (t : Nat) : frGet (st.over d x).fr t = frGet (st.put d (evD st.fr x)).fr t := by
  unfold St.over
  split <;> rfl
theorem Rel.over {N : Nat} {st : St} {a : Act} (h : Rel N st a) {dst : Option Nat} (hd : ∀ d, dst = some d → d < N) (x : Operand) : Rel N (st.over dst x) (a.put dst (evD st.fr x)) := by
  have hp := h.put hd (evD st.fr x)
  refine ⟨hp.size, hp.defers, fun t ht => ?_, fun s b hs => ?_⟩
  · rw [over_put] at ht ⊢; exact hp.fr t ht
  · rw [over_put]
    unfold St.over at hs
    split at hs
    · rename_i d c hk
      simp only [knGet_cons] at hs
      split at hs
      · rename_i e; subst e; cases hs
        simp only [St.put, St.set, frGet_cons, if_true]
        cases x with
        | tmp t => exact h.kn t _ hk
        | const v => cases v <;> simp [knO] at hk; subst hk; rfl
        | _ => simp [knO] at hk
      · rename_i hne
        rw [knGet_del, if_neg hne] at hs
        simp only [St.put, St.set, frGet_cons, if_neg hne]
        exact h.kn s b hs
    · exact hp.kn s b hs
    · exact h.kn s b hs
theorem Same.over {al : Option (List Nat)} {N : Nat} {dst : Option Nat} (h : okD N al dst = true) (st : St) (x : Operand) : Same al st (st.over dst x) := fun t ht => by
  rw [over_put]; exact Same.put h st _ t ht

/-! ### one operation -/
section
variable {P : Program} {N : Nat} {al : Option (List Nat)}
/-- what an operation leaves: a frame that fits -/
def Step (N : Nat) (al : Option (List Nat)) (st : St) (K : KT) : Act → World → Prop := fun a' w' => ∃ st', Rel N st' a' ∧ Same al st st' ∧ K st' w'
theorem overC_spec {st : St} {a : Act} {dst : Option Nat} {x : Operand} {K : KT} {w : World} (hr : Rel N st a) (hd : okD N al dst = true) (h : overC st dst x K w) :
    Step N al st K (a.put dst (a.eval x)) w := by
  unfold overC at h
  split at h
  · rename_i hx
    rw [hr.ev hx]
    exact ⟨_, hr.over (fun d e => (okD_spec hd d e).1) x, Same.over hd st x, h⟩
  · exact h.elim
theorem opC_pure {o : Oper} {st : St} {a : Act} {K : KT} {w : World} (hr : Rel N st a) (hc : clOf P o.op = .pu) (h : opC P N al o st K w) :
    ∃ v, Step N al st K (a.put o.dst v) w ∧ ∀ w', (execOp a.eval o).run P w' = .ok (.value v) w' := by
  unfold opC at h
  split at h
  · exact h.elim
  rename_i hd
  split at h
  · rename_i x hop; exact ⟨_, overC_spec hr hd h, fun w' => by simp [execOp, hop]⟩
  · rename_i x hop; exact ⟨_, overC_spec hr hd h, fun w' => by simp [execOp, hop]⟩
  · rename_i s x y hop
    split at h
    · rename_i hk
      have hb := hr.kn _ _ hk
      have he : a.eval (.tmp s) = .bool true := by rw [hr.ev (by simp [defO, hb, isU])]; exact hb
      exact ⟨_, overC_spec hr hd h, fun w' => by simp [execOp, hop, he, asBool]⟩
    · rename_i hk
      have hb := hr.kn _ _ hk
      have he : a.eval (.tmp s) = .bool false := by rw [hr.ev (by simp [defO, hb, isU])]; exact hb
      exact ⟨_, overC_spec hr hd h, fun w' => by simp [execOp, hop, he, asBool]⟩
    · split at h
      · rename_i b hb
        have he : a.eval (.tmp s) = .bool b := by rw [hr.ev (by simp [defO, hb, isU])]; exact hb
        cases b with
        | true =>
          obtain ⟨st', h1, h2, h3⟩ := overC_spec (hr.know hb) hd (h.1 rfl)
          exact ⟨_, ⟨st', h1, (Same.know hb).trans h2, h3⟩, fun w' => by simp [execOp, hop, he, asBool]⟩
        | false =>
          obtain ⟨st', h1, h2, h3⟩ := overC_spec (hr.know hb) hd (h.2 rfl)
          exact ⟨_, ⟨st', h1, (Same.know hb).trans h2, h3⟩, fun w' => by simp [execOp, hop, he, asBool]⟩
      · exact h.elim
  · exact h.elim
  · rename_i op hm ha hp hs
    split at h
    · rename_i hdef
      unfold opV at h
      rw [hc] at h
      obtain ⟨v, hk, hv⟩ := opP_run h
      have he : execOp a.eval o = execOp (evD st.fr) o := execOp_congr o (fun cs b e => hs cs b e) fun x hx => hr.ev (allDef_spec hdef x (by simpa using hx))
      exact ⟨v, ⟨_, hr.put (fun d e => (okD_spec hd d e).1) v, Same.put hd st v, hk⟩, fun w' => by rw [he]; exact hv w'⟩
    · exact h.elim
theorem opC_wp {o : Oper} {st : St} {a : Act} {K : KT} {w : World} {Q : Exit → Act → World → Prop} (hr : Rel N st a) (h : opC P N al o st K w) :
    o.wp P a w (Step N al st K) Q := by
  by_cases hc : clOf P o.op = .pu
  · obtain ⟨v, hs, hv⟩ := opC_pure hr hc h
    unfold Oper.wp; rw [hv w]; exact hs
  · unfold opC at h
    split at h
    · exact h.elim
    rename_i hd
    split at h
    · rename_i x hop; rw [hop] at hc; exact absurd rfl hc
    · rename_i x hop; rw [hop] at hc; exact absurd rfl hc
    · rename_i s x y hop; rw [hop] at hc; exact absurd rfl hc
    · exact h.elim
    · rename_i op hm ha hp hs
      split at h
      · rename_i hdef
        have he : execOp a.eval o = execOp (evD st.fr) o := execOp_congr o (fun cs b e => hs cs b e) fun x hx => hr.ev (allDef_spec hdef x (by simpa using hx))
        refine Oper.wp_mono ?_ (opV_wp he h)
        rintro a' w' ⟨v, rfl, hk⟩
        exact ⟨_, hr.put (fun d e => (okD_spec hd d e).1) v, Same.put hd st v, hk⟩
      · exact h.elim
theorem yielded_bool {ops : Array Oper} {j s : Nat} {a : Act} {b : Bool} (hj : (ops[j]?).bind (·.dst) = some s) (hv : a.tmps.getD s undef = .bool b) : yielded ops a.tmps j = some b := by
  unfold yielded
  rw [hj]
  simp only [Option.bind_some]
  cases h : a.tmps[s]? with
  | none => simp [h, undef] at hv
  | some v => simp [h] at hv; rw [hv]
theorem yielded_tuple {ops : Array Oper} {j s : Nat} {a : Act} {vs : Array Value} (hj : (ops[j]?).bind (·.dst) = some s) (hv : a.tmps.getD s undef = .tuple vs) : yielded ops a.tmps j = none := by
  unfold yielded
  rw [hj]
  simp only [Option.bind_some]
  cases h : a.tmps[s]? with
  | none => rfl
  | some v => simp [h] at hv; rw [hv]
theorem grd_spec {ops : Array Oper} {o : Oper} {st : St} {a : Act} {run skip : St → Prop} (hr : Rel N st a) (h : grd N al ops o st run skip) :
    (Region.wanted o (yielded ops a.tmps) = true ∧ ∃ st', Rel N st' a ∧ Same al st st' ∧ run st') ∨
    (Region.wanted o (yielded ops a.tmps) = false ∧ ∃ st', Rel N st' (a.put o.dst undef) ∧ Same al st st' ∧ skip st') := by
  unfold grd at h
  split at h
  · rename_i hg; exact .inl ⟨by simp [Region.wanted, hg], st, hr, Same.refl _ _, h⟩
  · rename_i j want hg
    split at h
    · exact h.elim
    rename_i hd
    have hd' : ∀ d, o.dst = some d → d < N := fun d e => (okD_spec hd d e).1
    split at h
    · exact h.elim
    rename_i s hs
    have hw : ∀ b, frGet st.fr s = .bool b → Region.wanted o (yielded ops a.tmps) = (b == want) := by
      intro b hb
      have := hr.fr s (by rw [hb]; rfl)
      rw [hb] at this
      unfold Region.wanted
      rw [hg]
      simp only [yielded_bool hs this]
      cases b <;> cases want <;> rfl
    split at h
    · rename_i hk; exact .inl ⟨by rw [hw _ (hr.kn _ _ hk)]; rfl, st, hr, Same.refl _ _, h⟩
    · rename_i hk; exact .inl ⟨by rw [hw _ (hr.kn _ _ hk)]; rfl, st, hr, Same.refl _ _, h⟩
    · rename_i hk; exact .inr ⟨by rw [hw _ (hr.kn _ _ hk)]; rfl, _, hr.put hd' _, Same.put hd _ _, h⟩
    · rename_i hk; exact .inr ⟨by rw [hw _ (hr.kn _ _ hk)]; rfl, _, hr.put hd' _, Same.put hd _ _, h⟩
    · split at h
      · rename_i b hb
        cases b with
        | true => exact .inl ⟨by rw [hw _ hb]; rfl, _, hr.know hb, Same.know hb, h.1 rfl⟩
        | false => exact .inr ⟨by rw [hw _ hb]; rfl, _, (hr.know hb).put hd' _, (Same.know hb).trans (Same.put hd _ _), h.2 rfl⟩
      · rename_i b hb
        cases b with
        | true => exact .inr ⟨by rw [hw _ hb]; rfl, _, (hr.know hb).put hd' _, (Same.know hb).trans (Same.put hd _ _), h.1 rfl⟩
        | false => exact .inl ⟨by rw [hw _ hb]; rfl, _, hr.know hb, Same.know hb, h.2 rfl⟩
      · rename_i vs hv
        split at h
        · exact h.elim
        · rename_i hu
          have := hr.fr s (by rw [hv]; exact hu)
          rw [hv] at this
          refine .inr ⟨?_, _, hr.put hd' _, Same.put hd _ _, h⟩
          unfold Region.wanted
          rw [hg]
          simp only [yielded_tuple hs this]
          rfl
      · exact h.elim
end

/-! ### ways that meet again -/
theorem alSub_spec {al : Option (List Nat)} : ∀ {l : List Nat}, alSub al l = true → ∀ x ∈ l, alOk al x = true := by
  intro l
  induction l with
  | nil => intro _ x hx; cases hx
  | cons y r ih =>
    intro h x hx
    simp only [alSub] at h
    split at h
    · rename_i hy
      rcases List.mem_cons.1 hx with rfl | hx
      · exact hy
      · exact ih h x hx
    · cases h
theorem Same.sub {al : Option (List Nat)} {l : List Nat} (hs : alSub al l = true) {st st' : St} (h : Same (some l) st st') : Same al st st' := by
  intro t ht
  refine h t ?_
  cases hm : alOk (some l) t with
  | false => rfl
  | true =>
    have := alSub_spec hs t ((memN_iff l t).1 hm)
    rw [this] at ht; cases ht
theorem setAll_get : ∀ (ss : List Nat) (vs : List Value) (fr : Fr) (t : Nat), t ∉ ss → frGet (setAll ss vs fr) t = frGet fr t := by
  intro ss
  induction ss with
  | nil => intro vs fr t _; cases vs <;> rfl
  | cons s r ih =>
    intro vs fr t ht
    cases vs with
    | nil => rfl
    | cons v vs =>
      simp only [setAll, frGet_cons]
      rw [if_neg (fun e => ht (by simp [e])), ih vs fr t (fun e => ht (by simp [e]))]
theorem setAll_same (f : Nat → Value) : ∀ (ss : List Nat) (fr : Fr) (t : Nat), t ∈ ss → frGet (setAll ss (ss.map f) fr) t = f t := by
  intro ss
  induction ss with
  | nil => intro fr t ht; cases ht
  | cons s r ih =>
    intro fr t ht
    simp only [List.map_cons, setAll, frGet_cons]
    split
    · rename_i e; rw [e]
    · rename_i hne
      exact ih fr t ((List.mem_cons.1 ht).resolve_left (fun e => hne e.symm))
theorem dropAll_get : ∀ (ss : List Nat) (fr : Fr) (t : Nat), frGet (dropAll ss fr) t = if t ∈ ss then unk else frGet fr t := by
  intro ss
  induction ss with
  | nil => intro fr t; simp [dropAll]
  | cons s r ih =>
    intro fr t
    simp only [dropAll, frGet_cons, ih, List.mem_cons]
    by_cases h : s = t
    · subst h; simp
    · simp [h, Ne.symm h]
theorem knDelAll_get : ∀ (ss : List Nat) (kn : List (Nat × Bool)) (t : Nat), knGet (knDelAll ss kn) t = if t ∈ ss then none else knGet kn t := by
  intro ss
  induction ss with
  | nil => intro kn t; simp [knDelAll]
  | cons s r ih =>
    intro kn t
    simp only [knDelAll, ih, knGet_del, List.mem_cons]
    by_cases h : s = t
    · subst h; simp
    · simp [h, Ne.symm h]
theorem mem_al {j : Jp} {t : Nat} : t ∈ j.al ↔ t ∈ j.slots.map (·.1) ∨ t ∈ j.junk := by simp [Jp.al]
theorem Same.reset (st : St) (j : Jp) (t : TK j.ks) : Same (some j.al) st (st.reset j t) := by
  intro s hs
  have hm : s ∉ j.al := by
    intro h
    have := (memN_iff j.al s).2 h
    simp only [alOk] at hs
    rw [this] at hs; cases hs
  simp only [St.reset]
  rw [setAll_get _ _ _ _ (fun h => hm (mem_al.2 (.inl h))), dropAll_get, if_neg (fun h => hm (mem_al.2 (.inr h)))]
theorem Rel.reset {N : Nat} {st st' : St} {a : Act} {j : Jp} {t : TK j.ks} (h : Rel N st' a) (hs : Same (some j.al) st st') (hk : ∀ s b, knGet st.kn s = some b → frGet st.fr s = .bool b)
    (ht : ofK j.ks (j.slots.map fun s => frGet st'.fr s.1) = some t) : Rel N (st.reset j t) a := by
  have he : encK j.ks t = (j.slots.map (·.1)).map (frGet st'.fr) := by
    rw [ofK_enc ht, List.map_map]; rfl
  have out : ∀ s, s ∉ j.al → frGet (st.reset j t).fr s = frGet st.fr s := fun s hm => Same.reset st j t s (by
    cases hh : alOk (some j.al) s with
    | false => rfl
    | true => exact absurd ((memN_iff _ _).1 hh) hm)
  have out' : ∀ s, s ∉ j.al → frGet st'.fr s = frGet st.fr s := fun s hm => hs s (by
    cases hh : alOk (some j.al) s with
    | false => rfl
    | true => exact absurd ((memN_iff _ _).1 hh) hm)
  refine ⟨h.size, h.defers, fun s hu => ?_, fun s b hb => ?_⟩
  · by_cases h1 : s ∈ j.slots.map (·.1)
    · have e : frGet (st.reset j t).fr s = frGet st'.fr s := by
        simp only [St.reset, he]
        exact setAll_same _ _ _ _ h1
      rw [e] at hu ⊢
      exact h.fr s hu
    · by_cases h2 : s ∈ j.junk
      · have e : frGet (st.reset j t).fr s = unk := by
          simp only [St.reset]
          rw [setAll_get _ _ _ _ h1, dropAll_get, if_pos h2]
        rw [e] at hu
        simp [isU, unk] at hu
      · have hm : s ∉ j.al := fun h => (mem_al.1 h).elim h1 h2
        rw [out s hm, ← out' s hm] at hu ⊢
        exact h.fr s hu
  · simp only [St.reset, knDelAll_get] at hb
    split at hb
    · cases hb
    · rename_i hm; rw [out s hm]; exact hk s b hb
/-- the rule: what follows is asked once, at typed values -/
theorem jnC_spec {N : Nat} {j : Jp} {al : Option (List Nat)} {st : St} {body : Option (List Nat) → KT → World → Prop} {K : KT} {w : World} (hk : ∀ s b, knGet st.kn s = some b → frGet st.fr s = .bool b)
    (h : jnC j al st body K w) (G : Act → World → Prop) (hG : ∀ st' a w, Rel N st' a → Same al st st' → K st' w → G a w) :
    ∃ K' : KT, body (some j.al) K' w ∧ alSub al j.al = true ∧ ∀ st' a w, Rel N st' a → Same (some j.al) st st' → K' st' w → G a w := by
  unfold jnC at h
  split at h
  · rename_i hs
    refine ⟨_, h (fun t w' => ∀ a, Rel N (st.reset j t) a → G a w') (fun t w' hr a ha => hG _ a w' ha ((Same.reset st j t).sub hs) hr), hs, fun st' a w hr hsame hp => ?_⟩
    unfold Jp.proj at hp
    split at hp
    · rename_i t ht; exact hp a (hr.reset hsame hk ht)
    · exact hp.elim
  · exact h.elim
end Go.Proofs.Ytjamgdepbjipdaa.B
