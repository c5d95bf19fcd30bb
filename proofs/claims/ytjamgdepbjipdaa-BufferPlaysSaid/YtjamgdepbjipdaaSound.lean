/- What 'comp' reads out of the model's code is enough for the code's own run. -/
import Derived.Test.YtjamgdepbjipdaaBase
import Derived.Laws.Entries
import Derived.Laws.Cells
namespace Go.Proofs.Ytjamgdepbjipdaa.B
open Go

/-! ### pieces of Sem -/
theorem pureK_run {P : Program} {s : Sem Next} {n : Next} (h : pureK P s = some n) : ∀ w, s.run P w = .ok n w := by
  induction s with
  | pure a => intro w; simp [pureK] at h; subst h; rfl
  | program k ih => intro w; simp only [pureK] at h; simp only [Sem.run]; exact ih P h w
  | mark m k ih => intro w; simp only [pureK] at h; simp only [Sem.run]; exact ih h w
  | _ => simp [pureK] at h
theorem st1_run {P : Program} {w : World} {b o : Nat} {v : Value} {f : World → Prop} {m : Mode} {k : Sem Next} (hv : v.oneCell' = true) (h : st1 w b o v f) :
    (Sem.store m ⟨b, o, none⟩ v k).run P w = k.run P (w.setCell ⟨b, o, none⟩ v) ∧ f (w.setCell ⟨b, o, none⟩ v) := by
  obtain ⟨⟨u, hu⟩, hf, hk⟩ := h
  refine ⟨?_, hk⟩
  cases v <;> simp [Value.oneCell'] at hv <;> simp [Sem.run, hu, hf]
theorem semK_run {P : Program} {s : Sem Next} {K : Next → World → Prop} : ∀ {w : World}, semK P s K w → ∃ n w', s.run P w = .ok n w' ∧ K n w' := by
  induction s with
  | pure a => intro w h; exact ⟨a, w, rfl, h⟩
  | program k ih => intro w h; simp only [semK] at h; simp only [Sem.run]; exact ih P h
  | mark m k ih => intro w h; simp only [semK] at h; simp only [Sem.run]; exact ih h
  | new o k ih =>
    intro w h
    cases o with
    | cells c t fz =>
      simp only [semK] at h
      split at h
      · rename_i e1 e2
        have e : fz = (0, 0) := by cases fz; simp_all
        subst e
        simp only [al] at h
        simp only [Sem.run]
        have e : c.toList.toArray = c := by simp
        rw [e] at h
        exact ih _ h
      · exact h.elim
    | _ => exact False.elim h
  | store m a v k ih =>
    intro w h
    simp only [semK] at h
    split at h
    · rename_i e1 hv
      obtain ⟨b, o, sp⟩ := a
      simp only at e1 h
      subst e1
      obtain ⟨h1, h2⟩ := st1_run (P := P) (m := m) (k := k) hv h
      rw [h1]
      exact ih h2
    · exact h.elim
  | _ => intro w h; exact False.elim h

/-! ### operations -/
theorem gen_run {P : Program} {o : Oper} {ρ : Operand → Value} {K : Value → Prop} (h : gen P o ρ K) : ∃ v, K v ∧ ∀ w, (execOp ρ o).run P w = .ok (.value v) w := by
  unfold gen at h
  cases hp : pureK P (execOp ρ o) with
  | none => rw [hp] at h; exact h.elim
  | some n =>
    rw [hp] at h
    cases n <;> simp only [nextV] at h
    exact ⟨_, h, pureK_run hp⟩
theorem add_off (b o n : Nat) : (⟨b, o, none⟩ : Addr).add n = ⟨b, o + n, none⟩ := by
  unfold Addr.add
  split
  · subst_vars; rfl
  · rfl
theorem offA_eq (o i : Nat) : offA o i = o + i := by cases i <;> rfl
theorem ikEq_eq {j k : IntKind} (h : ikEq j k = true) : j = k := by cases j <;> cases k <;> simp [ikEq] at h <;> rfl
theorem equal_succ (t : TypeId) (x y : Value) : Op.equal t x y = Op.equalIn (9999 + 1) t x y := rfl
theorem nilCmp_eq {P : Program} {t : TypeId} {x y : Value} {cx cy c : Bool} (h : nilCmp (P.underlying t) x y cx cy = some c) (w : World) : (Op.equal t x y).run P w = .ok c w := by
  rw [equal_succ]
  unfold nilCmp at h
  split at h <;> first
    | (cases h; done)
    | (rename_i p hu; cases h; cases p <;> rw [Op.equalIn] <;> simp only [Sem.run_bind, run_underlying hu, Result.andThen_ok, Sem.run_pure, Option.isNone]; done)
    | (rename_i a n c m d hu; cases h; cases a <;> rw [Op.equalIn] <;> simp only [Sem.run_bind, run_underlying hu, Result.andThen_ok, Sem.run_pure, Option.isNone]; done)
    | (rename_i n c a m d hu; cases h; cases a <;> rw [Op.equalIn] <;> simp only [Sem.run_bind, run_underlying hu, Result.andThen_ok, Sem.run_pure, Option.isNone]; done)
theorem eq_run {P : Program} {t : TypeId} {x y : Value} {X Y : Operand} {c : Bool} {w : World} (hg : (Op.equal t x y).run P w = .ok c w)
    (hv : (∃ p q, x = .pointer p ∧ y = .pointer q) ∨ (∃ a n c b m d, x = .slice a n c ∧ y = .slice b m d) ∨ (∃ p q, x = .map p ∧ y = .map q)) (neq : Bool) :
    ((do eqGuard (if neq then .neq else .eql) t X Y x y; binOp (if neq then .neq else .eql) t x y : Sem Value)).run P w = .ok (.bool (if neq then !c else c)) w := by
  rcases hv with ⟨p, q, rfl, rfl⟩ | ⟨a, n, c', b, m, d, rfl, rfl⟩ | ⟨p, q, rfl, rfl⟩ <;> cases neq <;>
    simp [eqGuard, binOp, hg]
theorem nilCmp_vals {d : Option TypeDesc} {x y : Value} {cx cy c : Bool} (h : nilCmp d x y cx cy = some c) : (∃ p q, x = .pointer p ∧ y = .pointer q) ∨ (∃ a n c b m d, x = .slice a n c ∧ y = .slice b m d) ∨ (∃ p q, x = .map p ∧ y = .map q) := by
  unfold nilCmp at h
  split at h <;> first
    | (cases h; done)
    | exact .inl ⟨_, _, rfl, rfl⟩
    | exact .inr (.inl ⟨_, _, _, _, _, _, rfl, rfl⟩)
    | exact .inr (.inr ⟨_, _, rfl, rfl⟩)
theorem nilCmp_run {P : Program} {o : Oper} {ρ : Operand → Value} {x y : Operand} {t t' : TypeId} {c : Bool} (hn : nilCmp (P.underlying t) (ρ x) (ρ y) (isConstO x) (isConstO y) = some c) :
    (o.op = .binOp .eql t x y t' → ∀ w, (execOp ρ o).run P w = .ok (.value (.bool c)) w) ∧ (o.op = .binOp .neq t x y t' → ∀ w, (execOp ρ o).run P w = .ok (.value (.bool (!c))) w) := by
  refine ⟨fun ho w => ?_, fun ho w => ?_⟩
  · have := eq_run (P := P) (X := x) (Y := y) (nilCmp_eq hn w) (nilCmp_vals hn) false
    simp only [Bool.false_eq_true, if_false] at this
    unfold execOp
    rw [ho]
    simp only [Sem.run_bind] at this ⊢
    rw [this]; rfl
  · have := eq_run (P := P) (X := x) (Y := y) (nilCmp_eq hn w) (nilCmp_vals hn) true
    simp only [if_true] at this
    unfold execOp
    rw [ho]
    simp only [Sem.run_bind] at this ⊢
    rw [this]; rfl
theorem arr_of {α : Type} {xs : Array α} {l : List α} (h : xs.toList = l) : xs = l.toArray := by rw [← h]
theorem fld2_spec {P : Program} {f : Field} (h : fld2 P f = true) : f.name ≠ "_" ∧ ∃ k, P.underlying f.type = some (.int k) := by
  unfold fld2 at h
  simp only [Bool.and_eq_true, bne_iff_ne] at h
  refine ⟨h.1, ?_⟩
  have h2 := h.2
  split at h2
  · exact ⟨_, by assumption⟩
  · cases h2
theorem part_int {P : Program} {t : TypeId} {k : IntKind} {xs : Array Value} {i : Nat} {v : Value} (hu : P.underlying t = some (.int k)) (h : xs[i]? = some v) (w : World) : (part t xs i).run P w = .ok v w := by
  simp [part, isAgg, run_underlying hu, h]
theorem agg2_eq {P : Program} {t : TypeId} {x y : Value} {c : Bool} (h : agg2 P t x y = some c) (w : World) : (Op.equal t x y).run P w = .ok c w := by
  unfold agg2 at h
  split at h
  · rename_i fs xs ys hu
    split at h
    · rename_i f g j a j' a' k b k' b' hf hx hy
      split at h
      · rename_i hc
        simp only [Bool.and_eq_true, Bool.not_eq_true'] at hc
        obtain ⟨⟨⟨⟨⟨⟨⟨h1, h2⟩, h3⟩, h4⟩, h5⟩, h6⟩, h7⟩, _⟩ := hc
        have h1 := ikEq_eq h1
        have h2 := ikEq_eq h2
        have h3 := Nat.eq_of_beq_eq_true h3
        have h4 := Nat.eq_of_beq_eq_true h4
        obtain ⟨hn5, k5, hu5⟩ := fld2_spec h5
        obtain ⟨hn6, k6, hu6⟩ := fld2_spec h6
        have hf := arr_of hf
        have hx := arr_of hx
        have hy := arr_of hy
        subst h1 h2 hf hx hy
        cases h
        rw [equal_succ, Op.equalIn]
        have e1 : ∀ w, (part f.type [Value.int j a, Value.int j' a'].toArray f.offset).run P w = .ok (.int j a) w := part_int hu5 (by rw [h3]; rfl)
        have e2 : ∀ w, (part g.type [Value.int j a, Value.int j' a'].toArray g.offset).run P w = .ok (.int j' a') w := part_int hu6 (by rw [h4]; rfl)
        have e3 : ∀ w, (part f.type [Value.int j b, Value.int j' b'].toArray f.offset).run P w = .ok (.int j b) w := part_int hu5 (by rw [h3]; rfl)
        have e4 : ∀ w, (part g.type [Value.int j b, Value.int j' b'].toArray g.offset).run P w = .ok (.int j' b') w := part_int hu6 (by rw [h4]; rfl)
        have q1 : ∀ w, (Op.equalIn 9999 f.type (.int j a) (.int j b)).run P w = .ok (a == b) w := fun w => by
          rw [show 9999 = 9998 + 1 from rfl, Op.equalIn]
          simp [run_underlying hu5]
        have q2 : ∀ w, (Op.equalIn 9999 g.type (.int j' a') (.int j' b')).run P w = .ok (a' == b') w := fun w => by
          rw [show 9999 = 9998 + 1 from rfl, Op.equalIn]
          simp [run_underlying hu6]
        simp only [Sem.run_bind, run_underlying hu, Result.andThen_ok]
        simp [h7, hn5, hn6, e1, e2, e3, e4, q1, q2]
        by_cases h8 : a = b <;> by_cases h9 : a' = b' <;> simp [h8, h9]
      · cases h
    · cases h
  · cases h
theorem agg2_vals {P : Program} {t : TypeId} {x y : Value} {c : Bool} (h : agg2 P t x y = some c) : (∃ xs ys, x = .agg xs ∧ y = .agg ys) ∧ P.eqGuardType P.depth t = false := by
  unfold agg2 at h
  split at h
  · split at h
    · split at h
      · rename_i hc
        simp only [Bool.and_eq_true, Bool.not_eq_true'] at hc
        exact ⟨⟨_, _, rfl, rfl⟩, hc.2⟩
      · cases h
    · cases h
  · cases h
theorem agg2_run {P : Program} {o : Oper} {ρ : Operand → Value} {x y : Operand} {t t' : TypeId} {c : Bool} (hn : agg2 P t (ρ x) (ρ y) = some c) :
    (o.op = .binOp .eql t x y t' → ∀ w, (execOp ρ o).run P w = .ok (.value (.bool c)) w) ∧ (o.op = .binOp .neq t x y t' → ∀ w, (execOp ρ o).run P w = .ok (.value (.bool (!c))) w) := by
  obtain ⟨⟨xs, ys, hx, hy⟩, hg⟩ := agg2_vals hn
  have he := agg2_eq hn
  rw [hx, hy] at he
  refine ⟨fun ho w => ?_, fun ho w => ?_⟩
  · simp [execOp, ho, hx, hy, eqGuard, binOp, hg, he]
  · simp [execOp, ho, hx, hy, eqGuard, binOp, hg, he]
theorem sliceBound_run {P : Program} {k : IntKind} {i : Int} {y : Nat} {c : BoundsCode} (h0 : 0 ≤ i) (h : i ≤ y) (w : World) : (Instr.sliceBound (.int k i) y c).run P w = .ok i.toNat w := by
  simp [Instr.sliceBound, asIntOf, h0, h]
theorem bnd_some {ρ : Operand → Value} {d n : Int} {x : Option Operand} (h : bnd ρ d x = some n) : (x = none ∧ n = d) ∨ ∃ y k, x = some y ∧ ρ y = .int k n := by
  cases x with
  | none => simp [bnd] at h; exact .inl ⟨rfl, h.symm⟩
  | some y =>
    simp only [bnd] at h
    split at h
    · rename_i k m hy; cases h; exact .inr ⟨y, k, rfl, hy⟩
    · cases h
theorem slice_run {P : Program} {ρ : Operand → Value} {a : Option Addr} {n c : Nat} {lo hi mx : Option Operand} {l h m : Int} {t e : TypeId} {r : TypeInfo}
    (hu : P.underlying t = some (.slice e)) (hr : P.info? e = some r) (hl : bnd ρ 0 lo = some l) (hh : bnd ρ n hi = some h) (hm : bnd ρ c mx = some m) (hs : (hi.isSome || mx.isNone) = true)
    (h0 : 0 ≤ l) (h1 : l ≤ h) (h2 : h ≤ m) (h3 : m ≤ c) (w : World) :
    (Instr.sliceAt t (.slice a n c) (lo.map ρ) (hi.map ρ) (mx.map ρ)).run P w = .ok (vS (Sl.sub ⟨a, n, c⟩ l h m r.size)) w := by
  have S : ∀ {x : Operand} {k : IntKind} {i : Int} (y : Nat) (cd : BoundsCode), ρ x = .int k i → 0 ≤ i → i ≤ y → ∀ w, (Instr.sliceBound (ρ x) y cd).run P w = .ok i.toNat w := fun y cd hx h0 h w => by rw [hx]; exact sliceBound_run h0 h w
  have hb : (Instr.sliceBounds true n c (lo.map ρ) (hi.map ρ) (mx.map ρ)).run P w = .ok (l.toNat, h.toNat, m.toNat) w := by
    rcases bnd_some hm with ⟨rfl, rfl⟩ | ⟨ym, km, rfl, hym⟩ <;> rcases bnd_some hh with ⟨rfl, rfl⟩ | ⟨yh, kh, rfl, hyh⟩ <;> rcases bnd_some hl with ⟨rfl, rfl⟩ | ⟨yl, kl, rfl, hyl⟩ <;> (try (simp at hs; done)) <;>
      simp only [Instr.sliceBounds, Option.map_some, Option.map_none, Sem.run_bind, Sem.run_pure, Result.andThen_ok, Option.isSome_some, Option.isSome_none, if_true, Bool.false_eq_true, if_false, Int.toNat_natCast]
    · rfl
    · rw [S n _ hyl (by omega) (by omega)]; rfl
    · rw [S c _ hyh (by omega) (by omega)]; rfl
    · rw [S c _ hyh (by omega) (by omega), Result.andThen_ok, S h.toNat _ hyl (by omega) (by omega)]; rfl
    · rw [S c _ hym (by omega) (by omega), Result.andThen_ok, S m.toNat _ hyh (by omega) (by omega)]; rfl
    · rw [S c _ hym (by omega) (by omega), Result.andThen_ok, S m.toNat _ hyh (by omega) (by omega), Result.andThen_ok, S h.toNat _ hyl (by omega) (by omega)]; rfl
  simp only [Instr.sliceAt, Instr.slice, Sem.run_bind, run_underlying hu, Result.andThen_ok, hb]
  simp [sizeOf, typeInfo, hr, vS, Sl.sub]
theorem opP_run {P : Program} {o : Oper} {ρ : Operand → Value} {K : Value → Prop} (h : opP P o ρ K) : ∃ v, K v ∧ ∀ w, (execOp ρ o).run P w = .ok (.value v) w := by
  unfold opP at h
  split at h
  · rename_i x hop
    split at h
    · rename_i p hx
      obtain ⟨b, i, rfl, hk⟩ := h
      exact ⟨_, hk, fun w => by simp [execOp, hop, hx]⟩
    · exact gen_run h
  · rename_i t x i hop
    split at h
    · rename_i a n c k j e hx hi hu
      split at h
      · rename_i r hr
        obtain ⟨b, q, ha, h0, h1, hk⟩ := h
        simp only at ha h1
        exact ⟨_, hk, fun w => by simp [execOp, hop, Instr.indexAt, hx, hi, asIntOf, run_underlying hu, ha, h0, h1, sizeOf, typeInfo, hr, add_off]⟩
      · exact h.elim
    · rename_i b q k j n e hx hi hu
      split at h
      · rename_i r hr
        obtain ⟨h0, h1, hk⟩ := h
        exact ⟨_, hk, fun w => by simp [execOp, hop, Instr.indexAt, Instr.sureAddr, hx, hi, asIntOf, run_underlying hu, h0, h1, sizeOf, typeInfo, hr, add_off]⟩
      · exact h.elim
    · exact h.elim
  · rename_i t x lo hi mx hop
    split at h
    · rename_i a n c e hx hu
      split at h
      · rename_i r l hh m hr hl hhi hm hs
        obtain ⟨h0, h1, h2, h3, hk⟩ := h
        exact ⟨_, hk, fun w => by
          simp only [execOp, hop, hx, Sem.run_bind]
          rw [slice_run hu hr hl hhi hm hs h0 h1 h2 h3 w]; rfl⟩
      · exact h.elim
    · exact h.elim
  · rename_i op t x y t' hop
    split at h
    · split at h
      · exact gen_run h
      · split at h
        · rename_i k a k' b hx hy
          split at h
          · rename_i hkk
            cases ikEq_eq hkk
            exact ⟨_, h.2, fun w => by simp [execOp, hop, hx, hy, eqGuard, binOp, Op.intDiv, h.1]⟩
          · exact h.elim
        · exact h.elim
    · split at h
      · exact gen_run h
      · split at h
        · rename_i k a k' b hx hy
          split at h
          · rename_i hkk
            cases ikEq_eq hkk
            exact ⟨_, h.2, fun w => by simp [execOp, hop, hx, hy, eqGuard, binOp, Op.intDiv, h.1]⟩
          · exact h.elim
        · exact h.elim
    · split at h
      · exact gen_run h
      · split at h
        · rename_i k a k' b hx hy
          have h1 : ¬ b < 0 := by have := h.1; omega
          exact ⟨_, h.2, fun w => by simp [execOp, hop, hx, hy, eqGuard, binOp, Op.shift, h1]⟩
        · exact h.elim
    · split at h
      · exact gen_run h
      · split at h
        · rename_i k a k' b hx hy
          have h1 : ¬ b < 0 := by have := h.1; omega
          exact ⟨_, h.2, fun w => by simp [execOp, hop, hx, hy, eqGuard, binOp, Op.shift, h1]⟩
        · exact h.elim
    · split at h
      · rename_i c hc
        exact ⟨_, h, (nilCmp_run hc).1 hop⟩
      · split at h
        · rename_i c hc
          exact ⟨_, h, (agg2_run hc).1 hop⟩
        · exact gen_run h
    · split at h
      · rename_i c hc
        exact ⟨_, h, (nilCmp_run hc).2 hop⟩
      · split at h
        · rename_i c hc
          exact ⟨_, h, (agg2_run hc).2 hop⟩
        · exact gen_run h
    · exact gen_run h
  · exact gen_run h

/-! ### loads -/
theorem cellsAt_iff {w : World} {b o : Nat} {vs : List Value} : ∀ {i : Nat}, cellsAt w b o vs i ↔ ∀ j v, vs[j]? = some v → w.cell? ⟨b, o + (i + j), none⟩ = some v := by
  induction vs with
  | nil => intro i; simp [cellsAt]
  | cons v r ih =>
    intro i
    have hsplit : (∀ j u, (v :: r)[j]? = some u → w.cell? ⟨b, o + (i + j), none⟩ = some u) ↔ w.cell? ⟨b, offA o i, none⟩ = some v ∧ ∀ j u, r[j]? = some u → w.cell? ⟨b, o + (i + 1 + j), none⟩ = some u := by
      rw [offA_eq]
      constructor
      · intro h
        exact ⟨by simpa using h 0 v rfl, fun j u hu => by have := h (j + 1) u (by simpa using hu); rw [show i + 1 + j = i + (j + 1) by omega]; exact this⟩
      · rintro ⟨h1, h2⟩ j u hu
        cases j with
        | zero => simp at hu; subst hu; simpa using h1
        | succ j => have := h2 j u (by simpa using hu); rw [show i + (j + 1) = i + 1 + j by omega]; exact this
    rw [hsplit]
    cases r with
    | nil => simp [cellsAt]
    | cons u r => simp only [cellsAt]; rw [← ih]
theorem ldL_run {w : World} {b o : Nat} {ks : List Lk} : ∀ {i : Nat} {f : List Value → Prop}, ldL w b o ks i f → ∃ vs, f vs ∧ vs.length = ks.length ∧ ∀ j v, vs[j]? = some v → w.cell? ⟨b, o + (i + j), none⟩ = some v := by
  induction ks with
  | nil => intro i f h; exact ⟨[], h, rfl, by simp⟩
  | cons k r ih =>
    intro i f h
    simp only [ldL, ldK_iff] at h
    obtain ⟨x, hx, h⟩ := h
    obtain ⟨vs, hf, hl, hc⟩ := ih h
    refine ⟨_, hf, by simp [hl], fun j v hv => ?_⟩
    cases j with
    | zero => simp at hv; subst hv; rw [offA_eq] at hx; simpa using hx
    | succ j => have := hc j v (by simpa using hv); rw [show i + (j + 1) = i + 1 + j by omega]; exact this
theorem loadVar_agg {P : Program} {t : TypeId} {r : TypeInfo} {b o : Nat} {vs : List Value} {w : World} (hu : (∃ fs, P.underlying t = some (.struct fs)) ∨ (∃ n e, P.underlying t = some (.array n e))) (hr : P.info? t = some r) (hl : vs.length = r.size)
    (hc : ∀ j v, vs[j]? = some v → w.cell? ⟨b, o + j, none⟩ = some v) : (loadVar t ⟨b, o, none⟩).run P w = .ok (.agg vs.toArray) w := by
  have hL := run_loadCells_list (P := P) w ⟨b, o, none⟩ vs (fun j v hv => by rw [add_off]; exact hc j v hv)
  rcases hu with ⟨fs, hu⟩ | ⟨n, e, hu⟩
  · simp [loadVar, isAgg, run_underlying hu, sizeOf, typeInfo, hr, ← hl, hL]
  · simp [loadVar, isAgg, run_underlying hu, sizeOf, typeInfo, hr, ← hl, hL]
theorem loadVar_one {P : Program} {t : TypeId} {d : TypeDesc} {b o : Nat} {v : Value} {w : World} (hu : P.underlying t = some d) (hs : ∀ fs, d ≠ .struct fs) (ha : ∀ n e, d ≠ .array n e)
    (hc : w.cell? ⟨b, o, none⟩ = some v) : (loadVar t ⟨b, o, none⟩).run P w = .ok v w := by
  cases d <;> first
    | exact absurd rfl (hs _)
    | exact absurd rfl (ha _ _)
    | simp [loadVar, isAgg, run_underlying hu, hc]
theorem okLd_spec {P : Program} {t : TypeId} {k : Kd} (h : okLd P t k = true) :
    (∃ ks r, k = .a ks ∧ P.info? t = some r ∧ ks.length = r.size ∧ ((∃ fs, P.underlying t = some (.struct fs)) ∨ (∃ n e, P.underlying t = some (.array n e)))) ∨
    (∃ l d, k = .l l ∧ P.underlying t = some d ∧ (∀ fs, d ≠ .struct fs) ∧ (∀ n e, d ≠ .array n e)) := by
  unfold okLd at h
  split at h
  · rename_i fs r ks hu hr; exact .inl ⟨ks, r, rfl, hr, Nat.eq_of_beq_eq_true h, .inl ⟨fs, hu⟩⟩
  · rename_i n e r ks hu hr; exact .inl ⟨ks, r, rfl, hr, Nat.eq_of_beq_eq_true h, .inr ⟨n, e, hu⟩⟩
  · cases h
  · cases h
  · rename_i d r l hs ha hu hr
    exact .inr ⟨l, d, rfl, hu, fun fs e => hs fs e, fun n e' e => ha n e' e⟩
  · cases h
theorem opLd_run {P : Program} {t : TypeId} {b o : Nat} {w : World} {K : Value → (World → Prop) → Prop} (h : opLd P t b o w K) :
    ∃ v ag, K v ag ∧ ag w ∧ ∀ w', ag w' → (loadVar t ⟨b, o, none⟩).run P w' = .ok v w' := by
  unfold opLd at h
  split at h
  · exact h.elim
  · rename_i hok
    rcases okLd_spec hok with ⟨ks, r, hk, hr, hl, hu⟩ | ⟨l, d, hk, hu, hs, ha⟩
    · rw [hk] at h
      simp only at h
      obtain ⟨vs, hf, hlen, hc⟩ := ldL_run h
      exact ⟨_, _, hf, cellsAt_iff.2 (by simpa using hc), fun w' hw' => loadVar_agg hu hr (hlen.trans hl) (by simpa using cellsAt_iff.1 hw')⟩
    · rw [hk] at h
      simp only [ldK_iff] at h
      obtain ⟨x, hx, hf⟩ := h
      exact ⟨_, _, hf, hx, fun w' hw' => loadVar_one hu hs ha hw'⟩
theorem opL_run {P : Program} {t : TypeId} {b o : Nat} {w : World} {K : Value → Prop} (h : opL P t b o w K) :
    ∃ v, K v ∧ (loadVar t ⟨b, o, none⟩).run P w = .ok v w := by
  have h' : opLd P t b o w fun v _ => K v := by
    unfold opL at h
    unfold opLd
    split at h
    · exact h.elim
    · exact h
  obtain ⟨v, ag, hk, hag, hr⟩ := opLd_run h'
  exact ⟨v, hk, hr w hag⟩
theorem load_run {P : Program} {o : Oper} {ρ : Operand → Value} {t : TypeId} {a : Operand} {b i : Nat} {v : Value} {w : World} (hop : o.op = .load t a) (ha : ρ a = .pointer (some ⟨b, i, none⟩))
    (h : (loadVar t ⟨b, i, none⟩).run P w = .ok v w) : (execOp ρ o).run P w = .ok (.value v) w := by
  simp [execOp, hop, Instr.loadAt, Instr.sureAddr, ha, h]

/-! ### operations that act -/
section
variable {P : Program} {o : Oper} {a : Act} {w : World} {K : Value → World → Prop} {Q : Exit → Act → World → Prop}
theorem wp_of_value {v : Value} {w' : World} (h : (execOp a.eval o).run P w = .ok (.value v) w') (hk : K v w') : o.wp P a w (fun a' w' => ∃ v, a' = a.put o.dst v ∧ K v w') Q := by
  unfold Oper.wp; rw [h]; exact ⟨v, rfl, hk⟩
theorem wp_of_skip {w' : World} (h : (execOp a.eval o).run P w = .ok .skip w') (hk : K undef w') : o.wp P a w (fun a' w' => ∃ v, a' = a.put o.dst v ∧ K v w') Q := by
  unfold Oper.wp; rw [h]; exact ⟨undef, rfl, hk⟩
theorem wp_of_enter {f : FuncId} {args : List Value} {ks : List Kd} (h : (execOp a.eval o).run P w = .ok (.enter f args.toArray) w) (hk : cl P f args ks w fun t w' => K (ret1 (encK ks t)) w') :
    o.wp P a w (fun a' w' => ∃ v, a' = a.put o.dst v ∧ K v w') Q := by
  unfold Oper.wp; rw [h]
  refine Calls.mono hk ?_
  rintro e w' ⟨t, rfl, hK⟩
  exact ⟨_, rfl, hK⟩
theorem enterable_spec {g : Nat} (h : enterable P g = true) : ∃ fn, P.funcs[g]? = some fn ∧ fn.body.isNone = false ∧ (fn.name == "runtime.NumGoroutine") = false := by
  unfold enterable at h
  split at h
  · rename_i fn hf
    simp only [Bool.and_eq_true, Bool.not_eq_true'] at h
    exact ⟨fn, hf, by cases hb : fn.body <;> simp_all, h.2⟩
  · cases h
theorem callFunc_run {g : Nat} (h : enterable P g = true) (args : Array Value) (w : World) : (callFunc g args).run P w = .ok (.enter g args) w := by
  obtain ⟨fn, hf, hb, hn⟩ := enterable_spec h
  simp only [callFunc, Sem.run_bind, run_program, Result.andThen_ok, hf]
  rw [if_neg (by rw [hn]; simp), if_neg (by rw [hb]; simp)]
  rfl
theorem call_run {ρ : Operand → Value} {f : Operand} {args : Array Operand} {at_ : Array TypeId} {g : Nat} {pre post : Array Value} (hop : o.op = .call { callee := .value f, args := args, argTypes := at_ }) (hf : ρ f = .func (.func g) pre post) (w : World) :
    (execOp ρ o).run P w = (callFunc g (pre.toList ++ (args.toList.map ρ ++ post.toList)).toArray).run P w := by
  have e : (pre.toList ++ (args.toList.map ρ ++ post.toList)).toArray = pre ++ args.map ρ ++ post := by
    apply Array.ext'
    simp
  rw [e]
  simp [execOp, hop, resolve, hf, Deferred.ofValue, invoke]
theorem opE_wp {ρ : Operand → Value} (he : execOp a.eval o = execOp ρ o) (h : opE P o ρ K w) : o.wp P a w (fun a' w' => ∃ v, a' = a.put o.dst v ∧ K v w') Q := by
  unfold opE at h
  split at h
  · rename_i f args at_ hop
    split at h
    · rename_i g pre post hf
      have hr := call_run (P := P) hop hf w
      rw [← he] at hr
      split at h
      · split at h
        · rename_i hen
          rw [callFunc_run hen] at hr
          exact wp_of_enter hr h
        · split at h
          · rename_i fn hfn
            split at h
            · obtain ⟨t, w', h1, h2⟩ := h
              rw [h1] at hr
              exact wp_of_value hr h2
            · exact h.elim
          · exact h.elim
      · rw [callFunc_run h.1] at hr
        exact wp_of_enter hr h.2
    · exact h.elim
  · rename_i b args at_ hop
    split at h
    all_goals first
      | exact h.elim
      | (obtain ⟨t, w', h1, h2⟩ := h
         refine wp_of_value (v := ret1 (encK _ t)) (w' := w') ?_ h2
         rw [he]
         simp [execOp, hop, resolve, invoke, builtin, h1])
  · rename_i t m k ok hop
    obtain ⟨t, w', h1, h2⟩ := h
    exact wp_of_value (by rw [he]; simp [execOp, hop, h1]) h2
  · rename_i t m k x hop
    obtain ⟨w', h1, h2⟩ := h
    exact wp_of_skip (by rw [he]; simp [execOp, hop, h1]) h2
  · rename_i x t u ok hop
    obtain ⟨t, w', h1, h2⟩ := h
    exact wp_of_value (by rw [he]; simp [execOp, hop, h1]) h2
  · rename_i t r hop
    obtain ⟨t, w', h1, h2⟩ := h
    exact wp_of_value (by rw [he]; simp [execOp, hop, h1]) h2
  · rename_i t l c hop
    obtain ⟨t, w', h1, h2⟩ := h
    exact wp_of_value (by rw [he]; simp [execOp, hop, h1]) h2
  · rename_i s d x hop
    obtain ⟨t, w', h1, h2⟩ := h
    exact wp_of_value (by rw [he]; simp [execOp, hop, h1]) h2
  · rename_i t m k hop
    obtain ⟨t, w', h1, h2⟩ := h
    exact wp_of_value (by rw [he]; simp [execOp, hop, h1]) h2
  · rename_i t m s x hop
    obtain ⟨w', h1, h2⟩ := h
    exact wp_of_skip (by rw [he]; simp [execOp, hop, h1]) h2
  · rename_i t x hop
    obtain ⟨r, w', h1, h2⟩ := h
    exact wp_of_value (by rw [he]; simp [execOp, hop, h1]) h2
  · rename_i it hop
    rcases h with ⟨w', h1, h2⟩ | ⟨k, v, w', h1, h2⟩
    · exact wp_of_value (by rw [he]; simp [execOp, hop, h1]) h2
    · exact wp_of_value (by rw [he]; simp [execOp, hop, h1]) h2
  · rename_i it hop
    obtain ⟨t, w', h1, h2⟩ := h
    exact wp_of_value (by rw [he]; simp [execOp, hop, h1]) h2
  all_goals first
    | exact h.elim
    | (obtain ⟨n, w', h1, h2⟩ := semK_run h
       rw [← he] at h1
       cases n <;> first
         | exact wp_of_value h1 h2
         | exact wp_of_skip h1 h2
         | exact h2.elim)
theorem opV_wp {ρ : Operand → Value} (he : execOp a.eval o = execOp ρ o) (h : opV P o ρ K w) : o.wp P a w (fun a' w' => ∃ v, a' = a.put o.dst v ∧ K v w') Q := by
  unfold opV at h
  split at h
  · obtain ⟨v, hk, hr⟩ := opP_run h
    exact wp_of_value (by rw [he]; exact hr w) hk
  · split at h
    · rename_i t x hop
      split at h
      · rename_i b i hx
        obtain ⟨v, hk, hr⟩ := opL_run h
        exact wp_of_value (by rw [he]; exact load_run hop hx hr) hk
      · exact h.elim
    · rename_i s d x hop
      obtain ⟨g, h1, hk⟩ := h
      exact wp_of_value (by rw [he]; simp [execOp, hop, h1]) hk
    · rename_i t x y t' hop
      split at h
      · rename_i p q hx hy
        obtain ⟨c, h1, hk⟩ := h
        have := eq_run (P := P) (X := x) (Y := y) h1 (.inl ⟨p, q, rfl, rfl⟩) false
        simp only [Bool.false_eq_true, if_false] at this
        refine wp_of_value (v := .bool c) ?_ hk
        rw [he]
        unfold execOp
        rw [hop]
        simp only [Sem.run_bind, hx, hy] at this ⊢
        rw [this]; rfl
      · exact h.elim
    · rename_i t x y t' hop
      split at h
      · rename_i p q hx hy
        obtain ⟨c, h1, hk⟩ := h
        have := eq_run (P := P) (X := x) (Y := y) h1 (.inl ⟨p, q, rfl, rfl⟩) true
        simp only [if_true] at this
        refine wp_of_value (v := .bool (!c)) ?_ hk
        rw [he]
        unfold execOp
        rw [hop]
        simp only [Sem.run_bind, hx, hy] at this ⊢
        rw [this]; rfl
      · exact h.elim
    · exact h.elim
  · exact opE_wp he h
end
end Go.Proofs.Ytjamgdepbjipdaa.B
