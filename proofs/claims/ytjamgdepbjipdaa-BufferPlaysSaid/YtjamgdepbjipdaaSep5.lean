/- Maps from whole numbers that are owned. -/
import Derived.Test.YtjamgdepbjipdaaSep4
import Derived.MapKept
namespace Go.Proofs.Ytjamgdepbjipdaa.B
open Go
open Go.MapKept (Stamped IsKey heap_set stamped_push stamped_modify stamped_erase stamped_empty isKey_modify findNow_spec)
set_option linter.unusedVariables false
def mapIs (es : Array MapEntry) (clock : Nat) (f : Int → Option Value) : Prop :=
  Stamped es clock ∧ (∀ x ∈ es.toList, IsKey (.int .i64) x.key) ∧ ∀ k v, f k = some v ↔ ∃ x ∈ es.toList, x.key = .int .i64 k ∧ x.val = v
/-- a map from whole numbers -/
def mpP (b : Nat) (f : Int → Option Value) : SP := fun h => ∃ es clock, h b = some (.map es clock) ∧ mapIs es clock f
def upd (f : Int → Option Value) (k : Int) (o : Option Value) : Int → Option Value := fun j => if j = k then o else f j
theorem upd_same (f : Int → Option Value) (k : Int) (o : Option Value) : upd f k o k = o := if_pos rfl
theorem upd_other {f : Int → Option Value} {k j : Int} {o : Option Value} (h : j ≠ k) : upd f k o j = f j := if_neg h
/-- what is known of a map's type -/
structure MapT (P : Program) (t : TypeId) (z : Value) : Prop where
  ex : ∃ kt el i, P.underlying t = some (.map kt el) ∧ P.underlying kt = some (.int .i64) ∧ P.info? el = some i ∧ i.zero = some z
def mapTok (P : Program) (t : TypeId) : Option Value :=
  match P.underlying t with
  | some (.map kt el) => match P.underlying kt with
    | some (.int .i64) => match P.info? el with
      | some i => i.zero
      | none => none
    | _ => none
  | _ => none
theorem MapT.of {P : Program} {t : TypeId} {z : Value} (h : mapTok P t = some z) : MapT P t z := by
  unfold mapTok at h
  split at h
  · rename_i kt el hu
    split at h
    · rename_i hk
      split at h
      · rename_i i hi
        exact ⟨kt, el, i, hu, hk, hi, h⟩
      · cases h
    · cases h
  · cases h
section
variable {P : Program} {e : World} {L : List SP} {w : World} {t : TypeId} {z : Value} {b : Nat} {f : Int → Option Value} {k : Int} {v : Value}
theorem Ok.mapE (h : Ok e (mpP b f :: L) w) : ∃ es clock, w.heap[b]? = some (.map es clock) ∧ mapIs es clock f := by
  obtain ⟨h1, h2, hd, he, ⟨es, clock, hb, hm⟩, hL⟩ := h.heap
  refine ⟨es, clock, ?_, hm⟩
  have := congrFun he b
  simp only [hpOf, Hp.un, hb] at this
  exact this
theorem Ok.mapSet {es : Array MapEntry} {clock : Nat} {g : Int → Option Value} (h : Ok e (mpP b f :: L) w) (hm : mapIs es clock g) : Ok e (mpP b g :: L) { w with heap := w.heap.setIfInBounds b (.map es clock) } := by
  obtain ⟨es0, clock0, hb, -⟩ := h.mapE
  have hs := heap_set (o' := .map es clock) hb
  refine ⟨h.os, h.tape, h.output, ?_⟩
  obtain ⟨h1, h2, hd, he, ⟨es1, clock1, hp, _⟩, hL⟩ := h.heap
  have h2b : h2 b = none := by
    rcases hd b with e | e
    · rw [hp] at e; cases e
    · exact e
  refine ⟨fun j => if j = b then some (.map es clock) else h1 j, h2, fun j => ?_, ?_, ⟨es, clock, by simp, hm⟩, hL⟩
  · by_cases hk : j = b
    · subst hk; exact .inr h2b
    · simpa [hk] using hd j
  · funext j
    have := congrFun he j
    simp only [hpOf, Hp.un] at this ⊢
    by_cases hk : j = b
    · subst hk; simp [hs.1]
    · simp only [hk, if_false]; rw [hs.2 j hk, this]
theorem mapIs_find {es : Array MapEntry} {clock : Nat} (h : mapIs es clock f) (k : Int) :
    (Instr.findNow (.int .i64) (.int .i64 k) es.toList 0 = some none ∧ f k = none ∧ ∀ x ∈ es.toList, x.key ≠ .int .i64 k) ∨ ∃ j x, Instr.findNow (.int .i64) (.int .i64 k) es.toList 0 = some (some (j, x.val)) ∧ es.toList[j]? = some x ∧ x.key = .int .i64 k ∧ f k = some x.val := by
  rcases findNow_spec (d := .int .i64) (k := .int .i64 k) rfl es.toList 0 h.2.1 with ⟨h1, h2⟩ | ⟨j, x, h1, h2, h3⟩
  · refine .inl ⟨h1, ?_, h2⟩
    cases hf : f k with
    | none => rfl
    | some v =>
      obtain ⟨x, hx, hk, _⟩ := (h.2.2 k v).1 hf
      exact absurd hk (h2 x hx)
  · exact .inr ⟨j, x, by simpa using h1, h2, h3, (h.2.2 k x.val).2 ⟨x, List.mem_of_getElem? h2, h3, rfl⟩⟩
theorem lookup_run (T : MapT P t z) (h : Ok e (mpP b f :: L) w) (c : Bool) : (Instr.lookup t (.map (some b)) (.int .i64 k) c).run P w = .ok (if c then .tuple #[(f k).getD z, .bool (f k).isSome] else (f k).getD z) w := by
  obtain ⟨kt, el, i, ht, hk, hi, hz⟩ := T.ex
  obtain ⟨es, clock, hb, hm⟩ := h.mapE
  have hc := MapKept.run_checkKey (P := P) (w := w) (k := .int .i64 k) hk rfl es.isEmpty 9999
  rcases mapIs_find hm k with ⟨h1, h2, _⟩ | ⟨j, x, h1, _, _, h2⟩
  · have hf := MapKept.run_findKey (P := P) (w := w) hk h1
    simp [Instr.lookup, run_underlying ht, MapKept.run_getObj_map hb, hc, hf, zeroValue, typeInfo, hi, hz, h2]
  · have hf := MapKept.run_findKey (P := P) (w := w) hk h1
    simp [Instr.lookup, run_underlying ht, MapKept.run_getObj_map hb, hc, hf, h2]
theorem ef.lookup {ks : List Kd} {K : TK ks → World → Prop} (T : MapT P t z) (h : Ok e (mpP b f :: L) w) (x : TK ks) (hx : ret1 (encK ks x) = (f k).getD z) (kk : K x w) : ef P (Instr.lookup t (.map (some b)) (.int .i64 k) false) ks w K :=
  ⟨x, w, by rw [lookup_run T h, hx]; rfl, kk⟩
theorem ef.lookupOk {ks : List Kd} {K : TK ks → World → Prop} (T : MapT P t z) (h : Ok e (mpP b f :: L) w) (x : TK ks) (hx : ret1 (encK ks x) = .tuple #[(f k).getD z, .bool (f k).isSome]) (kk : K x w) : ef P (Instr.lookup t (.map (some b)) (.int .i64 k) true) ks w K :=
  ⟨x, w, by rw [lookup_run T h, hx]; rfl, kk⟩
theorem mapIs_upd {es es' : Array MapEntry} {clock clock' : Nat} (h : mapIs es clock f) (hs : Stamped es' clock') (hk : ∀ x ∈ es'.toList, IsKey (.int .i64) x.key) {o : Option Value}
    (h1 : ∀ v, o = some v ↔ ∃ x ∈ es'.toList, x.key = .int .i64 k ∧ x.val = v) (h2 : ∀ x, x.key ≠ .int .i64 k → (x ∈ es'.toList ↔ x ∈ es.toList)) : mapIs es' clock' (upd f k o) := by
  refine ⟨hs, hk, fun j v => ?_⟩
  by_cases hj : j = k
  · subst hj
    rw [upd_same]; exact h1 v
  · rw [upd_other hj, h.2.2 j v]
    have hne : ∀ x : MapEntry, x.key = .int .i64 j → x.key ≠ .int .i64 k := fun x hx he => by rw [hx] at he; cases he; exact hj rfl
    constructor
    · rintro ⟨x, hx, hxk, hv⟩; exact ⟨x, (h2 x (hne x hxk)).2 hx, hxk, hv⟩
    · rintro ⟨x, hx, hxk, hv⟩; exact ⟨x, (h2 x (hne x hxk)).1 hx, hxk, hv⟩
theorem efU.mapUpdate {K : World → Prop} (T : MapT P t z) (h : Ok e (mpP b f :: L) w) (kk : ∀ w', Ok e (mpP b (upd f k (some v)) :: L) w' → K w') : efU P (Instr.mapUpdate t (.map (some b)) (.int .i64 k) v) w K := by
  obtain ⟨kt, el, i, ht, hk, hi, hz⟩ := T.ex
  obtain ⟨es, clock, hb, hm⟩ := h.mapE
  have hc := MapKept.run_checkKey (P := P) (w := w) (k := .int .i64 k) hk rfl false 9999
  rcases mapIs_find hm k with ⟨h1, h2, h3⟩ | ⟨j, x, h1, hj, hxk, h2⟩
  · have hf := MapKept.run_findKey (P := P) (w := w) hk h1
    refine ⟨{ w with heap := w.heap.setIfInBounds b (.map (es.push { key := .int .i64 k, val := v, born := clock }) (clock + 1)) }, ?_, kk _ (h.mapSet ?_)⟩
    · simp [Instr.mapUpdate, run_underlying ht, MapKept.run_getObj_map hb, hc, hf, MapKept.run_setObj_map _ hb]
    · refine mapIs_upd hm (stamped_push hm.1 h3) (fun x hx => ?_) (fun u => ?_) (fun x hx => ?_)
      · simp only [Array.toList_push, List.mem_append, List.mem_singleton] at hx
        rcases hx with hx | rfl
        · exact hm.2.1 x hx
        · rfl
      · simp only [Array.toList_push, List.mem_append, List.mem_singleton, Option.some.injEq]
        constructor
        · rintro rfl; exact ⟨_, .inr rfl, rfl, rfl⟩
        · rintro ⟨x, hx | rfl, hxk, rfl⟩
          · exact absurd hxk (h3 x hx)
          · rfl
      · simp only [Array.toList_push, List.mem_append, List.mem_singleton]
        constructor
        · rintro (h | rfl)
          · exact h
          · exact absurd rfl hx
        · exact .inl
  · have hf := MapKept.run_findKey (P := P) (w := w) hk h1
    have hj' : es[j]? = some x := by simpa using hj
    refine ⟨{ w with heap := w.heap.setIfInBounds b (.map (es.modify j fun e => { e with key := .int .i64 k, val := v }) clock) }, ?_, kk _ (h.mapSet ?_)⟩
    · simp [Instr.mapUpdate, run_underlying ht, MapKept.run_getObj_map hb, hc, hf, hj', hxk, Instr.keyThatStays, Instr.sameBits, MapKept.run_setObj_map _ hb]
    · have hkey : ∀ e', es[j]? = some e' → ({ e' with key := .int .i64 k, val := v } : MapEntry).key = e'.key := fun e' he' => by rw [hj'] at he'; cases he'; exact hxk.symm
      have hjl : j < es.size := (Array.getElem?_eq_some_iff.1 hj').1
      have hmem : ∀ y, y ∈ (es.modify j fun e => { e with key := .int .i64 k, val := v }).toList ↔ (∃ i, i ≠ j ∧ es.toList[i]? = some y) ∨ y = { x with key := .int .i64 k, val := v } := by
        intro y
        rw [List.mem_iff_getElem?]
        constructor
        · rintro ⟨i, hi⟩
          rw [Array.getElem?_toList, Array.getElem?_modify] at hi
          by_cases hij : j = i
          · subst hij
            rw [if_pos rfl, hj'] at hi
            simp only [Option.map_some, Option.some.injEq] at hi
            exact .inr hi.symm
          · rw [if_neg hij] at hi
            exact .inl ⟨i, fun h => hij h.symm, by simpa using hi⟩
        · rintro (⟨i, hij, hi⟩ | rfl)
          · refine ⟨i, ?_⟩
            rw [Array.getElem?_toList, Array.getElem?_modify, if_neg (fun h => hij h.symm)]
            simpa using hi
          · refine ⟨j, ?_⟩
            rw [Array.getElem?_toList, Array.getElem?_modify, if_pos rfl, hj']
            rfl
      have huniq : ∀ i y, es.toList[i]? = some y → y.key = .int .i64 k → i = j := fun i y hi hy => by
        have hnd := hm.1.2.2
        have hi1 : (es.toList.map (·.key))[i]? = some (.int .i64 k) := by rw [List.getElem?_map, hi]; simp [hy]
        have hj1 : (es.toList.map (·.key))[j]? = some (.int .i64 k) := by rw [List.getElem?_map, hj]; simp [hxk]
        obtain ⟨hi2, hi3⟩ := List.getElem?_eq_some_iff.1 hi1
        obtain ⟨hj2, hj3⟩ := List.getElem?_eq_some_iff.1 hj1
        exact (List.getElem_inj hnd).1 (hi3.trans hj3.symm)
      refine mapIs_upd hm (stamped_modify hm.1 j (fun e => { e with key := .int .i64 k, val := v }) (fun _ _ => rfl) (fun e' _ he' => hkey e' he')) (isKey_modify hm.2.1 j (fun e => { e with key := .int .i64 k, val := v }) hkey) (fun u => ?_) (fun y hy => ?_)
      · constructor
        · rintro h; cases h; exact ⟨_, (hmem _).2 (.inr rfl), rfl, rfl⟩
        · rintro ⟨y, hy, hyk, rfl⟩
          rcases (hmem y).1 hy with ⟨i, hij, hi⟩ | rfl
          · exact absurd (huniq i y hi hyk) hij
          · rfl
      · rw [hmem y]
        constructor
        · rintro (⟨i, _, hi⟩ | rfl)
          · exact List.mem_of_getElem? hi
          · exact absurd rfl hy
        · intro hy2
          obtain ⟨i, hi⟩ := List.mem_iff_getElem?.1 hy2
          refine .inl ⟨i, fun hij => ?_, hi⟩
          subst hij
          rw [hj] at hi
          cases hi
          exact hy hxk
theorem ef.delete {ty kt : TypeId} {K : TK [] → World → Prop} (T : MapT P t z) (h : Ok e (mpP b f :: L) w) (kk : ∀ w', Ok e (mpP b (upd f k none) :: L) w' → K () w') : ef P (Builtin.delete_ #[t, kt] ty #[.map (some b), .int .i64 k]) [] w K := by
  obtain ⟨kt', el, i, ht, hk, hi, hz⟩ := T.ex
  obtain ⟨es, clock, hb, hm⟩ := h.mapE
  have hc := MapKept.run_checkKey (P := P) (w := w) (k := .int .i64 k) hk rfl es.isEmpty 9999
  rcases mapIs_find hm k with ⟨h1, h2, h3⟩ | ⟨j, x, h1, hj, hxk, h2⟩
  · have hf := MapKept.run_findKey (P := P) (w := w) hk h1
    refine ⟨(), { w with heap := w.heap.setIfInBounds b (.map es clock) }, ?_, kk _ (h.mapSet ?_)⟩
    · simp [Builtin.delete_, run_underlying ht, MapKept.run_getObj_map hb, hc, hf, MapKept.run_setObj_map _ hb, ret1, encK]
    · refine mapIs_upd hm hm.1 hm.2.1 (fun u => ?_) (fun x _ => Iff.rfl)
      constructor
      · intro h; cases h
      · rintro ⟨x, hx, hxk, _⟩; exact absurd hxk (h3 x hx)
  · have hf := MapKept.run_findKey (P := P) (w := w) hk h1
    have hj' : es[j]? = some x := by simpa using hj
    have hjl : j < es.size := (Array.getElem?_eq_some_iff.1 hj').1
    refine ⟨(), { w with heap := w.heap.setIfInBounds b (.map (es.eraseIdxIfInBounds j) clock) }, ?_, kk _ (h.mapSet ?_)⟩
    · simp [Builtin.delete_, run_underlying ht, MapKept.run_getObj_map hb, hc, hf, MapKept.run_setObj_map _ hb, ret1, encK]
    · have hel : (es.eraseIdxIfInBounds j).toList = es.toList.eraseIdx j := by simp [Array.eraseIdxIfInBounds, hjl]
      have hsub : (es.toList.eraseIdx j).Sublist es.toList := List.eraseIdx_sublist _ _
      have hnd := hm.1.2.2
      have huniq : ∀ i y, es.toList[i]? = some y → y.key = .int .i64 k → i = j := fun i y hi hy => by
        have hi1 : (es.toList.map (·.key))[i]? = some (.int .i64 k) := by rw [List.getElem?_map, hi]; simp [hy]
        have hj1 : (es.toList.map (·.key))[j]? = some (.int .i64 k) := by rw [List.getElem?_map, hj]; simp [hxk]
        obtain ⟨hi2, hi3⟩ := List.getElem?_eq_some_iff.1 hi1
        obtain ⟨hj2, hj3⟩ := List.getElem?_eq_some_iff.1 hj1
        exact (List.getElem_inj hnd).1 (hi3.trans hj3.symm)
      refine mapIs_upd hm (stamped_erase hm.1 j) (fun x hx => hm.2.1 x (hsub.subset (by rw [← hel]; exact hx))) (fun u => ?_) (fun y hy => ?_)
      · constructor
        · intro h; cases h
        · rintro ⟨y, hy, hyk, _⟩
          rw [hel] at hy
          obtain ⟨i, hi⟩ := List.mem_iff_getElem?.1 hy
          rw [List.getElem?_eraseIdx] at hi
          split at hi
          · have := huniq i y hi hyk; omega
          · have := huniq (i + 1) y hi hyk; omega
      · rw [hel]
        constructor
        · intro h; exact hsub.subset h
        · intro hy2
          obtain ⟨i, hi⟩ := List.mem_iff_getElem?.1 hy2
          rw [List.mem_iff_getElem?]
          rcases Nat.lt_trichotomy i j with hij | hij | hij
          · exact ⟨i, by rw [List.getElem?_eraseIdx, if_pos hij]; exact hi⟩
          · subst hij
            rw [hj] at hi
            cases hi
            exact absurd hxk hy
          · exact ⟨i - 1, by rw [List.getElem?_eraseIdx, if_neg (by omega), show i - 1 + 1 = i by omega]; exact hi⟩
theorem Ok.mapNew {es : Array MapEntry} {clock : Nat} (h : Ok e L w) (hm : mapIs es clock f) : Ok e (mpP w.heap.size f :: L) (w.alloc (.map es clock)) := by
  refine ⟨h.os, h.tape, h.output, fun k => if k = w.heap.size then some (.map es clock) else none, hpOf w, fun k => ?_, ?_, ⟨es, clock, by simp, hm⟩, h.heap⟩
  · by_cases hk : k = w.heap.size
    · subst hk; right; simp [hpOf]
    · left; simp [hk]
  · funext k
    simp only [hpOf, World.alloc, Hp.un, Array.getElem?_push]
    by_cases hk : k = w.heap.size <;> simp [hk]
theorem mapIs_empty : mapIs #[] 0 fun _ => none := ⟨stamped_empty 0, by simp, by simp⟩
theorem ef.makeMap {K : TK [kM] → World → Prop} (h : Ok e L w) (kk : ∀ b w', Ok e (mpP b (fun _ => none) :: L) w' → K (some b, ()) w') : ef P (Instr.makeMap t none) [kM] w K :=
  ⟨(some w.heap.size, ()), w.alloc (.map #[] 0), by simp [Instr.makeMap, ret1, encK]; rfl, kk _ _ (h.mapNew mapIs_empty)⟩
theorem ef.assertMap {K : TK [kM] → World → Prop} {u : TypeId} {m : Option Nat} (T : MapT P t z) (kk : K (m, ()) w) : ef P (Instr.typeAssert (.iface t (.map m)) u t false) [kM] w K := by
  obtain ⟨kt, el, i, ht, hk, hi, hz⟩ := T.ex
  exact ⟨(m, ()), w, by simp [Instr.typeAssert, run_underlying ht, ret1, encK]; rfl, kk⟩
/-- 'maps.clone' -/
structure McT (P : Program) (f : FuncId) : Prop where
  ex : ∃ fn, P.funcs[f]? = some fn ∧ (fn.name == "runtime.NumGoroutine") = false ∧ fn.body.isNone = true ∧ Extern.findNext fn = none ∧ Extern.find fn = some Extern.MapsClone.clone
theorem xt.mapClone {fid : FuncId} {ty : TypeId} {K : TK [.l .n] → World → Prop} (T : McT P fid) (h : Ok e (mpP b f :: L) w) (kk : ∀ b' w', Ok e (mpP b' f :: mpP b f :: L) w' → K ((⟨ty, .map (some b')⟩ : Iv), ()) w') : xt P fid [.iface ty (.map (some b))] [.l .n] w K := by
  obtain ⟨fn, hf, hname, hb, hn, he⟩ := T.ex
  obtain ⟨es, clock, hbl, hm⟩ := h.mapE
  refine ⟨((⟨ty, .map (some w.heap.size)⟩ : Iv), ()), w.alloc (.map es clock), ?_, kk _ _ (h.mapNew hm)⟩
  have hc : Extern.MapsClone.clone #[.iface ty (.map (some b))] = (getObj b >>= fun o => match o with | .map entries clock => (newObj (.map entries clock) >>= fun r => pure (.iface ty (.map (some r)))) | _ => stuck "maps.clone: a map expected") := rfl
  have hr : (Extern.MapsClone.clone #[.iface ty (.map (some b))]).run P w = .ok (.iface ty (.map (some w.heap.size))) (w.alloc (.map es clock)) := by
    rw [hc, Sem.run_bind, MapKept.run_getObj_map hbl]
    rfl
  have := run_callFunc_extern hf hname hb hn he #[.iface ty (.map (some b))] w
  rw [show [Value.iface ty (.map (some b))].toArray = #[.iface ty (.map (some b))] from rfl, this, hr]
  rfl
end
end Go.Proofs.Ytjamgdepbjipdaa.B
