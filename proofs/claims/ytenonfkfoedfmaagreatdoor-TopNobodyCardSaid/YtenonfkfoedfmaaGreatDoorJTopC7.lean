/- Texts of ours, joined: Row. -/
import Derived.Below
import Derived.ChangeOld
import Derived.ChangeShapes
import Derived.Deep.Slices
import Derived.OpenShut
import Derived.ProofKit
import Derived.Test.YtenonfkfoedfmaaGreatDoorJTopC6
set_option linter.unusedSimpArgs false
set_option linter.unusedVariables false
/- What came in: slices of scalars, and of structs of scalars, opened to their cells. -/
namespace Go.Proofs.YtenonfkfoedfmaaGreatDoor.B
open Go
open Go.Deep (open_slice choose_lt)
set_option linter.unusedVariables false
inductive Fk where
  | i (k : IntKind)
  | b
  | s (F : Fk)
def Fk.at (w : World) : Fk → Value → Prop
  | .i k, v => ∃ n, v = .int k n ∧ (Lit.int k n).wf = true
  | .b, v => ∃ x, v = .bool x
  | .s F, v => ∃ s vs, v = vS s ∧ ArgS 1 w s vs ∧ ∀ u ∈ vs, F.at w u
abbrev ArgF (Fs : List Fk) (e : World) (s : Sl) (vs : List Value) : Prop := ArgS Fs.length e s vs ∧ ∀ i, i < s.len → ∀ (j : Nat) F, Fs[j]? = some F → ∃ u, vs[i * Fs.length + j]? = some u ∧ F.at e u
def Fk.ty (P : Program) : TypeId → Fk → Bool
  | t, .i k => match P.underlying t with | some (.int k') => k == k' | _ => false
  | t, .b => match P.underlying t with | some .bool => true | _ => false
  | t, .s F => match P.underlying t with | some (.slice el) => P.cellsOf el == 1 && F.ty P el | _ => false
def fldsTok (P : Program) : Nat → List Field → List Fk → Bool
  | _, [], [] => true
  | j, f :: fs, F :: Fs => f.offset == j && P.cellsOf f.type == 1 && Fk.ty P f.type F && fldsTok P (j + 1) fs Fs
  | _, _, _ => false
def rowTok (P : Program) (el : TypeId) (Fs : List Fk) : Bool :=
  P.cellsOf el == Fs.length && match P.underlying el with
    | some (.struct fs) => fldsTok P 0 fs.toList Fs
    | _ => match Fs with | [F] => Fk.ty P el F | _ => false
section
variable {H : Type} {enc : TypeId × Value → H} {P : Program} {w : World} {base : Nat} {spare : Nat → Bool} {held : Bool}
theorem cell_block_lt {a : Addr} {v : Value} (h : w.cell? a = some v) : a.block < w.heap.size := by
  unfold World.cell? at h
  split at h
  · next hb => exact (Array.getElem?_eq_some_iff.1 hb).1
  · cases h
theorem Fk.open {F : Fk} : ∀ {t : TypeId} {fuel : Nat} {cs : List Value} {x : DataW H × List MemPlace}, Fk.ty P t F = true → DataW.trod enc P w base spare held fuel t cs = some x → ∃ v, cs = [v] ∧ F.at w v := by
  induction F with
  | i k =>
    intro t fuel cs x ht h
    simp only [Fk.ty] at ht
    split at ht
    · next k' hk =>
      have : k = k' := by simpa using ht
      subst this
      obtain ⟨n, rfl, _, hw⟩ := DataW.trod_int hk h
      exact ⟨_, rfl, n, rfl, hw⟩
    · cases ht
  | b =>
    intro t fuel cs x ht h
    simp only [Fk.ty] at ht
    split at ht
    · next hk =>
      obtain ⟨n, rfl, _⟩ := DataW.trod_bool hk h
      exact ⟨_, rfl, n, rfl⟩
    · cases ht
  | s F ih =>
    intro t fuel cs x ht h
    simp only [Fk.ty] at ht
    split at ht
    · next el hk =>
      simp only [Bool.and_eq_true, beq_iff_eq] at ht
      rcases Go.Deep.open_slice1 hk ht.1 h with ⟨rfl, _⟩ | ⟨a, len, cap, m, n, V, D, Pl, rfl, _, hl, _, hm, _, hx⟩
      · exact ⟨_, rfl, ⟨none, 0, 0⟩, [], rfl, ⟨by simp, fun i x h => by simp at h, Nat.le_refl _⟩, by simp⟩
      · have hle : len ≤ m := by rw [hm]; split <;> omega
        refine ⟨_, rfl, ⟨some a, len, cap⟩, (List.range len).map V, rfl, ⟨by simp, fun i x hi => ?_, hl⟩, fun u hu => ?_⟩
        · have hil : i < len := by
            have := (List.getElem?_eq_some_iff.1 hi).1
            simpa using this
          rw [List.getElem?_map, List.getElem?_range hil] at hi
          simp only [Option.map_some, Option.some.injEq] at hi
          subst hi
          have h1 := (hx i (by omega)).1
          have h0 := (hx 0 (by omega)).1
          have hsp := World.cell?_spot h0
          obtain ⟨b, o, sp⟩ := a
          have : sp = none := by simpa [Addr.add] using hsp
          subst this
          rw [Addr.add_lit] at h1
          exact ⟨b, o, rfl, cell_block_lt h1, h1⟩
        · obtain ⟨i, hi, rfl⟩ := List.mem_map.1 hu
          have hil : i < len := by simpa using hi
          obtain ⟨v, hv, hat⟩ := ih ht.2 (hx i (by omega)).2
          cases hv
          exact hat
    · cases ht
theorem fldsTok_at : ∀ {fs : List Field} {Fs : List Fk} {j0 : Nat}, fldsTok P j0 fs Fs = true → ∀ {j : Nat} {F : Fk}, Fs[j]? = some F → ∃ f, fs[j]? = some f ∧ f.offset = j0 + j ∧ P.cellsOf f.type = 1 ∧ Fk.ty P f.type F = true
  | [], [], _, _, j, F, hj => by simp at hj
  | [], _ :: _, _, h, _, _, _ => by simp [fldsTok] at h
  | _ :: _, [], _, h, _, _, _ => by simp [fldsTok] at h
  | f :: fs, F' :: Fs, j0, h, j, F, hj => by
    simp only [fldsTok, Bool.and_eq_true, beq_iff_eq] at h
    cases j with
    | zero =>
      cases hj
      exact ⟨f, rfl, h.1.1.1, h.1.1.2, h.1.2⟩
    | succ j =>
      obtain ⟨g, h1, h2, h3⟩ := fldsTok_at h.2 (j := j) (F := F) (by simpa using hj)
      exact ⟨g, by simpa using h1, by omega, h3⟩
theorem open_row {t el : TypeId} {Fs : List Fk} {r : Reach} {b0 : Nat} {v : Value} {d : DataW H} {ps : List MemPlace} (ht : P.underlying t = some (.slice el)) (hF : rowTok P el Fs = true) (hn : 0 < Fs.length)
    (hval : Value.okWide P w r b0 t v) (hd : DataW.Trod enc P w base spare held t v d ps) :
    ∃ s vs, v = vS s ∧ ArgS Fs.length w s vs ∧ ∀ i, i < s.len → ∀ (j : Nat) F, Fs[j]? = some F → ∃ u, vs[i * Fs.length + j]? = some u ∧ F.at w u := by
  obtain ⟨a, len, cap, rfl⟩ := Go.WideShapes.okWide_slice ht hval
  obtain ⟨fuel, hf⟩ := hd
  rcases open_slice ht hf with ⟨hcs, _⟩ | ⟨a', len', cap', m, n, D, Pl, hcs, _, hl, hm, hmm, _, hx⟩
  · simp [Value.cells] at hcs
    obtain ⟨rfl, rfl, rfl⟩ := hcs
    exact ⟨⟨none, 0, 0⟩, [], rfl, ⟨by simp, fun i x h => by simp at h, Nat.le_refl _⟩, fun i hi => absurd hi (Nat.not_lt_zero _)⟩
  · simp [Value.cells] at hcs
    obtain ⟨rfl, rfl, rfl⟩ := hcs
    simp only [rowTok, Bool.and_eq_true, beq_iff_eq] at hF
    have each : ∀ i, i < len → ∀ (j : Nat) F, Fs[j]? = some F → ∃ u, w.cell? (a'.add (i * Fs.length + j)) = some u ∧ F.at w u := by
      intro i hi j F hj
      have him : i < m := by rw [hmm]; split <;> omega
      obtain ⟨cs', h1, h2⟩ := hx i him
      have hjl : j < Fs.length := (List.getElem?_eq_some_iff.1 hj).1
      rw [hF.1] at h1
      obtain ⟨_, hlen, hc⟩ := World.cells?_some h1
      have hc := hc j hjl
      rw [show (a'.add (i * Fs.length)).add j = a'.add (i * Fs.length + j) from Go.Deep.add_add ..] at hc
      have h3 := hF.2
      split at h3
      · next fs hfs =>
        obtain ⟨f, hf1, hf2, hf3, hf4⟩ := fldsTok_at h3 hj
        obtain ⟨xs, n', _, _, _, hxl, hfx⟩ := DataW.trod_struct hfs h2
        have hg := hfx j f (by simpa using hf1)
        rw [hf2, hf3, Nat.zero_add] at hg
        have hjx : j < xs.length := by
          rw [hxl]
          have := (List.getElem?_eq_some_iff.1 hf1).1
          simpa using this
        rw [List.getElem?_eq_getElem hjx] at hg
        obtain ⟨u, hu, hat⟩ := Fk.open hf4 hg
        refine ⟨u, ?_, hat⟩
        rw [hc]
        have : ((cs'.drop j).take 1)[0]? = some u := by rw [hu]; rfl
        rw [List.getElem?_take_of_lt (by decide), List.getElem?_drop] at this; simpa using this
      · split at h3
        · next F' =>
          have hj0 : j = 0 := by simp at hjl; omega
          subst hj0
          cases hj
          obtain ⟨u, rfl, hat⟩ := Fk.open h3 h2
          exact ⟨u, by rw [hc]; rfl, hat⟩
        · cases h3
    have eachq : ∀ q, q < len * Fs.length → ∃ u, w.cell? (a'.add q) = some u := by
      intro q hq
      have hq2 : q % Fs.length < Fs.length := Nat.mod_lt _ hn
      have hq1 : q / Fs.length < len := Nat.div_lt_of_lt_mul (by rw [Nat.mul_comm]; exact hq)
      obtain ⟨u, hu, _⟩ := each _ hq1 _ _ (List.getElem?_eq_getElem hq2)
      rw [Nat.div_add_mod'] at hu
      exact ⟨u, hu⟩
    refine ⟨⟨some a', len, cap⟩, (List.range (len * Fs.length)).map fun q => (w.cell? (a'.add q)).getD (.bool false), rfl, ⟨by simp, fun q x hq => ?_, hl⟩, fun i hi j F hj => ?_⟩
    · have hql : q < len * Fs.length := by
        have := (List.getElem?_eq_some_iff.1 hq).1
        simpa using this
      obtain ⟨u, hu⟩ := eachq q hql
      have hxu : x = u := by
        rw [List.getElem?_map, List.getElem?_range hql] at hq
        simp only [Option.map_some, hu, Option.getD_some, Option.some.injEq] at hq
        exact hq.symm
      subst hxu
      obtain ⟨u0, hu0⟩ := eachq 0 (by omega)
      have hsp := World.cell?_spot hu0
      obtain ⟨b, o, sp⟩ := a'
      have : sp = none := by simpa [Addr.add] using hsp
      subst this
      have ha : (⟨b, o, none⟩ : Addr).add q = ⟨b, o + q, none⟩ := by
        simp only [Addr.add]
        split
        · next h0 => rw [h0]; rfl
        · rfl
      rw [ha] at hu
      exact ⟨b, o, rfl, cell_block_lt hu, hu⟩
    · obtain ⟨u, hu, hat⟩ := each i hi j F hj
      have hjl : j < Fs.length := (List.getElem?_eq_some_iff.1 hj).1
      have hlt : i * Fs.length + j < len * Fs.length := by
        calc i * Fs.length + j < i * Fs.length + Fs.length := by omega
          _ = (i + 1) * Fs.length := by rw [Nat.succ_mul]
          _ ≤ len * Fs.length := Nat.mul_le_mul_right _ hi
      refine ⟨u, ?_, hat⟩
      rw [List.getElem?_map, List.getElem?_range hlt]
      simp [hu]
theorem open_argI {t el : TypeId} {k : IntKind} {r : Reach} {b0 : Nat} {v : Value} {d : DataW H} {ps : List MemPlace} (ht : P.underlying t = some (.slice el)) (hF : rowTok P el [.i k] = true)
    (hval : Value.okWide P w r b0 t v) (hd : DataW.Trod enc P w base spare held t v d ps) : ∃ s xs, v = vS s ∧ ArgI k w s xs := by
  obtain ⟨s, vs, rfl, ha, hv⟩ := open_row ht hF (by simp) hval hd
  have hlen : vs.length = s.len := by rw [ha.len]; simp
  have hv' : ∀ i, i < s.len → ∃ n, vs[i]? = some (.int k n) ∧ (Lit.int k n).wf = true := by
    intro i hi
    obtain ⟨u, hu, n, rfl, hw⟩ := hv i hi 0 _ rfl
    exact ⟨n, by simpa using hu, hw⟩
  obtain ⟨f, hf⟩ := choose_lt (p := fun i (n : Int) => vs[i]? = some (.int k n) ∧ (Lit.int k n).wf = true) hv'
  refine ⟨s, (List.range s.len).map f, rfl, by simp, fun i x hi => ?_, fun x hx => ?_, ha.cap⟩
  · have hil : i < s.len := by
      have := (List.getElem?_eq_some_iff.1 hi).1
      simpa using this
    rw [List.getElem?_map, List.getElem?_range hil] at hi
    simp only [Option.map_some, Option.some.injEq] at hi
    subst hi
    exact ha.cell i _ (hf i hil).1
  · obtain ⟨i, hi, rfl⟩ := List.mem_map.1 hx
    exact (hf i (by simpa using hi)).2
/-- a slice of whole numbers in a row -/
theorem argI_of {k : IntKind} {v : Value} (h : (Fk.s (.i k)).at w v) : ∃ s xs, v = vS s ∧ ArgI k w s xs := by
  obtain ⟨s, vs, rfl, ha, hv⟩ := h
  have hlen : vs.length = s.len := by rw [ha.len, Nat.mul_one]
  have hv' : ∀ i, i < s.len → ∃ n, vs[i]? = some (.int k n) ∧ (Lit.int k n).wf = true := by
    intro i hi
    have hlt : i < vs.length := by omega
    obtain ⟨n, hn, hw⟩ := hv vs[i] (List.getElem_mem hlt)
    exact ⟨n, by rw [List.getElem?_eq_getElem hlt, hn], hw⟩
  obtain ⟨f, hf⟩ := choose_lt (p := fun i (n : Int) => vs[i]? = some (.int k n) ∧ (Lit.int k n).wf = true) hv'
  refine ⟨s, (List.range s.len).map f, rfl, by simp, fun i x hi => ?_, fun x hx => ?_, ha.cap⟩
  · have hil : i < s.len := by
      have := (List.getElem?_eq_some_iff.1 hi).1
      simpa using this
    rw [List.getElem?_map, List.getElem?_range hil] at hi
    simp only [Option.map_some, Option.some.injEq] at hi
    subst hi
    exact ha.cell i _ (hf i hil).1
  · obtain ⟨i, hi, rfl⟩ := List.mem_map.1 hx
    exact (hf i (by simpa using hi)).2
/-- an array of whole numbers -/
def arrTok (P : Program) (t : TypeId) (n : Nat) (k : IntKind) : Bool :=
  match P.underlying t with
  | some (.array m e) => Nat.beq m n && Nat.beq (P.cellsOf e) 1 && Nat.beq (P.cellsOf t) m && (match P.underlying e with | some (.int k') => k == k' | _ => false)
  | _ => false
theorem mapM_all {α β : Type} {f : α → Option β} : ∀ {l : List α} {ys : List β}, l.mapM f = some ys → ∀ x ∈ l, ∃ y, f x = some y := by
  intro l
  induction l with
  | nil => intro ys _ x hx; cases hx
  | cons a r ih =>
    intro ys h x hx
    rw [List.mapM_cons] at h
    obtain ⟨y, hy, h⟩ := Option.bind_eq_some_iff.1 h
    obtain ⟨zs, hz, _⟩ := Option.bind_eq_some_iff.1 h
    rcases List.mem_cons.1 hx with rfl | hx
    · exact ⟨y, hy⟩
    · exact ih hz x hx
theorem open_arr {t : TypeId} {n : Nat} {k : IntKind} {r : Reach} {b0 : Nat} {v : Value} {d : DataW H} {ps : List MemPlace} (ht : arrTok P t n k = true)
    (hval : Value.okWide P w r b0 t v) (hd : DataW.Trod enc P w base spare held t v d ps) : ∃ xs : List Int, xs.length = n ∧ v = .agg (xs.map (Value.int k)).toArray ∧ ∀ x ∈ xs, (Lit.int k x).wf = true := by
  unfold arrTok at ht
  split at ht
  · next m e hu =>
    simp only [Bool.and_eq_true] at ht
    obtain ⟨⟨⟨h1, h2⟩, h4⟩, h3⟩ := ht
    have h4 := Nat.eq_of_beq_eq_true h4
    have h1 := Nat.eq_of_beq_eq_true h1
    have h2 := Nat.eq_of_beq_eq_true h2
    subst h1
    split at h3
    · next k' he =>
      have : k = k' := by simpa using h3
      subst this
      simp only [Value.okWide, hu] at hval
      obtain ⟨cs, rfl, hsz, -⟩ := hval
      obtain ⟨fuel, hf⟩ := hd
      cases fuel with
      | zero => simp [DataW.trod] at hf
      | succ fuel =>
        unfold DataW.trod at hf
        rw [hu] at hf
        change (if cs.toList.length = P.cellsOf t then _ else none) = _ at hf
        rw [if_pos (show cs.toList.length = P.cellsOf t by rw [Array.length_toList, hsz])] at hf
        obtain ⟨ys, hy, -⟩ := Option.map_eq_some_iff.1 hf
        have hx : ∀ i, i < m → ∃ x : Int, cs.toList[i]? = some (.int k x) ∧ (Lit.int k x).wf = true := by
          intro i hi
          obtain ⟨y, hy⟩ := mapM_all hy i (List.mem_range.2 hi)
          rw [h2, Nat.mul_one] at hy
          obtain ⟨x, hx, _, hw⟩ := DataW.trod_int he hy
          refine ⟨x, ?_, hw⟩
          have := congrArg (fun l => l[0]?) hx
          simp only [List.getElem?_take_of_lt (show 0 < 1 by decide), List.getElem?_drop, Nat.add_zero] at this
          exact this
        obtain ⟨f, hf⟩ := choose_lt (p := fun i (x : Int) => cs.toList[i]? = some (.int k x) ∧ (Lit.int k x).wf = true) hx
        have hlen : cs.toList.length = m := by
          rw [Array.length_toList, hsz, h4]
        refine ⟨(List.range m).map f, by simp, ?_, fun x hx => ?_⟩
        · have : cs.toList = ((List.range m).map f).map (Value.int k) := by
            refine List.ext_getElem? fun i => ?_
            by_cases hi : i < m
            · rw [(hf i hi).1]
              simp [hi]
            · rw [List.getElem?_eq_none (by omega), List.getElem?_eq_none (by simp; omega)]
          rw [← this]
        · obtain ⟨i, hi, rfl⟩ := List.mem_map.1 hx
          exact (hf i (List.mem_range.1 hi)).2
    · cases h3
  · cases ht
theorem open_arr3 {t : TypeId} {k : IntKind} {r : Reach} {b0 : Nat} {v : Value} {d : DataW H} {ps : List MemPlace} (ht : arrTok P t 3 k = true)
    (hval : Value.okWide P w r b0 t v) (hd : DataW.Trod enc P w base spare held t v d ps) : ∃ x0 x1 x2 : Int, v = .agg #[.int k x0, .int k x1, .int k x2] ∧ (Lit.int k x0).wf = true ∧ (Lit.int k x1).wf = true ∧ (Lit.int k x2).wf = true := by
  obtain ⟨xs, hl, rfl, hw⟩ := open_arr ht hval hd
  match xs, hl with
  | [x0, x1, x2], _ => exact ⟨x0, x1, x2, rfl, hw _ (by simp), hw _ (by simp), hw _ (by simp)⟩
theorem open_arr4 {t : TypeId} {k : IntKind} {r : Reach} {b0 : Nat} {v : Value} {d : DataW H} {ps : List MemPlace} (ht : arrTok P t 4 k = true)
    (hval : Value.okWide P w r b0 t v) (hd : DataW.Trod enc P w base spare held t v d ps) : ∃ x0 x1 x2 x3 : Int, v = .agg #[.int k x0, .int k x1, .int k x2, .int k x3] ∧ (Lit.int k x0).wf = true ∧ (Lit.int k x1).wf = true ∧ (Lit.int k x2).wf = true ∧ (Lit.int k x3).wf = true := by
  obtain ⟨xs, hl, rfl, hw⟩ := open_arr ht hval hd
  match xs, hl with
  | [x0, x1, x2, x3], _ => exact ⟨x0, x1, x2, x3, rfl, hw _ (by simp), hw _ (by simp), hw _ (by simp), hw _ (by simp)⟩
end
end Go.Proofs.YtenonfkfoedfmaaGreatDoor.B

