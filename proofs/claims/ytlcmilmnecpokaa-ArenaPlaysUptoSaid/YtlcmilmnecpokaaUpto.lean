/- What came in, with a bound on how much it is. -/
import Derived.Test.YtlcmilmnecpokaaLaws2b
import Derived.Test.YtlcmilmnecpokaaRows
namespace Go.Proofs.Ytlcmilmnecpokaa.B
open Go
open Go.Deep (open_slice choose_lt)
set_option linter.unusedVariables false

section
variable {H : Type} {enc : TypeId × Value → H} {P : Program} {w : World} {base : Nat} {spare : Nat → Bool} {held : Bool}

theorem bulk_part {d : DataW H} {l : List (DataW H)} (h : d ∈ l) : Rows.uptoBulk d ≤ Rows.uptoBulkAll l := by
  induction l with
  | nil => cases h
  | cons x r ih =>
    simp only [Rows.uptoBulkAll]
    rcases List.mem_cons.1 h with e | e
    · subst e; omega
    · have := ih e; omega

theorem bulk_one (d : DataW H) : 1 ≤ Rows.uptoBulk d := by
  cases d with
  | lit l => cases l <;> simp [Rows.uptoBulk]
  | _ => simp [Rows.uptoBulk]

theorem bulk_len (l : List (DataW H)) : l.length ≤ Rows.uptoBulkAll l := by
  induction l with
  | nil => simp [Rows.uptoBulkAll]
  | cons x r ih => have := bulk_one x; simp only [Rows.uptoBulkAll, List.length_cons]; omega

theorem bulk_sum (l : List (DataW H)) : (l.map Rows.uptoBulk).sum = Rows.uptoBulkAll l := by
  induction l with
  | nil => simp [Rows.uptoBulkAll]
  | cons x r ih => simp only [Rows.uptoBulkAll, List.map_cons, List.sum_cons, ih]

/-- how much a value holds, at the most -/
def Fk.sz (w : World) : Fk → Nat → Value → Prop
  | .i _, _, _ => True
  | .b, _, _ => True
  | .s F, n, v => ∃ s vs, ∃ ns : List Nat, v = vS s ∧ ArgS 1 w s vs ∧ ns.length = vs.length ∧ s.len ≤ n ∧ ns.sum ≤ n ∧ ∀ (i : Nat) u k, vs[i]? = some u → ns[i]? = some k → F.at w u ∧ F.sz w k u

theorem Fk.openSz {F : Fk} : ∀ {t : TypeId} {fuel : Nat} {cs : List Value} {x : DataW H × List MemPlace}, Fk.ty P t F = true → DataW.trod enc P w base spare held fuel t cs = some x → ∃ v, cs = [v] ∧ F.at w v ∧ F.sz w (Rows.uptoBulk x.1) v := by
  induction F with
  | i k =>
    intro t fuel cs x ht h
    obtain ⟨v, hv, ha⟩ := Fk.open ht h
    exact ⟨v, hv, ha, trivial⟩
  | b =>
    intro t fuel cs x ht h
    obtain ⟨v, hv, ha⟩ := Fk.open ht h
    exact ⟨v, hv, ha, trivial⟩
  | s F ih =>
    intro t fuel cs x ht h
    obtain ⟨v, hv, ha⟩ := Fk.open ht h
    refine ⟨v, hv, ha, ?_⟩
    simp only [Fk.ty] at ht
    split at ht
    · next el hk =>
      simp only [Bool.and_eq_true, beq_iff_eq] at ht
      rcases Go.Deep.open_slice1 hk ht.1 h with ⟨rfl, rfl⟩ | ⟨a, len, cap, m, n, V, D, Pl, rfl, _, hl, _, hm, rfl, hx⟩
      · cases hv
        exact ⟨⟨none, 0, 0⟩, [], [], rfl, ⟨by simp, fun i x h => by simp at h, Nat.le_refl _⟩, rfl, Nat.zero_le _, Nat.zero_le _, fun i u k h => by simp at h⟩
      · cases hv
        have hle : len ≤ m := by rw [hm]; split <;> omega
        have hb1 : len ≤ Rows.uptoBulk (DataW.slice ((List.range len).map D) ((List.range (m - len)).map fun j => D (len + j))) := by
          have := bulk_len ((List.range len).map D)
          rw [List.length_map, List.length_range] at this
          simp only [Rows.uptoBulk]; omega
        have hb2 : (((List.range len).map D).map Rows.uptoBulk).sum ≤ Rows.uptoBulk (DataW.slice ((List.range len).map D) ((List.range (m - len)).map fun j => D (len + j))) := by
          rw [bulk_sum]
          simp only [Rows.uptoBulk]; omega
        refine ⟨⟨some a, len, cap⟩, (List.range len).map V, ((List.range len).map D).map Rows.uptoBulk, rfl, ⟨by simp, fun i x hi => ?_, hl⟩, by simp, hb1, hb2, fun i u k hu hk2 => ?_⟩
        · have hil : i < len := by
            have := (List.getElem?_eq_some_iff.1 hi).1
            simpa using this
          rw [List.getElem?_map, List.getElem?_range hil] at hi
          simp only [Option.map_some, Option.some.injEq] at hi
          subst hi
          have h1 := (hx i (by omega)).1
          have h0 := (hx 0 (by omega)).1
          have hsp := World.cell?_spot h0
          obtain ⟨b, o, sp⟩ := a
          have : sp = none := by simpa [Addr.add] using hsp
          subst this
          rw [Addr.add_lit] at h1
          exact ⟨b, o, rfl, cell_block_lt h1, h1⟩
        · have hil : i < len := by
            have := (List.getElem?_eq_some_iff.1 hu).1
            simpa using this
          rw [List.getElem?_map, List.getElem?_range hil] at hu
          rw [List.getElem?_map, List.getElem?_map, List.getElem?_range hil] at hk2
          cases hu
          cases hk2
          obtain ⟨v, hv, hat, hsz⟩ := ih ht.2 (hx i (by omega)).2
          cases hv
          exact ⟨hat, hsz⟩
    · cases ht

theorem open_rowSz {t el : TypeId} {Fs : List Fk} {r : Reach} {b0 : Nat} {v : Value} {d : DataW H} {ps : List MemPlace} (ht : P.underlying t = some (.slice el)) (hF : rowTok P el Fs = true) (hn : 0 < Fs.length)
    (hval : Value.okWide P w r b0 t v) (hd : DataW.Trod enc P w base spare held t v d ps) :
    ∃ s vs, v = vS s ∧ ArgS Fs.length w s vs ∧ ∀ i, i < s.len → ∀ (j : Nat) F, Fs[j]? = some F → ∃ u, vs[i * Fs.length + j]? = some u ∧ F.at w u ∧ F.sz w (Rows.uptoBulk d) u := by
  obtain ⟨a, len, cap, rfl⟩ := Go.WideShapes.okWide_slice ht hval
  obtain ⟨fuel, hf⟩ := hd
  rcases open_slice ht hf with ⟨hcs, _⟩ | ⟨a', len', cap', m, n, D, Pl, hcs, _, hl, hm, hmm, hxd, hx⟩
  · simp [Value.cells] at hcs
    obtain ⟨rfl, rfl, rfl⟩ := hcs
    exact ⟨⟨none, 0, 0⟩, [], rfl, ⟨by simp, fun i x h => by simp at h, Nat.le_refl _⟩, fun i hi => absurd hi (Nat.not_lt_zero _)⟩
  · simp [Value.cells] at hcs
    obtain ⟨rfl, rfl, rfl⟩ := hcs
    simp only [Prod.mk.injEq] at hxd
    obtain ⟨rfl, -⟩ := hxd
    simp only [rowTok, Bool.and_eq_true, beq_iff_eq] at hF
    generalize hdd : (DataW.slice ((List.range len).map D) ((List.range (m - len)).map fun j => D (len + j))) = dd
    have hDi : ∀ i, i < len → Rows.uptoBulk (D i) ≤ Rows.uptoBulk dd := by
      intro i hi
      have := bulk_part (l := (List.range len).map D) (d := D i) (List.mem_map.2 ⟨i, List.mem_range.2 hi, rfl⟩)
      rw [← hdd]
      simp only [Rows.uptoBulk]; omega
    have mono : ∀ {F : Fk} {n k : Nat} {u : Value}, n ≤ k → F.sz w n u → F.sz w k u := by
      intro F n k u hnk h
      cases F with
      | i _ => trivial
      | b => trivial
      | s F =>
        obtain ⟨s, vs, ns, h1, h2, h3, h4, h5, h6⟩ := h
        exact ⟨s, vs, ns, h1, h2, h3, by omega, by omega, h6⟩
    have each : ∀ i, i < len → ∀ (j : Nat) F, Fs[j]? = some F → ∃ u, w.cell? (a'.add (i * Fs.length + j)) = some u ∧ F.at w u ∧ F.sz w (Rows.uptoBulk dd) u := by
      intro i hi j F hj
      have him : i < m := by rw [hmm]; split <;> omega
      obtain ⟨cs', h1, h2⟩ := hx i him
      have hjl : j < Fs.length := (List.getElem?_eq_some_iff.1 hj).1
      rw [hF.1] at h1
      obtain ⟨_, hlen, hc⟩ := World.cells?_some h1
      have hc := hc j hjl
      rw [show (a'.add (i * Fs.length)).add j = a'.add (i * Fs.length + j) from Go.Deep.add_add ..] at hc
      have h3 := hF.2
      split at h3
      · next fs hfs =>
        obtain ⟨f, hf1, hf2, hf3, hf4⟩ := fldsTok_at h3 hj
        obtain ⟨xs, n', _, hxa, _, hxl, hfx⟩ := DataW.trod_struct hfs h2
        have hg := hfx j f (by simpa using hf1)
        rw [hf2, hf3, Nat.zero_add] at hg
        have hjx : j < xs.length := by
          rw [hxl]
          have := (List.getElem?_eq_some_iff.1 hf1).1
          simpa using this
        rw [List.getElem?_eq_getElem hjx] at hg
        obtain ⟨u, hu, hat, hsz⟩ := Fk.openSz hf4 hg
        refine ⟨u, ?_, hat, mono ?_ hsz⟩
        · rw [hc]
          have : ((cs'.drop j).take 1)[0]? = some u := by rw [hu]; rfl
          rw [List.getElem?_take_of_lt (by decide), List.getElem?_drop] at this; simpa using this
        · simp only [Prod.mk.injEq] at hxa
          have h4 := bulk_part (l := xs.map (·.1)) (d := xs[j].1) (List.mem_map.2 ⟨xs[j], List.getElem_mem hjx, rfl⟩)
          have h5 := hDi i hi
          rw [hxa.1] at h5
          simp only [Rows.uptoBulk] at h5
          omega
      · split at h3
        · next F' =>
          have hj0 : j = 0 := by simp at hjl; omega
          subst hj0
          cases hj
          obtain ⟨u, rfl, hat, hsz⟩ := Fk.openSz h3 h2
          exact ⟨u, by rw [hc]; rfl, hat, mono (hDi i hi) hsz⟩
        · cases h3
    have eachq : ∀ q, q < len * Fs.length → ∃ u, w.cell? (a'.add q) = some u := by
      intro q hq
      have hq2 : q % Fs.length < Fs.length := Nat.mod_lt _ hn
      have hq1 : q / Fs.length < len := Nat.div_lt_of_lt_mul (by rw [Nat.mul_comm]; exact hq)
      obtain ⟨u, hu, _⟩ := each _ hq1 _ _ (List.getElem?_eq_getElem hq2)
      rw [Nat.div_add_mod'] at hu
      exact ⟨u, hu⟩
    refine ⟨⟨some a', len, cap⟩, (List.range (len * Fs.length)).map fun q => (w.cell? (a'.add q)).getD (.bool false), rfl, ⟨by simp, fun q x hq => ?_, hl⟩, fun i hi j F hj => ?_⟩
    · have hql : q < len * Fs.length := by
        have := (List.getElem?_eq_some_iff.1 hq).1
        simpa using this
      obtain ⟨u, hu⟩ := eachq q hql
      have hxu : x = u := by
        rw [List.getElem?_map, List.getElem?_range hql] at hq
        simp only [Option.map_some, hu, Option.getD_some, Option.some.injEq] at hq
        exact hq.symm
      subst hxu
      obtain ⟨u0, hu0⟩ := eachq 0 (by omega)
      have hsp := World.cell?_spot hu0
      obtain ⟨b, o, sp⟩ := a'
      have : sp = none := by simpa [Addr.add] using hsp
      subst this
      have ha : (⟨b, o, none⟩ : Addr).add q = ⟨b, o + q, none⟩ := by
        simp only [Addr.add]
        split
        · next h0 => rw [h0]; rfl
        · rfl
      rw [ha] at hu
      exact ⟨b, o, rfl, cell_block_lt hu, hu⟩
    · obtain ⟨u, hu, hat⟩ := each i hi j F hj
      have hjl : j < Fs.length := (List.getElem?_eq_some_iff.1 hj).1
      have hlt : i * Fs.length + j < len * Fs.length := by
        calc i * Fs.length + j < i * Fs.length + Fs.length := by omega
          _ = (i + 1) * Fs.length := by rw [Nat.succ_mul]
          _ ≤ len * Fs.length := Nat.mul_le_mul_right _ hi
      refine ⟨u, ?_, hat⟩
      rw [List.getElem?_map, List.getElem?_range hlt]
      simp [hu]

end

abbrev ArgZ (B : Nat) (Fs : List Fk) (e : World) (s : Sl) (vs : List Value) : Prop := ArgS Fs.length e s vs ∧ ∀ i, i < s.len → ∀ (j : Nat) F, Fs[j]? = some F → ∃ u, vs[i * Fs.length + j]? = some u ∧ F.at e u ∧ F.sz e B u

theorem argZ_of {B n : Nat} {Fs : List Fk} {e : World} {s : Sl} {vs : List Value} (hn : n ≤ B) (h : ArgS Fs.length e s vs ∧ ∀ i, i < s.len → ∀ (j : Nat) F, Fs[j]? = some F → ∃ u, vs[i * Fs.length + j]? = some u ∧ F.at e u ∧ F.sz e n u) : ArgZ B Fs e s vs := by
  refine ⟨h.1, fun i hi j F hj => ?_⟩
  obtain ⟨u, h1, h2, h3⟩ := h.2 i hi j F hj
  refine ⟨u, h1, h2, ?_⟩
  cases F with
  | i _ => trivial
  | b => trivial
  | s F =>
    obtain ⟨s, vs, ns, g1, g2, g3, g4, g5, g6⟩ := h3
    exact ⟨s, vs, ns, g1, g2, g3, by omega, by omega, g6⟩

theorem vS_inj {s t : Sl} (h : vS s = vS t) : s = t := by
  obtain ⟨a, b, c⟩ := s
  obtain ⟨a', b', c'⟩ := t
  simp only [vS, Value.slice.injEq] at h
  obtain ⟨rfl, rfl, rfl⟩ := h
  rfl

/-- slices of bytes in an element of an argument, and how many they are -/
theorem sz_p {e : World} {B : Nat} {v : Value} (h : (Fk.s (.s (.i .u8))).sz e B v) : ∃ s pss, v = vS s ∧ RdP e (old e) s pss ∧ pss.length ≤ B ∧ pss.flatten.length ≤ B := by
  obtain ⟨s, vs, ns, rfl, ha, hl, h1, h2, h3⟩ := h
  have key : ∀ (vs : List Value) (ns : List Nat), ns.length = vs.length → (∀ (i : Nat) u k, vs[i]? = some u → ns[i]? = some k → (Fk.s (.i .u8)).at e u ∧ (Fk.s (.i .u8)).sz e k u) →
      ∃ (ss : List Sl) (pss : List (List UInt8)), vs = ss.map vS ∧ pss.length = ss.length ∧ pss.flatten.length ≤ ns.sum ∧ ∀ (i : Nat) s l, ss[i]? = some s → pss[i]? = some l → RdB e (old e) s l := by
    intro vs
    induction vs with
    | nil => intro ns hl _; exact ⟨[], [], rfl, rfl, Nat.zero_le _, fun i s l h => by simp at h⟩
    | cons v vs ih =>
      intro ns hl hv
      cases ns with
      | nil => simp at hl
      | cons n ns =>
      obtain ⟨ss, pss, rfl, g1, g2, g3⟩ := ih ns (by simpa using hl) fun i u k hu hk => hv (i + 1) u k (by simpa using hu) (by simpa using hk)
      obtain ⟨q1, q2⟩ := hv 0 v n rfl rfl
      obtain ⟨s, l, rfl, hs⟩ := fk_b q1
      obtain ⟨s', vs', ns', he, -, -, q3, -⟩ := q2
      have := vS_inj he
      subst this
      have hln := hs.len
      refine ⟨s :: ss, l :: pss, rfl, by simp [g1], ?_, fun i s' l' h1 h2 => ?_⟩
      · rw [List.flatten_cons, List.length_append, List.sum_cons]; omega
      · cases i with
        | zero => cases h1; cases h2; exact hs
        | succ i => exact g3 i s' l' (by simpa using h1) (by simpa using h2)
  obtain ⟨ss, pss, rfl, g1, g2, g3⟩ := key vs ns hl h3
  have hlen := ha.len
  rw [List.length_map, Nat.mul_one] at hlen
  refine ⟨s, pss, rfl, ⟨by omega, fun i l hi => ?_⟩, by omega, by omega⟩
  have hlt := (List.getElem?_eq_some_iff.1 hi).1
  obtain ⟨x, hx⟩ : ∃ x, ss[i]? = some x := ⟨_, List.getElem?_eq_getElem (by omega)⟩
  obtain ⟨b, o, ha1, hb, hc⟩ := ha.cell i (vS x) (by rw [List.getElem?_map, hx]; rfl)
  exact ⟨b, o, x, ha1, fun L w hw => by rw [hw.old_cell (a := ⟨b, o + i, none⟩) hb]; exact hc, g3 i x l hx hi⟩

end Go.Proofs.Ytlcmilmnecpokaa.B
