/- Memory in parts that lie apart: what a call owns, and the steps of the shallow programs over it. -/
import Derived.Test.YtjamgdepbjipdaaSound4
import Derived.Below
import Derived.Deep.Draws
import Derived.Laws.Append
import Derived.Laws.CopyRow
namespace Go.Proofs.Ytjamgdepbjipdaa.B
open Go

/-! ### parts of a heap -/
abbrev Hp := Nat → Option Obj
abbrev SP := Hp → Prop
def Hp.dj (h k : Hp) : Prop := ∀ b, h b = none ∨ k b = none
def Hp.un (h k : Hp) : Hp := fun b => match h b with | some o => some o | none => k b
def oksH : List SP → Hp → Prop
  | [], _ => True
  | A :: L, h => ∃ h1 h2 : Hp, h1.dj h2 ∧ h = h1.un h2 ∧ A h1 ∧ oksH L h2
def Hp.le (h k : Hp) : Prop := ∀ b o, h b = some o → k b = some o
theorem oksH_le : ∀ {L : List SP} {h k : Hp}, oksH L h → h.le k → oksH L k := by
  intro L
  induction L with
  | nil => intro h k _ _; trivial
  | cons A L ih =>
    rintro h k ⟨h1, h2, hd, rfl, hA, hL⟩ hle
    refine ⟨h1, fun b => match h1 b with | some _ => none | none => k b, fun b => ?_, ?_, hA, ih hL ?_⟩
    · cases hb : h1 b <;> simp [hb]
    · funext b
      simp only [Hp.un]
      cases hb : h1 b with
      | none => simp
      | some o => simpa [Hp.un, hb] using hle b o (by simp [Hp.un, hb])
    · intro b o hb
      have h1b : h1 b = none := by
        rcases hd b with h | h
        · exact h
        · rw [hb] at h; cases h
      simp only [h1b]
      exact hle b o (by simp [Hp.un, h1b, hb])
theorem oksH_swap {A B : SP} {L : List SP} {h : Hp} (H : oksH (A :: B :: L) h) : oksH (B :: A :: L) h := by
  obtain ⟨h1, h23, hd, rfl, hA, h2, h3, hd2, rfl, hB, hL⟩ := H
  refine ⟨h2, h1.un h3, fun b => ?_, ?_, hB, h1, h3, fun b => ?_, rfl, hA, hL⟩
  · rcases hd b with e | e
    · rcases hd2 b with e2 | e2
      · exact .inl e2
      · right; simp [Hp.un, e, e2]
    · left
      simp only [Hp.un] at e
      cases hb : h2 b with
      | none => rfl
      | some o => rw [hb] at e; cases e
  · funext b
    simp only [Hp.un]
    cases e1 : h1 b with
    | none => cases e2 : h2 b <;> rfl
    | some o =>
      have : h2 b = none := by
        rcases hd b with e | e
        · rw [e1] at e; cases e
        · simp only [Hp.un] at e
          cases hb : h2 b with
          | none => rfl
          | some o => rw [hb] at e; cases e
      simp [this]
  · rcases hd b with e | e
    · exact .inl e
    · right
      simp only [Hp.un] at e
      cases hb : h2 b with
      | none => rw [hb] at e; exact e
      | some o => rw [hb] at e; cases e
theorem oksH_perm {L L' : List SP} (p : L.Perm L') : ∀ {h : Hp}, oksH L h → oksH L' h := by
  induction p with
  | nil => intro h H; exact H
  | cons A _ ih => rintro h ⟨h1, h2, hd, e, hA, hL⟩; exact ⟨h1, h2, hd, e, hA, ih hL⟩
  | swap A B L => intro h H; exact oksH_swap H
  | trans _ _ ih1 ih2 => intro h H; exact ih2 (ih1 H)
theorem un_assoc (a b c : Hp) : (a.un b).un c = a.un (b.un c) := by
  funext x
  simp only [Hp.un]
  cases a x <;> rfl
theorem oksH_append {L M : List SP} : ∀ {h : Hp}, oksH (oksH M :: L) h ↔ oksH (M ++ L) h := by
  induction M with
  | nil =>
    intro h
    constructor
    · rintro ⟨h1, h2, hd, rfl, _, hL⟩
      refine oksH_le hL fun b o hb => ?_
      simp only [Hp.un]
      rcases hd b with e | e
      · simp [e, hb]
      · rw [hb] at e; cases e
    · intro H; exact ⟨fun _ => none, h, fun _ => .inl rfl, by funext b; rfl, trivial, H⟩
  | cons A M ih =>
    intro h
    constructor
    · rintro ⟨h12, h3, hd, rfl, ⟨h1, h2, hd2, rfl, hA, hM⟩, hL⟩
      refine ⟨h1, h2.un h3, fun b => ?_, un_assoc .., hA, ih.1 ⟨h2, h3, fun b => ?_, rfl, hM, hL⟩⟩
      · rcases hd b with e | e
        · left
          simp only [Hp.un] at e
          cases hb : h1 b with
          | none => rfl
          | some o => rw [hb] at e; cases e
        · rcases hd2 b with e2 | e2
          · exact .inl e2
          · right; simp [Hp.un, e, e2]
      · rcases hd b with e | e
        · left
          simp only [Hp.un] at e
          cases hb : h1 b with
          | none => rw [hb] at e; exact e
          | some o => rw [hb] at e; cases e
        · exact .inr e
    · rintro ⟨h1, h23, hd, rfl, hA, H⟩
      obtain ⟨h2, h3, hd2, rfl, hM, hL⟩ := ih.2 H
      refine ⟨h1.un h2, h3, fun b => ?_, (un_assoc ..).symm, ⟨h1, h2, fun b => ?_, rfl, hA, hM⟩, hL⟩
      · rcases hd b with e | e
        · rcases hd2 b with e2 | e2
          · left; simp [Hp.un, e, e2]
          · exact .inr e2
        · right
          simp only [Hp.un] at e
          cases hb : h2 b with
          | none => rw [hb] at e; exact e
          | some o => rw [hb] at e; cases e
      · rcases hd b with e | e
        · exact .inl e
        · right
          simp only [Hp.un] at e
          cases hb : h2 b with
          | none => rfl
          | some o => rw [hb] at e; cases e

/-! ### worlds -/
def hpOf (w : World) : Hp := fun b => w.heap[b]?
structure Ok (e : World) (L : List SP) (w : World) : Prop where
  os : w.os = e.os
  tape : w.tape = e.tape
  output : w.output = e.output
  heap : oksH L (hpOf w)
def pts (b : Nat) (cs : List Value) : SP := fun h => ∃ t, h b = some (.cells cs.toArray t (0, 0))
/-- all that was there -/
def old (e : World) : SP := fun h => ∀ b, b < e.heap.size → h b = e.heap[b]?
def emp : SP := fun _ => True
section
variable {e : World} {L M : List SP} {w : World} {A B C D E F G : SP}
theorem Ok.perm (h : Ok e L w) (p : L.Perm M) : Ok e M w := ⟨h.os, h.tape, h.output, oksH_perm p h.heap⟩
theorem Ok.p1 (h : Ok e (A :: B :: L) w) : Ok e (B :: A :: L) w := h.perm (.swap ..)
theorem Ok.p2 (h : Ok e (A :: B :: C :: L) w) : Ok e (C :: A :: B :: L) w := h.perm (((List.Perm.swap C B L).cons A).trans (.swap ..))
theorem Ok.p3 (h : Ok e (A :: B :: C :: D :: L) w) : Ok e (D :: A :: B :: C :: L) w :=
  h.perm ((((List.Perm.swap D C L).cons B).cons A).trans ((((List.Perm.swap D B _)).cons A).trans (.swap ..)))
theorem Ok.p4 (h : Ok e (A :: B :: C :: D :: E :: L) w) : Ok e (E :: A :: B :: C :: D :: L) w :=
  Ok.p1 ((Ok.perm h (List.Perm.cons A ((((List.Perm.swap E D L).cons C).cons B).trans ((((List.Perm.swap E C _)).cons B).trans (.swap ..))))))
/-- the head goes behind the next one, two, .. -/
theorem Ok.q1 (h : Ok e (A :: B :: L) w) : Ok e (B :: A :: L) w := h.p1
theorem Ok.q2 (h : Ok e (A :: B :: C :: L) w) : Ok e (B :: C :: A :: L) w := h.perm ((List.Perm.swap B A _).trans ((List.Perm.swap C A L).cons B))
theorem Ok.q3 (h : Ok e (A :: B :: C :: D :: L) w) : Ok e (B :: C :: D :: A :: L) w := h.perm ((List.Perm.swap B A _).trans (((List.Perm.swap C A _).trans ((List.Perm.swap D A L).cons C)).cons B))
theorem Ok.drop (h : Ok e (A :: L) w) : Ok e L w := by
  refine ⟨h.os, h.tape, h.output, ?_⟩
  obtain ⟨h1, h2, hd, he, _, hL⟩ := h.heap
  rw [he]
  exact oksH_le hL fun b o hb => by
    simp only [Hp.un]
    rcases hd b with e | e
    · simp [e, hb]
    · rw [hb] at e; cases e
theorem Ok.unpack (h : Ok e (oksH M :: L) w) : Ok e (M ++ L) w := ⟨h.os, h.tape, h.output, oksH_append.1 h.heap⟩
theorem Ok.pack (h : Ok e (M ++ L) w) : Ok e (oksH M :: L) w := ⟨h.os, h.tape, h.output, oksH_append.2 h.heap⟩
/-- what a part says of itself, taken out -/
theorem Ok.imp (h : Ok e (A :: L) w) (hAB : ∀ k, A k → B k) : Ok e (B :: L) w := by
  refine ⟨h.os, h.tape, h.output, ?_⟩
  obtain ⟨h1, h2, hd, he, hA, hL⟩ := h.heap
  exact ⟨h1, h2, hd, he, hAB _ hA, hL⟩
theorem Ok.exE {α : Type} {X : α → SP} (h : Ok e ((fun k => ∃ x, X x k) :: L) w) : ∃ x, Ok e (X x :: L) w := by
  obtain ⟨h1, h2, hd, he, ⟨x, hA⟩, hL⟩ := h.heap
  exact ⟨x, h.os, h.tape, h.output, h1, h2, hd, he, hA, hL⟩
theorem Ok.pureE {p : Prop} (h : Ok e ((fun k => p ∧ A k) :: L) w) : p ∧ Ok e (A :: L) w := by
  obtain ⟨h1, h2, hd, he, ⟨hp, hA⟩, hL⟩ := h.heap
  exact ⟨hp, h.os, h.tape, h.output, h1, h2, hd, he, hA, hL⟩
theorem Ok.orE {X Y : SP} (h : Ok e ((fun k => X k ∨ Y k) :: L) w) : Ok e (X :: L) w ∨ Ok e (Y :: L) w := by
  obtain ⟨h1, h2, hd, he, hA | hA, hL⟩ := h.heap
  · exact .inl ⟨h.os, h.tape, h.output, h1, h2, hd, he, hA, hL⟩
  · exact .inr ⟨h.os, h.tape, h.output, h1, h2, hd, he, hA, hL⟩
theorem Ok.block {b : Nat} {cs : List Value} (h : Ok e (pts b cs :: L) w) : ∃ t, w.heap[b]? = some (.cells cs.toArray t (0, 0)) := by
  obtain ⟨h1, h2, hd, he, ⟨t, hb⟩, hL⟩ := h.heap
  refine ⟨t, ?_⟩
  have := congrFun he b
  simp only [hpOf, Hp.un, hb] at this
  exact this
theorem Ok.cell {b i : Nat} {cs : List Value} {v : Value} (h : Ok e (pts b cs :: L) w) (hv : cs[i]? = some v) : w.cell? ⟨b, i, none⟩ = some v := by
  obtain ⟨t, hb⟩ := h.block
  simp [World.cell?, hb, hv]
theorem Ok.frozen {b i : Nat} {cs : List Value} (h : Ok e (pts b cs :: L) w) : w.frozen? ⟨b, i, none⟩ = false := by
  obtain ⟨t, hb⟩ := h.block
  simp [World.frozen?, hb]
theorem Ok.drew (h : Ok e L w) : Ok e L w.drew := ⟨h.os, h.tape, h.output, h.heap⟩
theorem Ok.drewN (h : Ok e L w) (n : Nat) : Ok e L (w.drewN n) := ⟨h.os, h.tape, h.output, h.heap⟩
/-- block b is laid anew -/
theorem Ok.replace {b : Nat} {cs cs' : List Value} {w' : World} (h : Ok e (pts b cs :: L) w) (hos : w'.os = w.os) (htape : w'.tape = w.tape) (hout : w'.output = w.output)
    (hb : ∃ t, w'.heap[b]? = some (.cells cs'.toArray t (0, 0))) (ho : ∀ k, k ≠ b → w'.heap[k]? = w.heap[k]?) : Ok e (pts b cs' :: L) w' := by
  refine ⟨hos.trans h.os, htape.trans h.tape, hout.trans h.output, ?_⟩
  obtain ⟨h1, h2, hd, he, ⟨t, hp⟩, hL⟩ := h.heap
  obtain ⟨t', hb⟩ := hb
  have h2b : h2 b = none := by
    rcases hd b with e | e
    · rw [hp] at e; cases e
    · exact e
  refine ⟨fun k => if k = b then some (.cells cs'.toArray t' (0, 0)) else h1 k, h2, fun k => ?_, ?_, ⟨t', by simp⟩, hL⟩
  · by_cases hk : k = b
    · subst hk; exact .inr h2b
    · simpa [hk] using hd k
  · funext k
    have := congrFun he k
    simp only [hpOf, Hp.un] at this ⊢
    by_cases hk : k = b
    · subst hk; simp [hb]
    · simp only [hk, if_false]; rw [ho k hk, this]
theorem Ok.set {b i : Nat} {cs : List Value} (h : Ok e (pts b cs :: L) w) (v : Value) : Ok e (pts b (cs.set i v) :: L) (w.setCell ⟨b, i, none⟩ v) := by
  obtain ⟨t, hb⟩ := h.block
  refine h.replace rfl rfl rfl ⟨t, ?_⟩ (fun k hk => Go.RowKit.Below.heap_setCell _ _ _ _ (by simpa using hk))
  simp only [World.setCell, Array.getElem?_modify, if_true, hb, Option.map_some]
  simp
theorem Ok.alloc (h : Ok e L w) (t : TypeId) (cs : List Value) : Ok e (pts w.heap.size cs :: L) (w.alloc (.cells cs.toArray t)) := by
  refine ⟨h.os, h.tape, h.output, fun k => if k = w.heap.size then some (.cells cs.toArray t (0, 0)) else none, hpOf w, fun k => ?_, ?_, ⟨t, by simp⟩, h.heap⟩
  · by_cases hk : k = w.heap.size
    · subst hk; right; simp [hpOf]
    · left; simp [hk]
  · funext k
    simp only [hpOf, World.alloc, Hp.un, Array.getElem?_push]
    by_cases hk : k = w.heap.size <;> simp [hk]
theorem Ok.setRow {b : Nat} {cs : List Value} (h : Ok e (pts b cs :: L) w) (cs' : List Value) : Ok e (pts b cs' :: L) (w.setRow b cs'.toArray) := by
  obtain ⟨t, hb⟩ := h.block
  exact h.replace rfl rfl rfl ⟨t, setRow_heap w b _ _ t _ hb⟩ (fun k hk => setRow_other w b k _ hk)
theorem Ok.old_block (h : Ok e (old e :: L) w) {b : Nat} (hb : b < e.heap.size) : w.heap[b]? = e.heap[b]? := by
  obtain ⟨h1, h2, hd, he, ho, hL⟩ := h.heap
  have h3 := congrFun he b
  have h4 := ho b hb
  simp only [hpOf, Hp.un] at h3
  cases hs : e.heap[b]? with
  | none => simp at hs; omega
  | some o => rw [h4, hs] at h3; exact h3
theorem Ok.old_cell (h : Ok e (old e :: L) w) {a : Addr} (hb : a.block < e.heap.size) : w.cell? a = e.cell? a := World.cell?_of_block (h.old_block hb)
theorem Ok.start (e : World) : Ok e [old e] e := ⟨rfl, rfl, rfl, hpOf e, fun _ => none, fun _ => .inr rfl, by funext b; simp only [Hp.un]; cases hpOf e b <;> rfl, fun _ _ => rfl, trivial⟩
theorem Ok.below (h : Ok e (old e :: L) w) : Go.RowKit.Below e.heap.size e w := by
  refine ⟨h.os, h.tape, h.output, ?_, fun k hk => h.old_block hk⟩
  rcases Nat.eq_zero_or_pos e.heap.size with h0 | h0
  · omega
  · have := h.old_block (b := e.heap.size - 1) (by omega)
    have h2 : e.heap[e.heap.size - 1]? = some e.heap[e.heap.size - 1] := Array.getElem?_eq_getElem (by omega)
    rw [h2] at this
    have := (Array.getElem?_eq_some_iff.1 this).1
    omega
/-- two blocks of one part lie apart -/
theorem Ok.ne {b c : Nat} {cs ds : List Value} (h : Ok e (pts b cs :: pts c ds :: L) w) : b ≠ c := by
  rintro rfl
  obtain ⟨h1, h2, hd, he, ⟨t, hb⟩, h3, h4, hd2, he2, ⟨t2, hc⟩, hL⟩ := h.heap
  rcases hd b with e | e
  · rw [hb] at e; cases e
  · rw [he2] at e; simp [Hp.un, hc] at e
end

/-! ### steps -/
section
variable {e : World} {L : List SP} {w : World} {b o : Nat}
theorem ldI.mk {k : IntKind} {f : Int → Prop} {x : Int} (h : w.cell? ⟨b, o, none⟩ = some (.int k x)) (hf : f x) : ldI w k b o f := ⟨x, h, hf⟩
theorem ldB.mk {f : Bool → Prop} {x : Bool} (h : w.cell? ⟨b, o, none⟩ = some (.bool x)) (hf : f x) : ldB w b o f := ⟨x, h, hf⟩
theorem ldP.mk {f : Option Addr → Prop} {x : Option Addr} (h : w.cell? ⟨b, o, none⟩ = some (.pointer x)) (hf : f x) : ldP w b o f := ⟨x, h, hf⟩
theorem ldS.mk {f : Sl → Prop} {x : Sl} (h : w.cell? ⟨b, o, none⟩ = some (vS x)) (hf : f x) : ldS w b o f := ⟨x, h, hf⟩
theorem ldM.mk {f : Option Nat → Prop} {x : Option Nat} (h : w.cell? ⟨b, o, none⟩ = some (.map x)) (hf : f x) : ldM w b o f := ⟨x, h, hf⟩
theorem nn.mk {f : Nat → Nat → Prop} (h : f b o) : nn (some ⟨b, o, none⟩) f := ⟨b, o, rfl, h⟩
theorem cs.mk {c : Bool} {x y : Prop} (h1 : c = true → x) (h2 : c = false → y) : cs c x y := ⟨h1, h2⟩
theorem cs.yes {c : Bool} {x y : Prop} (hc : c = true) (h1 : x) : cs c x y := ⟨fun _ => h1, fun h => by rw [hc] at h; cases h⟩
theorem cs.no {c : Bool} {x y : Prop} (hc : c = false) (h1 : y) : cs c x y := ⟨fun h => by (rw [hc] at h; cases h), fun _ => h1⟩
theorem st1.mk {i : Nat} {cs : List Value} {v : Value} {f : World → Prop} (h : Ok e (pts b cs :: L) w) (hi : i < cs.length) (k : ∀ w', Ok e (pts b (cs.set i v) :: L) w' → f w') : st1 w b i v f :=
  ⟨⟨_, h.cell (List.getElem?_eq_getElem hi)⟩, h.frozen, k _ (h.set v)⟩
theorem al.mk {t : TypeId} {cs : List Value} {f : Nat → World → Prop} (h : Ok e L w) (k : ∀ b w', Ok e (pts b cs :: L) w' → f b w') : al w t cs f := k _ _ (h.alloc t cs)
theorem dr.mk {f : World → Prop} (h : Ok e L w) (k : ∀ w', Ok e L w' → f w') : dr w f := k _ h.drew
theorem jn.mk {ks : List Kd} {rest : TK ks → World → Prop} {body : (TK ks → World → Prop) → World → Prop} (h : ∀ J : TK ks → World → Prop, (∀ t w', rest t w' → J t w') → body J w) : jn ks w rest body := h
/-- a join at which one bool is known and the world is as it was -/
theorem jn.bool (c : Bool) {rest : TK [kB] → World → Prop} {body : (TK [kB] → World → Prop) → World → Prop} (hb : ∀ J : TK [kB] → World → Prop, J (c, ()) w → body J w) (hr : rest (c, ()) w) : jn [kB] w rest body :=
  fun J hJ => hb J (hJ _ _ hr)
/-- a join at known values, in any world that owns what is told -/
theorem jn.at {ks : List Kd} {rest : TK ks → World → Prop} {body : (TK ks → World → Prop) → World → Prop} (t : TK ks) (G : World → Prop) (hb : ∀ J : TK ks → World → Prop, (∀ w', G w' → J t w') → body J w) (hr : ∀ w', G w' → rest t w') : jn ks w rest body :=
  fun J hJ => hb J fun w' hw' => hJ _ _ (hr w' hw')
theorem jn.all {ks : List Kd} {rest : TK ks → World → Prop} {body : (TK ks → World → Prop) → World → Prop} (G : TK ks → World → Prop) (hb : ∀ J : TK ks → World → Prop, (∀ t w', G t w' → J t w') → body J w) (hr : ∀ t w', G t w' → rest t w') : jn ks w rest body :=
  fun J hJ => hb J fun t w' hw' => hJ _ _ (hr t w' hw')
theorem lp.mk {ks : List Kd} {t0 : TK ks} {body : TK ks → (TK ks → World → Prop) → World → Prop} (I : TK ks → World → Prop) (μ : TK ks → World → Nat) (h0 : I t0 w)
    (hs : ∀ t w, I t w → body t (fun t' w' => I t' w' ∧ μ t' w' < μ t w) w) : lp ks w t0 body := ⟨I, μ, h0, hs⟩
theorem ob.mk {c x : Prop} (h1 : c) (h2 : x) : ob c x := ⟨h1, h2⟩
end

/-! ### slices that are owned: elements of 'sz' cells -/
def slc (sz : Nat) (s : Sl) (vs : List Value) : SP := fun h =>
  vs.length = s.len * sz ∧ (∀ v ∈ vs, v.oneCell' = true) ∧ s.len ≤ s.cap ∧
  ((s.a = none ∧ s.cap = 0) ∨ ∃ b post, s.a = some ⟨b, 0, none⟩ ∧ s.cap * sz ≤ vs.length + post.length ∧ pts b (vs ++ post) h)
section
variable {P : Program} {e : World} {L : List SP} {w : World} {sz : Nat} {s : Sl} {vs : List Value}
theorem Ok.slcE (h : Ok e (slc sz s vs :: L) w) : vs.length = s.len * sz ∧ (∀ v ∈ vs, v.oneCell' = true) ∧ s.len ≤ s.cap ∧
    ((s.a = none ∧ s.cap = 0 ∧ Ok e L w) ∨ ∃ b post, s.a = some ⟨b, 0, none⟩ ∧ s.cap * sz ≤ vs.length + post.length ∧ Ok e (pts b (vs ++ post) :: L) w) := by
  have hd := h.drop
  obtain ⟨h1, h2, hdj, he, ⟨hl, hv, hc, hs⟩, hL⟩ := h.heap
  refine ⟨hl, hv, hc, ?_⟩
  rcases hs with ⟨ha, hc⟩ | ⟨b, post, ha, hp, hb⟩
  · exact .inl ⟨ha, hc, hd⟩
  · exact .inr ⟨b, post, ha, hp, h.os, h.tape, h.output, h1, h2, hdj, he, hb, hL⟩
theorem Ok.slcI {b : Nat} {post : List Value} (h : Ok e (pts b (vs ++ post) :: L) w) (ha : s.a = some ⟨b, 0, none⟩) (hl : vs.length = s.len * sz) (hv : ∀ v ∈ vs, v.oneCell' = true) (hc : s.len ≤ s.cap) (hp : s.cap * sz ≤ vs.length + post.length) :
    Ok e (slc sz s vs :: L) w := by
  obtain ⟨h1, h2, hdj, he, hb, hL⟩ := h.heap
  exact ⟨h.os, h.tape, h.output, h1, h2, hdj, he, ⟨hl, hv, hc, .inr ⟨b, post, ha, hp, hb⟩⟩, hL⟩
theorem Ok.slcNil (h : Ok e L w) (sz : Nat) : Ok e (slc sz ⟨none, 0, 0⟩ [] :: L) w :=
  ⟨h.os, h.tape, h.output, fun _ => none, hpOf w, fun _ => .inl rfl, by funext b; rfl, ⟨by simp, by simp, Nat.le_refl _, .inl ⟨rfl, rfl⟩⟩, h.heap⟩
/-- a slice that was just built -/
theorem Ok.slcNew {b n : Nat} (h : Ok e (pts b vs :: L) w) (hl : vs.length = n * sz) (hv : ∀ v ∈ vs, v.oneCell' = true) : Ok e (slc sz ⟨some ⟨b, 0, none⟩, n, n⟩ vs :: L) w := by
  rw [← List.append_nil vs] at h
  exact h.slcI rfl hl hv (Nat.le_refl _) (by simp [hl])
theorem Ok.slc_len (h : Ok e (slc sz s vs :: L) w) : vs.length = s.len * sz := h.slcE.1
/-- its cells, wherever it lies -/
theorem Ok.slc_cells (h : Ok e (slc sz s vs :: L) w) {a : Addr} (ha : s.a = some a) : ∀ j u, vs[j]? = some u → w.cell? (a.add j) = some u := by
  intro j u hu
  obtain ⟨hl, hv, hc, ⟨h0, _, _⟩ | ⟨b, post, hb, hp, hk⟩⟩ := h.slcE
  · rw [h0] at ha; cases ha
  · rw [hb] at ha; cases ha
    rw [add_off]
    refine hk.cell ?_
    have hj : j < vs.length := (List.getElem?_eq_some_iff.1 hu).1
    rw [Nat.zero_add, List.getElem?_append_left hj]; exact hu
theorem ix_slc {i : Int} {f : Nat → Nat → Prop} (h : Ok e (slc sz s vs :: L) w) (h0 : 0 ≤ i) (h1 : i < s.len)
    (k : ∀ b, (∀ j, j < sz → w.cell? ⟨b, i.toNat * sz + j, none⟩ = vs[i.toNat * sz + j]?) → f b (0 + i.toNat * sz)) : ix s i sz f := by
  obtain ⟨hl, hv, hc, ⟨ha, hc0, _⟩ | ⟨b, post, hb, hp, hk⟩⟩ := h.slcE
  · omega
  · refine ⟨b, 0, hb, h0, h1, k b fun j hj => ?_⟩
    have hlt : i.toNat * sz + j < vs.length := by
      rw [hl]
      have h2 : i.toNat + 1 ≤ s.len := by omega
      have h3 := Nat.mul_le_mul_right sz h2
      rw [Nat.add_mul, Nat.one_mul] at h3
      omega
    rw [List.getElem?_eq_getElem hlt]
    exact hk.cell (by rw [List.getElem?_append_left hlt, List.getElem?_eq_getElem hlt])
/-- what is known of a slice's type -/
structure SlT (P : Program) (t : TypeId) (sz : Nat) : Prop where
  ex : ∃ el i z, P.underlying t = some (.slice el) ∧ P.info? el = some i ∧ i.zero = some z ∧ i.size = sz ∧ i.bytes ≤ 1024 ∧ z.cells.size = sz ∧ z.cells.toList.all (·.oneCell') = true
def slTok (P : Program) (t sz : Nat) : Bool :=
  match P.underlying t with
  | some (.slice el) => match P.info? el with
    | some i => Nat.beq i.size sz && Nat.ble i.bytes 1024 && (match i.zero with | some z => Nat.beq z.cells.size sz && z.cells.toList.all (·.oneCell') | none => false)
    | none => false
  | _ => false
theorem SlT.of {P : Program} {t sz : Nat} (h : slTok P t sz = true) : SlT P t sz := by
  unfold slTok at h
  split at h
  · rename_i el hu
    split at h
    · rename_i i hi
      simp only [Bool.and_eq_true] at h
      obtain ⟨⟨h1, h2⟩, h3⟩ := h
      split at h3
      · rename_i z hz
        simp only [Bool.and_eq_true] at h3
        exact ⟨el, i, z, hu, hi, hz, Nat.eq_of_beq_eq_true h1, by simpa using h2, Nat.eq_of_beq_eq_true h3.1, h3.2⟩
      · cases h3
    · cases h
  · cases h
theorem zeroCells_len (z : Array Value) (n : Nat) : (Builtin.zeroCells z n).toList.length = n * z.size := by simp [Builtin.zeroCells]
theorem append_run {t ty : TypeId} (T : SlT P t sz) (hsz : 0 < sz) (h : Ok e (slc sz s vs :: L) w) {x : Sl} {us : List Value} (hx : us.length = x.len * sz) (hxa : x.a = none → us = [])
    (hu : ∀ a, x.a = some a → ∀ j u, us[j]? = some u → w.cell? (a.add j) = some u) (h1 : ∀ v ∈ us, v.oneCell' = true) (hb : s.len + x.len ≤ 2 ^ 32) :
    ∃ s' w', (Builtin.append_ #[t, t] ty #[vS s, vS x]).run P w = .ok (vS s') w' ∧ s'.len = s.len + x.len ∧ Ok e (slc sz s' (vs ++ us) :: L) w' ∧ (s.a.isSome = true → s.len + x.len ≤ s.cap → s'.a = s.a ∧ s'.cap = s.cap) := by
  obtain ⟨el, i, z, ht, hi, hz, hs, hby, hzs, _⟩ := T.ex
  obtain ⟨hl, hv, hc, hcase⟩ := h.slcE
  have hlen : (vs ++ us).length = (s.len + x.len) * sz := by rw [List.length_append, hl, hx, Nat.add_mul]
  have hall : ∀ v ∈ vs ++ us, v.oneCell' = true := fun v hm => (List.mem_append.1 hm).elim (hv v) (h1 v)
  have hx0 : us = [] → x.len = 0 := fun e => by
    rw [e] at hx
    rcases Nat.mul_eq_zero.1 (show x.len * sz = 0 from hx.symm) with h | h
    · exact h
    · omega
  obtain ⟨sa, slen, scap⟩ := s
  obtain ⟨xa, xlen, xcap⟩ := x
  simp only at hl hc hx hxa hu hb hlen hx0 hcase
  have h63 : ∀ n : Nat, n ≤ 2 ^ 32 → ((n : Nat) : Int) ≤ 9223372036854775807 := fun n hn => by omega
  have h48 : ∀ n : Nat, n ≤ 2 ^ 32 → n * i.bytes ≤ 140737488355328 := fun n hn => Nat.le_trans (Nat.mul_le_mul hn hby) (by decide)
  have grown : ∀ (need old : Nat) (w1 : World), Ok e L w → need = slen + xlen → w1 = w.drew.alloc (.cells (vs.toArray ++ us.toArray ++ Builtin.zeroCells z.cells (grownCap w need old el - need)) el) →
      Ok e (slc sz ⟨some ⟨w.heap.size, 0, none⟩, need, grownCap w need old el⟩ (vs ++ us) :: L) w1 := by
    rintro need old w1 hL rfl rfl
    have hal := hL.drew.alloc el (vs ++ us ++ (Builtin.zeroCells z.cells (grownCap w (slen + xlen) old el - (slen + xlen))).toList)
    have e1 : (vs ++ us ++ (Builtin.zeroCells z.cells (grownCap w (slen + xlen) old el - (slen + xlen))).toList).toArray = vs.toArray ++ us.toArray ++ Builtin.zeroCells z.cells (grownCap w (slen + xlen) old el - (slen + xlen)) := by
      apply Array.ext'; simp
    rw [e1] at hal
    have hge := grownCap_ge w (slen + xlen) old el
    refine hal.slcI rfl hlen hall hge ?_
    rw [zeroCells_len, hzs, hlen, ← Nat.add_mul]
    exact Nat.mul_le_mul_right _ (by simp only; omega)
  rcases hcase with ⟨ha, hcap, hL⟩ | ⟨b, post, ha, hp, hk⟩
  · subst ha
    have hs0 : slen = 0 := by omega
    subst hs0
    subst hcap
    have hvs : vs = [] := List.eq_nil_of_length_eq_zero (by rw [hl]; simp)
    subst hvs
    by_cases hx1 : xlen = 0
    · subst hx1
      have hus : us = [] := List.eq_nil_of_length_eq_zero (by rw [hx]; simp)
      subst hus
      refine ⟨⟨none, 0, 0⟩, w, ?_, rfl, by simpa using hL.slcNil sz, fun h => by cases h⟩
      cases xa <;> simp [vS, Builtin.append_, run_underlying ht, sizeOf, typeInfo, hi, Builtin.lenOf, Builtin.firstCells, loadCells, loadCellsFrom]
    · cases xa with
      | none => exact absurd (hx0 (hxa rfl)) hx1
      | some a =>
        refine ⟨⟨some ⟨w.heap.size, 0, none⟩, xlen, grownCap w xlen 0 el⟩, _, run_append_nil (P := P) w t ty el i z ht hi hz a xlen xcap us (by rw [hs]; exact hx) (hu a rfl) (by omega) (h63 _ (by omega)) (by have := h48 xlen (by omega); omega), by simp, ?_, fun h => by cases h⟩
        have := grown xlen 0 _ hL (by omega) rfl
        simpa using this
  · subst ha
    obtain ⟨tt, hblk⟩ := hk.block
    by_cases hroom : slen + xlen ≤ scap
    · cases xa with
      | none =>
        have hus : us = [] := hxa rfl
        have hx1 := hx0 hus
        subst hus
        subst hx1
        refine ⟨⟨some ⟨b, 0, none⟩, slen, scap⟩, w, ?_, rfl, by simpa using h, fun _ _ => ⟨rfl, rfl⟩⟩
        simp [vS, Builtin.append_, run_underlying ht, sizeOf, typeInfo, hi, Builtin.lenOf, Builtin.firstCells, hc, storeCells]
      | some a =>
        have htt : True := trivial
        have hf := run_firstCells_some (P := P) w i.size xlen a xlen xcap us (by rw [hs]; exact hx) (hu a rfl)
        have hfit : 0 + (slen * i.size + 0) + us.length ≤ (vs ++ post).toArray.size := by
          simp only [List.size_toArray, List.length_append]
          have h5 := Nat.mul_le_mul_right sz hroom
          rw [Nat.add_mul] at h5
          rw [hs]; omega
        have hst := run_storeCells_at P b (slen * i.size) tt us 0 (vs ++ post).toArray w hblk (by simp only [List.size_toArray, List.length_append] at hfit ⊢; omega) h1
        refine ⟨⟨some ⟨b, 0, none⟩, slen + xlen, scap⟩, w.setRow b (vs ++ us ++ post.drop us.length).toArray, ?_, rfl, ?_, fun _ _ => ⟨rfl, rfl⟩⟩
        · have e2 : ((vs ++ post).toArray.toList.take (slen * i.size + 0) ++ us ++ (vs ++ post).toArray.toList.drop (slen * i.size + 0 + us.length)) = vs ++ us ++ post.drop us.length := by
            simp only [Nat.add_zero, hs, ← hl]
            rw [List.take_left, List.drop_append]
            simp
          rw [e2] at hst
          simp [vS, Builtin.append_, run_underlying ht, sizeOf, typeInfo, hi, Builtin.lenOf, hroom, hf, Addr.add_lit, hst]
        · have hset := hk.setRow (vs ++ us ++ post.drop us.length)
          refine hset.slcI rfl hlen hall hroom ?_
          simp only [List.length_append, List.length_drop] at hfit ⊢
          omega
    · cases xa with
      | none =>
        have hx1 := hx0 (hxa rfl)
        omega
      | some a =>
        have holds : ∀ j u, vs[j]? = some u → w.cell? ((⟨b, 0, none⟩ : Addr).add j) = some u := h.slc_cells rfl
        refine ⟨⟨some ⟨w.heap.size, 0, none⟩, slen + xlen, grownCap w (slen + xlen) scap el⟩, _, run_append_grow (P := P) w t ty el i z ht hi hz ⟨b, 0, none⟩ slen scap vs (by rw [hs]; exact hl) holds a xlen xcap us (by rw [hs]; exact hx) (hu a rfl) (by omega) (h63 _ hb) (growslice_fits (by omega) (h48 _ hb)), rfl, ?_, fun _ h => absurd h hroom⟩
        exact grown _ _ _ hk.drop rfl rfl
/-- 'append' in a shallow program -/
theorem ef.append {t : TypeId} {x : Sl} {us : List Value} {K : TK [kS] → World → Prop} (T : SlT P t sz) (hsz : 0 < sz) (h : Ok e (slc sz s vs :: L) w) (hx : us.length = x.len * sz) (hxa : x.a = none → us = [])
    (hu : ∀ a, x.a = some a → ∀ j u, us[j]? = some u → w.cell? (a.add j) = some u) (h1 : ∀ v ∈ us, v.oneCell' = true) (hb : s.len + x.len ≤ 2 ^ 32)
    (k : ∀ s' w', s'.len = s.len + x.len → Ok e (slc sz s' (vs ++ us) :: L) w' → K (s', ()) w') : ef P (Builtin.append_ #[t, t] t #[vS s, vS x]) [kS] w K := by
  obtain ⟨s', w', hr, hl, hk, _⟩ := append_run (ty := t) T hsz h hx hxa hu h1 hb
  exact ⟨(s', ()), w', hr, k s' w' hl hk⟩
/-- append of another slice that is owned -/
theorem ef.append2 {t : TypeId} {x : Sl} {us : List Value} {K : TK [kS] → World → Prop} (T : SlT P t sz) (hsz : 0 < sz) (h : Ok e (slc sz s vs :: slc sz x us :: L) w) (hb : s.len + x.len ≤ 2 ^ 32)
    (k : ∀ s' w', s'.len = s.len + x.len → Ok e (slc sz s' (vs ++ us) :: slc sz x us :: L) w' → K (s', ()) w') : ef P (Builtin.append_ #[t, t] t #[vS s, vS x]) [kS] w K := by
  have hx := h.p1.slcE
  refine ef.append T hsz h hx.1 (fun ha => ?_) (fun a ha => h.p1.slc_cells ha) hx.2.1 hb k
  rcases hx.2.2.2 with ⟨_, h0, _⟩ | ⟨b, post, h0, _⟩
  · have := hx.2.2.1
    exact List.eq_nil_of_length_eq_zero (by rw [hx.1, show x.len = 0 by omega]; simp)
  · rw [h0] at ha; cases ha
/-- append of elements that were just built -/
theorem ef.append1 {t : TypeId} {b n : Nat} {us : List Value} {K : TK [kS] → World → Prop} (T : SlT P t sz) (hsz : 0 < sz) (h : Ok e (pts b us :: slc sz s vs :: L) w) (hx : us.length = n * sz) (h1 : ∀ v ∈ us, v.oneCell' = true) (hb : s.len + n ≤ 2 ^ 32)
    (k : ∀ s' w', s'.len = s.len + n → Ok e (slc sz s' (vs ++ us) :: L) w' → K (s', ()) w') : ef P (Builtin.append_ #[t, t] t #[vS s, vS ⟨some ⟨b, 0, none⟩, n, n⟩]) [kS] w K := by
  have h2 := (h.slcNew hx h1).p1
  exact ef.append2 (x := ⟨some ⟨b, 0, none⟩, n, n⟩) T hsz h2 hb fun s' w' hl hk => k s' w' hl hk.p1.drop
/-- a part of a slice, looked at alone -/
theorem sb_view {a : Addr} {lo hi : Int} {f : Sl → Prop} (ha : s.a = some a) (h0 : 0 ≤ lo) (h1 : lo ≤ hi) (h2 : hi ≤ s.cap) (k : ∀ s' : Sl, s'.len = hi.toNat - lo.toNat → (lo.toNat < s.cap → s'.a = some (a.add (lo.toNat * sz))) → f s') : sb s lo hi s.cap sz f := by
  refine ⟨h0, h1, h2, Int.le_refl _, k _ (by simp [Sl.sub]) fun hlt => ?_⟩
  simp only [Sl.sub, ha, Int.toNat_natCast]
  rw [if_neg (by omega)]
  rfl
/-- slices.Clip's cut -/
theorem sb.clip {f : Sl → Prop} (h : Ok e (slc sz s vs :: L) w) (k : ∀ s', s'.len = s.len → Ok e (slc sz s' vs :: L) w → f s') : sb s 0 s.len s.len sz f := by
  obtain ⟨hl, hv, hc, hcase⟩ := h.slcE
  refine ⟨Int.le_refl _, by omega, Int.le_refl _, by omega, k _ (by simp [Sl.sub]) ?_⟩
  rcases hcase with ⟨ha, hcap, hL⟩ | ⟨b, post, ha, hp, hk⟩
  · have h0 : s.len = 0 := by omega
    have e1 : s.sub 0 s.len s.len sz = ⟨none, 0, 0⟩ := by simp [Sl.sub, ha, h0]
    rw [e1]
    have : vs = [] := List.eq_nil_of_length_eq_zero (by rw [hl, h0]; simp)
    subst this
    exact hL.slcNil sz
  · refine hk.slcI ?_ (by simp [Sl.sub, hl]) hv (by simp [Sl.sub]) (by simp [Sl.sub, hl])
    simp only [Sl.sub, ha]
    split
    · rfl
    · simp [Addr.add]
/-- the first ones of a slice -/
theorem sb.take {n : Int} {f : Sl → Prop} (h : Ok e (slc sz s vs :: L) w) (h0 : 0 ≤ n) (h1 : n ≤ s.len) (k : ∀ s', s'.len = n.toNat → s'.cap = s.cap → Ok e (slc sz s' (vs.take (n.toNat * sz)) :: L) w → f s') : sb s 0 n s.cap sz f := by
  obtain ⟨hl, hv, hc, hcase⟩ := h.slcE
  refine ⟨Int.le_refl _, h0, by omega, Int.le_refl _, k _ (by simp [Sl.sub]) (by simp [Sl.sub]) ?_⟩
  have hle : n.toNat * sz ≤ vs.length := by rw [hl]; exact Nat.mul_le_mul_right _ (by omega)
  rcases hcase with ⟨ha, hcap, hL⟩ | ⟨b, post, ha, hp, hk⟩
  · have hn : n.toNat = 0 := by omega
    have hn0 : n = 0 := by omega
    subst hn0
    have e1 : s.sub 0 0 s.cap sz = ⟨none, 0, 0⟩ := by simp [Sl.sub, ha, hcap]
    rw [e1]
    simpa using hL.slcNil sz
  · have hk' : Ok e (pts b (vs.take (n.toNat * sz) ++ (vs.drop (n.toNat * sz) ++ post)) :: L) w := by
      rw [← List.append_assoc, List.take_append_drop]; exact hk
    refine hk'.slcI ?_ (by simp [Sl.sub, hle]) (fun v hm => hv v (List.mem_of_mem_take hm)) (by simp [Sl.sub]; omega) (by simp [Sl.sub]; omega)
    simp only [Sl.sub, ha]
    split
    · rfl
    · simp [Addr.add]
end
end Go.Proofs.Ytjamgdepbjipdaa.B
