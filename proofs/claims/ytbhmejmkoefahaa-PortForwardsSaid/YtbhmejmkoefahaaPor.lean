/- Contracts of the package por: lines, rendezvous. -/
import Derived.Test.YtbhmejmkoefahaaBag
namespace Go.Proofs.Ytbhmejmkoefahaa.B
open Go
set_option linter.unusedVariables false

/-! ### what it computes -/
def updI {α : Type} (g : Int → α) (i : Int) (x : α) : Int → α := fun j => if j = i then x else g j

theorem updI_same {α : Type} {g : Int → α} {i : Int} {x : α} : updI g i x i = x := if_pos rfl

theorem updI_other {α : Type} {g : Int → α} {i j : Int} {x : α} (h : j ≠ i) : updI g i x j = g j := if_neg h

def idxL (pr : Int × Int × Int → Bool) (l : List (Int × Int × Int)) : Int := match l.findIdx? pr with
  | some i => (i : Int)
  | none => -1

theorem idxL_none {pr : Int × Int × Int → Bool} {l : List (Int × Int × Int)} (h : ∀ (m : Nat) q, l[m]? = some q → pr q = false) : idxL pr l = -1 := by
  unfold idxL
  rw [List.findIdx?_eq_none_iff.2 fun x hx => by
    obtain ⟨m, hm, rfl⟩ := List.getElem_of_mem hx
    exact h m _ (List.getElem?_eq_getElem hm)]

theorem idxL_some {pr : Int × Int × Int → Bool} {l : List (Int × Int × Int)} {n : Nat} {p : Int × Int × Int} (h : l[n]? = some p) (hp : pr p = true) (hn : ∀ m, m < n → ∀ q, l[m]? = some q → pr q = false) : idxL pr l = n := by
  unfold idxL
  have hlt := (List.getElem?_eq_some_iff.1 h).1
  have : l.findIdx? pr = some n := by
    rw [List.findIdx?_eq_some_iff_getElem]
    refine ⟨hlt, by rw [(List.getElem?_eq_some_iff.1 h).2]; exact hp, fun j hj => ?_⟩
    rw [hn j hj _ (List.getElem?_eq_getElem (by omega))]; decide
  rw [this]

theorem idxL_lt {pr : Int × Int × Int → Bool} {l : List (Int × Int × Int)} (h : 0 ≤ idxL pr l) : (idxL pr l).toNat < l.length ∧ ∃ p, l[(idxL pr l).toNat]? = some p ∧ pr p = true := by
  unfold idxL at h ⊢
  cases hf : l.findIdx? pr with
  | none => rw [hf] at h; simp at h
  | some i =>
    obtain ⟨hlt, hp, _⟩ := List.findIdx?_eq_some_iff_getElem.1 hf
    simp only [Int.toNat_natCast]
    exact ⟨hlt, _, List.getElem?_eq_getElem hlt, hp⟩

theorem idxL_bd (pr : Int × Int × Int → Bool) (l : List (Int × Int × Int)) : -1 ≤ idxL pr l := by
  unfold idxL; split <;> omega

def meetL (g : Int → Int) (bits : Int) (S : List (Int × Int)) : Option (Int × Int) := S.find? fun x => bAnd .u32 (g x.1) bits != 0

theorem meetL_none {g : Int → Int} {bits : Int} {S : List (Int × Int)} (h : ∀ (m : Nat) q, S[m]? = some q → (bAnd .u32 (g q.1) bits != 0) = false) : meetL g bits S = none := by
  unfold meetL
  rw [List.find?_eq_none]
  intro x hx
  obtain ⟨m, hm, rfl⟩ := List.getElem_of_mem hx
  rw [h m _ (List.getElem?_eq_getElem hm)]; decide

theorem meetL_some {g : Int → Int} {bits : Int} {S : List (Int × Int)} {n : Nat} {p : Int × Int} (h : S[n]? = some p) (hp : (bAnd .u32 (g p.1) bits != 0) = true) (hn : ∀ m, m < n → ∀ q, S[m]? = some q → (bAnd .u32 (g q.1) bits != 0) = false) : meetL g bits S = some p := by
  unfold meetL
  have hlt := (List.getElem?_eq_some_iff.1 h).1
  have he := (List.getElem?_eq_some_iff.1 h).2
  rw [List.find?_eq_some_iff_getElem]
  refine ⟨hp, n, hlt, he, fun j hj => ?_⟩
  rw [hn j hj _ (List.getElem?_eq_getElem (by omega))]; decide

theorem meetL_mem {g : Int → Int} {bits : Int} {S : List (Int × Int)} {x : Int × Int} (h : meetL g bits S = some x) : x ∈ S := List.mem_of_find?_eq_some h

theorem meetL_congr {g g' : Int → Int} {bits : Int} {S : List (Int × Int)} (h : ∀ i ∈ ids S, g i = g' i) : meetL g bits S = meetL g' bits S := by
  unfold meetL
  induction S with
  | nil => rfl
  | cons x r ih =>
    simp only [List.find?_cons]
    rw [h x.1 (List.mem_cons_self ..), ih fun i hi => h i (List.mem_cons_of_mem _ hi)]

structure PP where
  C : List (Int × Int)
  A : List (Int × Int)
  g : Int → Int
  s : Int → List UInt8
  L : List (Int × Int × Int)
  last : Int

structure PPo (N : Nat) (q : PP) : Prop where
  c : okL q.C
  a : okL q.A
  ca : ∀ i ∈ ids q.C, i ∉ ids q.A
  n : q.L.length ≤ N
  l : 0 ≤ q.last ∧ q.last ≤ N
  sl : ∀ i ∈ ids q.C, (q.s i).length ≤ 2 ^ 20

theorem PPo.mono {N M : Nat} {q : PP} (h : PPo N q) (hm : N ≤ M) : PPo M q := ⟨h.c, h.a, h.ca, Nat.le_trans h.n hm, ⟨h.l.1, by have := h.l.2; omega⟩, h.sl⟩

def PP.inP (q : PP) (t : Int) : Bool := decide (0 ≤ atI q.C t) || decide (0 ≤ atI q.A t) || decide (0 ≤ idxL (fun x => x.2.1 == t) q.L)

def goodT (t pri : Int) : Prop := 1 ≤ t ∧ t ≤ 16 ∧ 1 ≤ pri ∧ pri ≤ 16

instance (t pri : Int) : Decidable (goodT t pri) := inferInstanceAs (Decidable (1 ≤ t ∧ t ≤ 16 ∧ 1 ≤ pri ∧ pri ≤ 16))

abbrev MetR := Int × Int × List UInt8 × Bool × Int

def PP.call (q : PP) (byPri : Bool) (most t pri bits : Int) (l : List UInt8) : MetR × PP :=
  if bits = 0 ∨ (l.length : Int) > most ∨ ¬ goodT t pri then ((0, 0, [], false, -17), q)
  else if q.inP t = true then ((0, 0, [], false, -41), q)
  else match meetL q.g bits q.A with
    | some x => ((q.last + 1, x.1, l, true, 0), ⟨q.C, rmL q.A x.1, q.g, q.s, q.L ++ [(q.last + 1, t, pri)], q.last + 1⟩)
    | none => ((0, 0, [], false, 0), ⟨(addL byPri q.C t pri).2, q.A, updI q.g t bits, updI q.s t l, q.L, q.last⟩)

def PP.accept (q : PP) (t pri bits : Int) : MetR × PP :=
  if bits = 0 ∨ ¬ goodT t pri then ((0, 0, [], false, -17), q)
  else if q.inP t = true then ((0, 0, [], false, -41), q)
  else match meetL q.g bits q.C with
    | some x => ((q.last + 1, x.1, q.s x.1, true, 0), ⟨rmL q.C x.1, q.A, q.g, q.s, q.L ++ [(q.last + 1, x.1, x.2)], q.last + 1⟩)
    | none => ((0, 0, [], false, 0), ⟨q.C, (addL false q.A t pri).2, updI q.g t bits, q.s, q.L, q.last⟩)

def delO (l : List (Int × Int × Int)) (i : Nat) : List (Int × Int × Int) := l.take i ++ l.drop (i + 1)

theorem delO_len (l : List (Int × Int × Int)) (i : Nat) : (delO l i).length ≤ l.length := by
  simp only [delO, List.length_append, List.length_take, List.length_drop]; omega

def PP.fi (q : PP) (no : Int) : Int := idxL (fun x => x.1 == no) q.L

def PP.endd (q : PP) (i : Nat) : PP := ⟨q.C, q.A, q.g, q.s, delO q.L i, q.last⟩

def PP.reply (q : PP) (most no : Int) (n : Nat) : (Int × Int) × PP :=
  if q.fi no < 0 then ((0, -41), q)
  else if (n : Int) > most then ((0, -17), q)
  else (((q.L[(q.fi no).toNat]?.getD (0, 0, 0)).2.1, 0), q.endd (q.fi no).toNat)

def PP.drop (q : PP) (t : Int) : Bool × PP :=
  if 0 ≤ idxL (fun x => x.2.1 == t) q.L then (true, q.endd (idxL (fun x => x.2.1 == t) q.L).toNat)
  else if 0 ≤ atI q.C t then (true, ⟨rmL q.C t, q.A, q.g, q.s, q.L, q.last⟩)
  else (decide (0 ≤ atI q.A t), ⟨q.C, rmL q.A t, q.g, q.s, q.L, q.last⟩)

/-! ### memory -/
def op3 (x : Int × Int × Int) : List Value := [.int .i64 x.1, .int .i64 x.2.1, .int .i64 x.2.2]

theorem op3_len : ∀ x, (op3 x).length = 3 := fun _ => rfl

theorem op3_one : ∀ x, ∀ v ∈ op3 x, v.oneCell' = true := fun x v hv => by
  simp only [op3, List.mem_cons, List.not_mem_nil, or_false] at hv
  rcases hv with rfl | rfl | rfl <;> rfl

theorem slT_open : SlT Pg 77 3 := .of (by kernel_rfl)

theorem mapT_call : MapT Pg 71 (.agg #[.int .u32 0, .slice none 0 0]) := .of (by kernel_rfl)

theorem ix_o3 {e w L s l} {n : Nat} {p : Int × Int × Int} {g : Nat → Nat → Prop} (h : Ok e (slc 3 s (flat op3 l) :: L) w) (hp : l[n]? = some p)
    (k : ∀ b o, (∀ w', (∃ L', Ok e (slc 3 s (flat op3 l) :: L') w') → w'.cell? ⟨b, o, none⟩ = some (.int .i64 p.1) ∧ w'.cell? ⟨b, o + 1, none⟩ = some (.int .i64 p.2.1) ∧ w'.cell? ⟨b, o + 2, none⟩ = some (.int .i64 p.2.2)) → g b o) : ix s (n : Int) 3 g := by
  have hlt := (List.getElem?_eq_some_iff.1 hp).1
  refine ix_flat op3_len (by decide) h (Int.natCast_nonneg _) (by omega) fun b o a ha _ _ hc => k b o fun w' h' => ?_
  rw [Int.toNat_natCast, hp] at ha
  cases ha
  exact ⟨hc 0 _ rfl w' h', hc 1 _ rfl w' h', hc 2 _ rfl w' h'⟩

theorem IndexFunc_open {e w L s l R} {fv : Fv} {pr : Int × Int × Int → Bool} (h : Ok e (slc 3 s (flat op3 l) :: L) w) (hb : l.length ≤ 2 ^ 31) (hen : enterable Pg fv.fid = true)
    (hc : ∀ (x : Int × Int × Int) w1 (K : TK [kB] → World → Prop), Ok e (slc 3 s (flat op3 l) :: L) w1 → (∀ w2, Ok e (slc 3 s (flat op3 l) :: L) w2 → K (pr x, ()) w2) → cl Pg fv.fid (fv.pre ++ ([.agg #[.int .i64 x.1, .int .i64 x.2.1, .int .i64 x.2.2]] ++ fv.post)) [kB] w1 K)
    (k : ∀ w', Ok e (slc 3 s (flat op3 l) :: L) w' → R [.int .i64 (idxL pr l)] w') : sh46 s fv R w := by
  unfold sh46
  have hl := slc_flat_len op3_len (by decide) h
  refine lp.mk (fun t w' => ∃ n : Nat, t.1 = (n : Int) ∧ n ≤ l.length ∧ (∀ m, m < n → ∀ q, l[m]? = some q → pr q = false) ∧ Ok e (slc 3 s (flat op3 l) :: L) w')
    (fun t _ => l.length - t.1.toNat) ⟨0, rfl, Nat.zero_le _, fun m hm => absurd hm (Nat.not_lt_zero _), h⟩ ?_
  clear h
  rintro ⟨(i : Int), _⟩ w1 ⟨n, hn, hnl, hno, h⟩
  dsimp only at hn
  subst hn
  refine cs.mk (fun hlt => ?_) (fun hge => ?_)
  · have hlt : n < l.length := by have := of_decide_eq_true hlt; dsimp only at this; omega
    obtain ⟨p, hp⟩ : ∃ p, l[n]? = some p := ⟨_, List.getElem?_eq_getElem hlt⟩
    refine ix_o3 h hp fun b o hcell => ?_
    obtain ⟨c1, c2, c3⟩ := hcell w1 ⟨_, h⟩
    refine ldI.mk c1 (ldI.mk c2 (ldI.mk c3 (ob.mk hen ?_)))
    refine hc p w1 _ h fun w2 h => ?_
    refine cs.mk (fun he => ?_) (fun hne => ?_)
    · have := k w2 h
      rw [idxL_some hp he hno] at this
      exact this
    · have hw : w64 ((n : Int) + 1) = ((n + 1 : Nat) : Int) := by rw [w64_in (by omega) (by omega)]; rfl
      dsimp only
      rw [hw]
      refine ⟨⟨n + 1, rfl, hlt, fun m hm q hq => ?_, h⟩, ?_⟩
      · rcases Nat.lt_or_ge m n with hm' | hm'
        · exact hno m hm' q hq
        · have : m = n := by omega
          subst this
          rw [hp] at hq
          cases hq
          exact hne
      · show l.length - Int.toNat ((n + 1 : Nat) : Int) < l.length - Int.toNat (n : Int)
        omega
  · have hge : l.length ≤ n := by have := of_decide_eq_false hge; dsimp only at this; omega
    have := k w1 h
    rw [idxL_none fun m q hq => hno m (by have := (List.getElem?_eq_some_iff.1 hq).1; omega) q hq] at this
    exact this

theorem drop_line {e w L p rest S m f t R} (h : Ok e (lineP p rest S :: mpP m f :: L) w) (hb : S.length ≤ 16) (k : ∀ w', Ok e (lineP p rest (rmL S t) :: mpP m (upd f t none) :: L) w' → R [.bool (decide (0 ≤ atI S t))] w') :
    sh48 (some ⟨p, 0, none⟩, some m, ()) t R w := by
  unfold sh48
  refine al.mk h fun b1 w2 h => ?_
  refine ldM.mk (by refine Ok.cellS h (by with_reducible first | exact sl0 | exact .there sl0 | exact .there sl1 | exact .there sl2 | exact .there sl3 | exact .there sl4 | exact .there sl5 | exact .there sl6 | exact .there sl7 | exact .there sl8 | exact .there sl9 | exact .there sl10 | exact .there sl11 | exact .there sl12) ?_; rfl) ?_
  refine ef.delete mapT_call (Ok.emb (h) (.cons (A := mpP m _) (by with_reducible first | exact sl0 | exact .there sl0 | exact .there sl1 | exact .there sl2 | exact .there sl3 | exact .there sl4 | exact .there sl5 | exact .there sl6 | exact .there sl7 | exact .there sl8 | exact .there sl9 | exact .there sl10 | exact .there sl11 | exact .there sl12) (.same _))) fun w3 h => ?_
  refine ldP.mk (by refine Ok.cellS h (by with_reducible first | exact sl0 | exact .there sl0 | exact .there sl1 | exact .there sl2 | exact .there sl3 | exact .there sl4 | exact .there sl5 | exact .there sl6 | exact .there sl7 | exact .there sl8 | exact .there sl9 | exact .there sl10 | exact .there sl11 | exact .there sl12) ?_; rfl) (nn.mk ?_)
  refine call58 (Remove_order (Ok.emb (h) (.cons (A := lineP p _ _) (by with_reducible first | exact sl0 | exact .there sl0 | exact .there sl1 | exact .there sl2 | exact .there sl3 | exact .there sl4 | exact .there sl5 | exact .there sl6 | exact .there sl7 | exact .there sl8 | exact .there sl9 | exact .there sl10 | exact .there sl11 | exact .there sl12) (.same _))) (by omega) fun w4 h => ⟨(decide (0 ≤ atI S t), ()), rfl, ?_⟩)
  exact k _ ((Ok.emb (h) (.cons (A := pts b1 _) (by with_reducible first | exact sl0 | exact .there sl0 | exact .there sl1 | exact .there sl2 | exact .there sl3 | exact .there sl4 | exact .there sl5 | exact .there sl6 | exact .there sl7 | exact .there sl8 | exact .there sl9 | exact .there sl10 | exact .there sl11 | exact .there sl12) (.cons (A := lineP p _ _) (by with_reducible first | exact sl0 | exact .there sl0 | exact .there sl1 | exact .there sl2 | exact .there sl3 | exact .there sl4 | exact .there sl5 | exact .there sl6 | exact .there sl7 | exact .there sl8 | exact .there sl9 | exact .there sl10 | exact .there sl11 | exact .there sl12) (.cons (A := mpP m _) (by with_reducible first | exact sl0 | exact .there sl0 | exact .there sl1 | exact .there sl2 | exact .there sl3 | exact .there sl4 | exact .there sl5 | exact .there sl6 | exact .there sl7 | exact .there sl8 | exact .there sl9 | exact .there sl10 | exact .there sl11 | exact .there sl12) (.same _)))))).drop

theorem wait_line {e w L p byPri S m f t pri bits x R} (h : Ok e (lineP p [.bool byPri] S :: mpP m f :: L) w) (hb : S.length ≤ 16)
    (k : ∀ w', Ok e (lineP p [.bool byPri] (addL byPri S t pri).2 :: mpP m (upd f t (some (.agg #[.int .u32 bits, vS x]))) :: L) w' → R [] w') :
    sh34 (some ⟨p, 0, none⟩, some m, ()) t pri (bits, x, ()) R w := by
  unfold sh34
  refine al.mk h fun b1 w2 h => ?_
  refine al.mk h fun b2 w3 h => ?_
  refine ldP.mk (by refine Ok.cellS h (by with_reducible first | exact sl0 | exact .there sl0 | exact .there sl1 | exact .there sl2 | exact .there sl3 | exact .there sl4 | exact .there sl5 | exact .there sl6 | exact .there sl7 | exact .there sl8 | exact .there sl9 | exact .there sl10 | exact .there sl11 | exact .there sl12) ?_; rfl) ?_
  refine call53 (Add_order (Ok.emb (h) (.cons (A := lineP p _ _) (by with_reducible first | exact sl0 | exact .there sl0 | exact .there sl1 | exact .there sl2 | exact .there sl3 | exact .there sl4 | exact .there sl5 | exact .there sl6 | exact .there sl7 | exact .there sl8 | exact .there sl9 | exact .there sl10 | exact .there sl11 | exact .there sl12) (.same _))) (by omega) fun w4 h => ⟨((addL byPri S t pri).1, ()), rfl, ?_⟩)
  refine ldM.mk (by refine Ok.cellS h (by with_reducible first | exact sl0 | exact .there sl0 | exact .there sl1 | exact .there sl2 | exact .there sl3 | exact .there sl4 | exact .there sl5 | exact .there sl6 | exact .there sl7 | exact .there sl8 | exact .there sl9 | exact .there sl10 | exact .there sl11 | exact .there sl12) ?_; rfl) (ldI.mk (by refine Ok.cellS h (by with_reducible first | exact sl0 | exact .there sl0 | exact .there sl1 | exact .there sl2 | exact .there sl3 | exact .there sl4 | exact .there sl5 | exact .there sl6 | exact .there sl7 | exact .there sl8 | exact .there sl9 | exact .there sl10 | exact .there sl11 | exact .there sl12) ?_; rfl) (ldS.mk (by refine Ok.cellS h (by with_reducible first | exact sl0 | exact .there sl0 | exact .there sl1 | exact .there sl2 | exact .there sl3 | exact .there sl4 | exact .there sl5 | exact .there sl6 | exact .there sl7 | exact .there sl8 | exact .there sl9 | exact .there sl10 | exact .there sl11 | exact .there sl12) ?_; rfl) ?_))
  refine efU.mapUpdate mapT_call (Ok.emb (h) (.cons (A := mpP m _) (by with_reducible first | exact sl0 | exact .there sl0 | exact .there sl1 | exact .there sl2 | exact .there sl3 | exact .there sl4 | exact .there sl5 | exact .there sl6 | exact .there sl7 | exact .there sl8 | exact .there sl9 | exact .there sl10 | exact .there sl11 | exact .there sl12) (.same _))) fun w5 h => ?_
  exact k _ ((Ok.emb (h) (.cons (A := pts b1 _) (by with_reducible first | exact sl0 | exact .there sl0 | exact .there sl1 | exact .there sl2 | exact .there sl3 | exact .there sl4 | exact .there sl5 | exact .there sl6 | exact .there sl7 | exact .there sl8 | exact .there sl9 | exact .there sl10 | exact .there sl11 | exact .there sl12) (.cons (A := pts b2 _) (by with_reducible first | exact sl0 | exact .there sl0 | exact .there sl1 | exact .there sl2 | exact .there sl3 | exact .there sl4 | exact .there sl5 | exact .there sl6 | exact .there sl7 | exact .there sl8 | exact .there sl9 | exact .there sl10 | exact .there sl11 | exact .there sl12) (.cons (A := lineP p _ _) (by with_reducible first | exact sl0 | exact .there sl0 | exact .there sl1 | exact .there sl2 | exact .there sl3 | exact .there sl4 | exact .there sl5 | exact .there sl6 | exact .there sl7 | exact .there sl8 | exact .there sl9 | exact .there sl10 | exact .there sl11 | exact .there sl12) (.cons (A := mpP m _) (by with_reducible first | exact sl0 | exact .there sl0 | exact .there sl1 | exact .there sl2 | exact .there sl3 | exact .there sl4 | exact .there sl5 | exact .there sl6 | exact .there sl7 | exact .there sl8 | exact .there sl9 | exact .there sl10 | exact .there sl11 | exact .there sl12) (.same _))))))).drop.drop

set_option maxHeartbeats 1000000 in
theorem meet_line {e w L p rest S m f bits R} {g : Int → Int} {σ : Int → Sl} (h : Ok e (lineP p rest S :: mpP m f :: L) w) (hb : S.length ≤ 16) (hf : ∀ i ∈ ids S, f i = some (.agg #[.int .u32 (g i), vS (σ i)]))
    (k0 : meetL g bits S = none → ∀ w', Ok e (lineP p rest S :: mpP m f :: L) w' → R [.agg #[.int .i64 0, .int .i64 0], .agg #[.int .u32 0, .slice none 0 0], .bool false] w')
    (k1 : ∀ x, meetL g bits S = some x → ∀ w', Ok e (lineP p rest (rmL S x.1) :: mpP m (upd f x.1 none) :: L) w' → R [.agg #[.int .i64 x.1, .int .i64 x.2], .agg #[.int .u32 (g x.1), vS (σ x.1)], .bool true] w') :
    sh32 (some ⟨p, 0, none⟩, some m, ()) bits R w := by
  unfold sh32
  refine al.mk h fun b1 w2 h => ?_
  refine al.mk h fun b3 w3 h => ?_
  refine al.mk h fun b5 w4 h => ?_
  refine ldP.mk (by refine Ok.cellS h (by with_reducible first | exact sl0 | exact .there sl0 | exact .there sl1 | exact .there sl2 | exact .there sl3 | exact .there sl4 | exact .there sl5 | exact .there sl6 | exact .there sl7 | exact .there sl8 | exact .there sl9 | exact .there sl10 | exact .there sl11 | exact .there sl12) ?_; rfl) (nn.mk ?_)
  refine call52 (Row_order (Ok.emb (h) (.cons (A := lineP p _ _) (by with_reducible first | exact sl0 | exact .there sl0 | exact .there sl1 | exact .there sl2 | exact .there sl3 | exact .there sl4 | exact .there sl5 | exact .there sl6 | exact .there sl7 | exact .there sl8 | exact .there sl9 | exact .there sl10 | exact .there sl11 | exact .there sl12) (.same _))) (by omega) fun s w5 hs h => ⟨(s, ()), rfl, ?_⟩)
  have h := (Ok.emb (h) (.cons (A := slc 2 s _) (by with_reducible first | exact sl0 | exact .there sl0 | exact .there sl1 | exact .there sl2 | exact .there sl3 | exact .there sl4 | exact .there sl5 | exact .there sl6 | exact .there sl7 | exact .there sl8 | exact .there sl9 | exact .there sl10 | exact .there sl11 | exact .there sl12) (.cons (A := pts b1 _) (by with_reducible first | exact sl0 | exact .there sl0 | exact .there sl1 | exact .there sl2 | exact .there sl3 | exact .there sl4 | exact .there sl5 | exact .there sl6 | exact .there sl7 | exact .there sl8 | exact .there sl9 | exact .there sl10 | exact .there sl11 | exact .there sl12) (.cons (A := pts b3 _) (by with_reducible first | exact sl0 | exact .there sl0 | exact .there sl1 | exact .there sl2 | exact .there sl3 | exact .there sl4 | exact .there sl5 | exact .there sl6 | exact .there sl7 | exact .there sl8 | exact .there sl9 | exact .there sl10 | exact .there sl11 | exact .there sl12) (.cons (A := pts b5 _) (by with_reducible first | exact sl0 | exact .there sl0 | exact .there sl1 | exact .there sl2 | exact .there sl3 | exact .there sl4 | exact .there sl5 | exact .there sl6 | exact .there sl7 | exact .there sl8 | exact .there sl9 | exact .there sl10 | exact .there sl11 | exact .there sl12) (.cons (A := lineP p _ _) (by with_reducible first | exact sl0 | exact .there sl0 | exact .there sl1 | exact .there sl2 | exact .there sl3 | exact .there sl4 | exact .there sl5 | exact .there sl6 | exact .there sl7 | exact .there sl8 | exact .there sl9 | exact .there sl10 | exact .there sl11 | exact .there sl12) (.cons (A := mpP m _) (by with_reducible first | exact sl0 | exact .there sl0 | exact .there sl1 | exact .there sl2 | exact .there sl3 | exact .there sl4 | exact .there sl5 | exact .there sl6 | exact .there sl7 | exact .there sl8 | exact .there sl9 | exact .there sl10 | exact .there sl11 | exact .there sl12) (.same _))))))))
  refine lp.mk (fun t w' => ∃ n : Nat, t.1 = (n : Int) ∧ n ≤ S.length ∧ (∀ j, j < n → ∀ q, S[j]? = some q → (bAnd .u32 (g q.1) bits != 0) = false) ∧
      Ok e (slc 2 s (prs S) :: pts b1 [.pointer (some ⟨p, 0, none⟩), .map (some m)] :: pts b3 [.int .i64 0, .int .i64 0] :: pts b5 [.int .u32 0, .slice none 0 0] :: lineP p rest S :: mpP m f :: L) w')
    (fun t _ => S.length - t.1.toNat) ⟨0, rfl, Nat.zero_le _, fun m hm => absurd hm (Nat.not_lt_zero _), h⟩ ?_
  clear h
  rintro ⟨(i : Int), _⟩ w1 ⟨n, hn, hnl, hno, h⟩
  dsimp only at hn
  subst hn
  refine cs.mk (fun hlt => ?_) (fun hge => ?_)
  · have hlt : n < S.length := by have := of_decide_eq_true hlt; dsimp only at this; omega
    obtain ⟨x, hx⟩ : ∃ x, S[n]? = some x := ⟨_, List.getElem?_eq_getElem hlt⟩
    have hxm : x ∈ S := List.mem_of_getElem? hx
    have hxi : x.1 ∈ ids S := List.mem_map.2 ⟨x, hxm, rfl⟩
    refine ix_pr h (Int.natCast_nonneg _) (by dsimp only; omega) fun b o y hy _ _ c1 c2 => ldI.mk (c1 _ ⟨_, h⟩) (ldI.mk (c2 _ ⟨_, h⟩) ?_)
    dsimp only at hy
    rw [Int.toNat_natCast, hx] at hy
    cases hy
    clear c1 c2
    refine al.mk h fun b19 w6 h => ?_
    (repeat (first | with_reducible refine dr.mk h fun _ h => ?_ | with_reducible refine nn.mk ?_ | ((first | with_reducible apply ldI.mk | with_reducible apply ldB.mk | with_reducible apply ldP.mk | with_reducible apply ldS.mk | with_reducible apply ldM.mk | with_reducible apply ldF.mk | with_reducible apply ldG.mk); (· exact (by refine Ok.cellS h (by with_reducible first | exact sl0 | exact .there sl0 | exact .there sl1 | exact .there sl2 | exact .there sl3 | exact .there sl4 | exact .there sl5 | exact .there sl6 | exact .there sl7 | exact .there sl8 | exact .there sl9 | exact .there sl10 | exact .there sl11 | exact .there sl12) ?_; rfl))) | (refine st1.mk (Ok.bring h (by with_reducible first | exact sl0 | exact .there sl0 | exact .there sl1 | exact .there sl2 | exact .there sl3 | exact .there sl4 | exact .there sl5 | exact .there sl6 | exact .there sl7 | exact .there sl8 | exact .there sl9 | exact .there sl10 | exact .there sl11 | exact .there sl12)) (by simp) fun _ h => ?_; dsimp only [List.set] at h)))
    refine ef.lookup mapT_call (Ok.emb (h) (.cons (A := mpP m _) (by with_reducible first | exact sl0 | exact .there sl0 | exact .there sl1 | exact .there sl2 | exact .there sl3 | exact .there sl4 | exact .there sl5 | exact .there sl6 | exact .there sl7 | exact .there sl8 | exact .there sl9 | exact .there sl10 | exact .there sl11 | exact .there sl12) (.same _))) (((g x.1, σ x.1, ()), ()) : TK [.a [(.i .u32), .s]]) (by rw [hf x.1 hxi]; rfl) ?_
    refine al.mk h fun b27 w7 h => ?_
    (repeat (first | with_reducible refine dr.mk h fun _ h => ?_ | with_reducible refine nn.mk ?_ | ((first | with_reducible apply ldI.mk | with_reducible apply ldB.mk | with_reducible apply ldP.mk | with_reducible apply ldS.mk | with_reducible apply ldM.mk | with_reducible apply ldF.mk | with_reducible apply ldG.mk); (· exact (by refine Ok.cellS h (by with_reducible first | exact sl0 | exact .there sl0 | exact .there sl1 | exact .there sl2 | exact .there sl3 | exact .there sl4 | exact .there sl5 | exact .there sl6 | exact .there sl7 | exact .there sl8 | exact .there sl9 | exact .there sl10 | exact .there sl11 | exact .there sl12) ?_; rfl))) | (refine st1.mk (Ok.bring h (by with_reducible first | exact sl0 | exact .there sl0 | exact .there sl1 | exact .there sl2 | exact .there sl3 | exact .there sl4 | exact .there sl5 | exact .there sl6 | exact .there sl7 | exact .there sl8 | exact .there sl9 | exact .there sl10 | exact .there sl11 | exact .there sl12)) (by simp) fun _ h => ?_; dsimp only [List.set] at h)))
    refine cs.mk (fun hm => ?_) (fun hm => ?_)
    · (repeat (first | with_reducible refine dr.mk h fun _ h => ?_ | with_reducible refine nn.mk ?_ | ((first | with_reducible apply ldI.mk | with_reducible apply ldB.mk | with_reducible apply ldP.mk | with_reducible apply ldS.mk | with_reducible apply ldM.mk | with_reducible apply ldF.mk | with_reducible apply ldG.mk); (· exact (by refine Ok.cellS h (by with_reducible first | exact sl0 | exact .there sl0 | exact .there sl1 | exact .there sl2 | exact .there sl3 | exact .there sl4 | exact .there sl5 | exact .there sl6 | exact .there sl7 | exact .there sl8 | exact .there sl9 | exact .there sl10 | exact .there sl11 | exact .there sl12) ?_; rfl))) | (refine st1.mk (Ok.bring h (by with_reducible first | exact sl0 | exact .there sl0 | exact .there sl1 | exact .there sl2 | exact .there sl3 | exact .there sl4 | exact .there sl5 | exact .there sl6 | exact .there sl7 | exact .there sl8 | exact .there sl9 | exact .there sl10 | exact .there sl11 | exact .there sl12)) (by simp) fun _ h => ?_; dsimp only [List.set] at h)))
      have h := (Ok.emb (h) (.cons (A := lineP p _ _) (by with_reducible first | exact sl0 | exact .there sl0 | exact .there sl1 | exact .there sl2 | exact .there sl3 | exact .there sl4 | exact .there sl5 | exact .there sl6 | exact .there sl7 | exact .there sl8 | exact .there sl9 | exact .there sl10 | exact .there sl11 | exact .there sl12) (.cons (A := mpP m _) (by with_reducible first | exact sl0 | exact .there sl0 | exact .there sl1 | exact .there sl2 | exact .there sl3 | exact .there sl4 | exact .there sl5 | exact .there sl6 | exact .there sl7 | exact .there sl8 | exact .there sl9 | exact .there sl10 | exact .there sl11 | exact .there sl12) (.same _))))
      refine call48 (a0 := (some ⟨p, 0, none⟩, some m, ())) (a1 := x.1) (drop_line h hb fun w8 h => ⟨(decide (0 ≤ atI S x.1), ()), rfl, ?_⟩)
      refine dr.mk h fun w9 h => ?_
      refine ldI.mk (by refine Ok.cellS h (by with_reducible first | exact sl0 | exact .there sl0 | exact .there sl1 | exact .there sl2 | exact .there sl3 | exact .there sl4 | exact .there sl5 | exact .there sl6 | exact .there sl7 | exact .there sl8 | exact .there sl9 | exact .there sl10 | exact .there sl11 | exact .there sl12) ?_; rfl) (ldI.mk (by refine Ok.cellS h (by with_reducible first | exact sl0 | exact .there sl0 | exact .there sl1 | exact .there sl2 | exact .there sl3 | exact .there sl4 | exact .there sl5 | exact .there sl6 | exact .there sl7 | exact .there sl8 | exact .there sl9 | exact .there sl10 | exact .there sl11 | exact .there sl12) ?_; rfl) (ldI.mk (by refine Ok.cellS h (by with_reducible first | exact sl0 | exact .there sl0 | exact .there sl1 | exact .there sl2 | exact .there sl3 | exact .there sl4 | exact .there sl5 | exact .there sl6 | exact .there sl7 | exact .there sl8 | exact .there sl9 | exact .there sl10 | exact .there sl11 | exact .there sl12) ?_; rfl) (ldS.mk (by refine Ok.cellS h (by with_reducible first | exact sl0 | exact .there sl0 | exact .there sl1 | exact .there sl2 | exact .there sl3 | exact .there sl4 | exact .there sl5 | exact .there sl6 | exact .there sl7 | exact .there sl8 | exact .there sl9 | exact .there sl10 | exact .there sl11 | exact .there sl12) ?_; rfl) ?_)))
      refine st1.mk (Ok.bring h (by with_reducible first | exact sl0 | exact .there sl0 | exact .there sl1 | exact .there sl2 | exact .there sl3 | exact .there sl4 | exact .there sl5 | exact .there sl6 | exact .there sl7 | exact .there sl8 | exact .there sl9 | exact .there sl10 | exact .there sl11 | exact .there sl12)) (by simp) fun _ h => ?_
      dsimp only [List.set] at h
      refine st1.mk (Ok.bring h (by with_reducible first | exact sl0 | exact .there sl0 | exact .there sl1 | exact .there sl2 | exact .there sl3 | exact .there sl4 | exact .there sl5 | exact .there sl6 | exact .there sl7 | exact .there sl8 | exact .there sl9 | exact .there sl10 | exact .there sl11 | exact .there sl12)) (by simp) fun _ h => ⟨⟨?_, ?_⟩, ?_⟩
      · dsimp only [List.set] at h
        exact (by refine Ok.cellS h (by with_reducible first | exact sl0 | exact .there sl0 | exact .there sl1 | exact .there sl2 | exact .there sl3 | exact .there sl4 | exact .there sl5 | exact .there sl6 | exact .there sl7 | exact .there sl8 | exact .there sl9 | exact .there sl10 | exact .there sl11 | exact .there sl12) ?_; rfl)
      · dsimp only [List.set] at h
        exact (by refine Ok.cellS h (by with_reducible first | exact sl0 | exact .there sl0 | exact .there sl1 | exact .there sl2 | exact .there sl3 | exact .there sl4 | exact .there sl5 | exact .there sl6 | exact .there sl7 | exact .there sl8 | exact .there sl9 | exact .there sl10 | exact .there sl11 | exact .there sl12) ?_; rfl)
      dsimp only [List.set] at h
      (repeat (first | with_reducible refine dr.mk h fun _ h => ?_ | with_reducible refine nn.mk ?_ | ((first | with_reducible apply ldI.mk | with_reducible apply ldB.mk | with_reducible apply ldP.mk | with_reducible apply ldS.mk | with_reducible apply ldM.mk | with_reducible apply ldF.mk | with_reducible apply ldG.mk); (· exact (by refine Ok.cellS h (by with_reducible first | exact sl0 | exact .there sl0 | exact .there sl1 | exact .there sl2 | exact .there sl3 | exact .there sl4 | exact .there sl5 | exact .there sl6 | exact .there sl7 | exact .there sl8 | exact .there sl9 | exact .there sl10 | exact .there sl11 | exact .there sl12) ?_; rfl))) | (refine st1.mk (Ok.bring h (by with_reducible first | exact sl0 | exact .there sl0 | exact .there sl1 | exact .there sl2 | exact .there sl3 | exact .there sl4 | exact .there sl5 | exact .there sl6 | exact .there sl7 | exact .there sl8 | exact .there sl9 | exact .there sl10 | exact .there sl11 | exact .there sl12)) (by simp) fun _ h => ?_; dsimp only [List.set] at h)))
      have h := (Ok.emb (h) (.cons (A := lineP p _ _) (by with_reducible first | exact sl0 | exact .there sl0 | exact .there sl1 | exact .there sl2 | exact .there sl3 | exact .there sl4 | exact .there sl5 | exact .there sl6 | exact .there sl7 | exact .there sl8 | exact .there sl9 | exact .there sl10 | exact .there sl11 | exact .there sl12) (.cons (A := mpP m _) (by with_reducible first | exact sl0 | exact .there sl0 | exact .there sl1 | exact .there sl2 | exact .there sl3 | exact .there sl4 | exact .there sl5 | exact .there sl6 | exact .there sl7 | exact .there sl8 | exact .there sl9 | exact .there sl10 | exact .there sl11 | exact .there sl12) (.same _))))
      refine k1 x (meetL_some hx hm hno) _ ?_
      have h := (Ok.emb (h) (.cons (A := pts b1 _) (by with_reducible first | exact sl0 | exact .there sl0 | exact .there sl1 | exact .there sl2 | exact .there sl3 | exact .there sl4 | exact .there sl5 | exact .there sl6 | exact .there sl7 | exact .there sl8 | exact .there sl9 | exact .there sl10 | exact .there sl11 | exact .there sl12) (.cons (A := pts b3 _) (by with_reducible first | exact sl0 | exact .there sl0 | exact .there sl1 | exact .there sl2 | exact .there sl3 | exact .there sl4 | exact .there sl5 | exact .there sl6 | exact .there sl7 | exact .there sl8 | exact .there sl9 | exact .there sl10 | exact .there sl11 | exact .there sl12) (.cons (A := pts b5 _) (by with_reducible first | exact sl0 | exact .there sl0 | exact .there sl1 | exact .there sl2 | exact .there sl3 | exact .there sl4 | exact .there sl5 | exact .there sl6 | exact .there sl7 | exact .there sl8 | exact .there sl9 | exact .there sl10 | exact .there sl11 | exact .there sl12) (.cons (A := pts b19 _) (by with_reducible first | exact sl0 | exact .there sl0 | exact .there sl1 | exact .there sl2 | exact .there sl3 | exact .there sl4 | exact .there sl5 | exact .there sl6 | exact .there sl7 | exact .there sl8 | exact .there sl9 | exact .there sl10 | exact .there sl11 | exact .there sl12) (.cons (A := pts b27 _) (by with_reducible first | exact sl0 | exact .there sl0 | exact .there sl1 | exact .there sl2 | exact .there sl3 | exact .there sl4 | exact .there sl5 | exact .there sl6 | exact .there sl7 | exact .there sl8 | exact .there sl9 | exact .there sl10 | exact .there sl11 | exact .there sl12) (.cons (A := slc 2 s _) (by with_reducible first | exact sl0 | exact .there sl0 | exact .there sl1 | exact .there sl2 | exact .there sl3 | exact .there sl4 | exact .there sl5 | exact .there sl6 | exact .there sl7 | exact .there sl8 | exact .there sl9 | exact .there sl10 | exact .there sl11 | exact .there sl12) (.cons (A := lineP p _ _) (by with_reducible first | exact sl0 | exact .there sl0 | exact .there sl1 | exact .there sl2 | exact .there sl3 | exact .there sl4 | exact .there sl5 | exact .there sl6 | exact .there sl7 | exact .there sl8 | exact .there sl9 | exact .there sl10 | exact .there sl11 | exact .there sl12) (.cons (A := mpP m _) (by with_reducible first | exact sl0 | exact .there sl0 | exact .there sl1 | exact .there sl2 | exact .there sl3 | exact .there sl4 | exact .there sl5 | exact .there sl6 | exact .there sl7 | exact .there sl8 | exact .there sl9 | exact .there sl10 | exact .there sl11 | exact .there sl12) (.same _))))))))))
      exact h.drop.drop.drop.drop.drop.drop
    · have hw : w64 ((n : Int) + 1) = ((n + 1 : Nat) : Int) := by rw [w64_in (by omega) (by omega)]; rfl
      dsimp only
      rw [hw]
      have h := (Ok.emb (h) (.cons (A := pts b19 _) (by with_reducible first | exact sl0 | exact .there sl0 | exact .there sl1 | exact .there sl2 | exact .there sl3 | exact .there sl4 | exact .there sl5 | exact .there sl6 | exact .there sl7 | exact .there sl8 | exact .there sl9 | exact .there sl10 | exact .there sl11 | exact .there sl12) (.cons (A := pts b27 _) (by with_reducible first | exact sl0 | exact .there sl0 | exact .there sl1 | exact .there sl2 | exact .there sl3 | exact .there sl4 | exact .there sl5 | exact .there sl6 | exact .there sl7 | exact .there sl8 | exact .there sl9 | exact .there sl10 | exact .there sl11 | exact .there sl12) (.cons (A := slc 2 s _) (by with_reducible first | exact sl0 | exact .there sl0 | exact .there sl1 | exact .there sl2 | exact .there sl3 | exact .there sl4 | exact .there sl5 | exact .there sl6 | exact .there sl7 | exact .there sl8 | exact .there sl9 | exact .there sl10 | exact .there sl11 | exact .there sl12) (.cons (A := pts b1 _) (by with_reducible first | exact sl0 | exact .there sl0 | exact .there sl1 | exact .there sl2 | exact .there sl3 | exact .there sl4 | exact .there sl5 | exact .there sl6 | exact .there sl7 | exact .there sl8 | exact .there sl9 | exact .there sl10 | exact .there sl11 | exact .there sl12) (.cons (A := pts b3 _) (by with_reducible first | exact sl0 | exact .there sl0 | exact .there sl1 | exact .there sl2 | exact .there sl3 | exact .there sl4 | exact .there sl5 | exact .there sl6 | exact .there sl7 | exact .there sl8 | exact .there sl9 | exact .there sl10 | exact .there sl11 | exact .there sl12) (.cons (A := pts b5 _) (by with_reducible first | exact sl0 | exact .there sl0 | exact .there sl1 | exact .there sl2 | exact .there sl3 | exact .there sl4 | exact .there sl5 | exact .there sl6 | exact .there sl7 | exact .there sl8 | exact .there sl9 | exact .there sl10 | exact .there sl11 | exact .there sl12) (.cons (A := lineP p _ _) (by with_reducible first | exact sl0 | exact .there sl0 | exact .there sl1 | exact .there sl2 | exact .there sl3 | exact .there sl4 | exact .there sl5 | exact .there sl6 | exact .there sl7 | exact .there sl8 | exact .there sl9 | exact .there sl10 | exact .there sl11 | exact .there sl12) (.cons (A := mpP m _) (by with_reducible first | exact sl0 | exact .there sl0 | exact .there sl1 | exact .there sl2 | exact .there sl3 | exact .there sl4 | exact .there sl5 | exact .there sl6 | exact .there sl7 | exact .there sl8 | exact .there sl9 | exact .there sl10 | exact .there sl11 | exact .there sl12) (.same _))))))))))
      refine ⟨⟨n + 1, rfl, hlt, fun j hj q hq => ?_, h.drop.drop⟩, ?_⟩
      · rcases Nat.lt_or_ge j n with hm' | hm'
        · exact hno j hm' q hq
        · have : j = n := by omega
          subst this
          rw [hx] at hq
          cases hq
          exact hm
      · show S.length - Int.toNat ((n + 1 : Nat) : Int) < S.length - Int.toNat (n : Int)
        omega
  · have hge : S.length ≤ n := by have := of_decide_eq_false hge; dsimp only at this; omega
    (repeat (first | with_reducible refine dr.mk h fun _ h => ?_ | with_reducible refine nn.mk ?_ | ((first | with_reducible apply ldI.mk | with_reducible apply ldB.mk | with_reducible apply ldP.mk | with_reducible apply ldS.mk | with_reducible apply ldM.mk | with_reducible apply ldF.mk | with_reducible apply ldG.mk); (· exact (by refine Ok.cellS h (by with_reducible first | exact sl0 | exact .there sl0 | exact .there sl1 | exact .there sl2 | exact .there sl3 | exact .there sl4 | exact .there sl5 | exact .there sl6 | exact .there sl7 | exact .there sl8 | exact .there sl9 | exact .there sl10 | exact .there sl11 | exact .there sl12) ?_; rfl))) | (refine st1.mk (Ok.bring h (by with_reducible first | exact sl0 | exact .there sl0 | exact .there sl1 | exact .there sl2 | exact .there sl3 | exact .there sl4 | exact .there sl5 | exact .there sl6 | exact .there sl7 | exact .there sl8 | exact .there sl9 | exact .there sl10 | exact .there sl11 | exact .there sl12)) (by simp) fun _ h => ?_; dsimp only [List.set] at h)))
    refine ldS.mk (x := ⟨none, 0, 0⟩) (by refine Ok.cellS h (by with_reducible first | exact sl0 | exact .there sl0 | exact .there sl1 | exact .there sl2 | exact .there sl3 | exact .there sl4 | exact .there sl5 | exact .there sl6 | exact .there sl7 | exact .there sl8 | exact .there sl9 | exact .there sl10 | exact .there sl11 | exact .there sl12) ?_; rfl) ?_
    refine k0 (meetL_none fun j q hq => hno j (by have := (List.getElem?_eq_some_iff.1 hq).1; omega) q hq) _ ?_
    have h := (Ok.emb (h) (.cons (A := slc 2 s _) (by with_reducible first | exact sl0 | exact .there sl0 | exact .there sl1 | exact .there sl2 | exact .there sl3 | exact .there sl4 | exact .there sl5 | exact .there sl6 | exact .there sl7 | exact .there sl8 | exact .there sl9 | exact .there sl10 | exact .there sl11 | exact .there sl12) (.cons (A := pts b1 _) (by with_reducible first | exact sl0 | exact .there sl0 | exact .there sl1 | exact .there sl2 | exact .there sl3 | exact .there sl4 | exact .there sl5 | exact .there sl6 | exact .there sl7 | exact .there sl8 | exact .there sl9 | exact .there sl10 | exact .there sl11 | exact .there sl12) (.cons (A := pts b3 _) (by with_reducible first | exact sl0 | exact .there sl0 | exact .there sl1 | exact .there sl2 | exact .there sl3 | exact .there sl4 | exact .there sl5 | exact .there sl6 | exact .there sl7 | exact .there sl8 | exact .there sl9 | exact .there sl10 | exact .there sl11 | exact .there sl12) (.cons (A := pts b5 _) (by with_reducible first | exact sl0 | exact .there sl0 | exact .there sl1 | exact .there sl2 | exact .there sl3 | exact .there sl4 | exact .there sl5 | exact .there sl6 | exact .there sl7 | exact .there sl8 | exact .there sl9 | exact .there sl10 | exact .there sl11 | exact .there sl12) (.cons (A := lineP p _ _) (by with_reducible first | exact sl0 | exact .there sl0 | exact .there sl1 | exact .there sl2 | exact .there sl3 | exact .there sl4 | exact .there sl5 | exact .there sl6 | exact .there sl7 | exact .there sl8 | exact .there sl9 | exact .there sl10 | exact .there sl11 | exact .there sl12) (.cons (A := mpP m _) (by with_reducible first | exact sl0 | exact .there sl0 | exact .there sl1 | exact .there sl2 | exact .there sl3 | exact .there sl4 | exact .there sl5 | exact .there sl6 | exact .there sl7 | exact .there sl8 | exact .there sl9 | exact .there sl10 | exact .there sl11 | exact .there sl12) (.same _))))))))
    exact h.drop.drop.drop.drop

end Go.Proofs.Ytbhmejmkoefahaa.B
