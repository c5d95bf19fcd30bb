/- Contracts of the package mpl: pools of any sizes; gaps. -/
import Derived.Test.YtnghegppcogdbaaIds
import Derived.Test.YtnghegppcogdbaaOrder3
import Derived.Test.YtnghegppcogdbaaInts
import Derived.Test.YtnghegppcogdbaaSep5
namespace Go.Proofs.Ytnghegppcogdbaa.B
open Go
set_option linter.unusedVariables false

/-- what a block takes -/
def tk (n : Int) : Int := 8 + (n + 7) / 8 * 8

theorem Align8_nums {e w L z R} (h : Ok e L w) (hz : 0 ≤ z ∧ z ≤ 65536) (k : ∀ w', Ok e L w' → R [.int .i64 ((z + 7) / 8 * 8)] w') : sh76 z 8 R w := by
  unfold sh76
  refine jn.bool (false) (fun J hJ => ?_) ?_
  · refine cs.no (decide_eq_false (by omega)) ?_
    rw [show decide (z > 1073741824) = false from decide_eq_false (by omega)]
    exact hJ
  refine jn.bool (false) (fun J hJ => ?_) ?_
  · exact cs.no rfl hJ
  refine jn.bool (false) (fun J hJ => ?_) ?_
  · exact cs.no rfl hJ
  refine cs.no rfl (ob.mk (by decide) ?_)
  rw [w64_in (x := z + 8) (by omega) (by omega), w64_in (x := z + 8 - 1) (by omega) (by omega), Int.tdiv_eq_ediv_of_nonneg (by omega), w64_in (x := (z + 8 - 1) / 8) (by omega) (by omega), w64_in (by omega) (by omega), show z + 8 - 1 = z + 7 by omega]
  exact k _ h

theorem takes_mpl {e w L n R} (h : Ok e L w) (hn : 0 ≤ n ∧ n ≤ 65536) (k : ∀ w', Ok e L w' → R [.int .i64 (tk n)] w') : sh63 n R w := by
  unfold sh63
  refine call76 (Align8_nums h hn fun w1 h => ⟨((n + 7) / 8 * 8, ()), rfl, ?_⟩)
  dsimp only
  rw [w64_in (by omega) (by omega)]
  exact k w1 h

/-- where the i-th gap begins, ends -/
def frL (a : Int) : List (Int × Int) → Nat → Int
  | _, 0 => a
  | [], _ + 1 => a
  | b :: l, i + 1 => frL (b.1 + tk b.2) l i

def toL (hi : Int) : List (Int × Int) → Nat → Int
  | [], _ => hi
  | b :: _, 0 => b.1
  | _ :: l, i + 1 => toL hi l i

/-- the blocks stand one behind the other -/
def chL (hi : Int) : Int → List (Int × Int) → Prop
  | lo, [] => lo ≤ hi
  | lo, b :: l => lo ≤ b.1 ∧ 1 ≤ b.2 ∧ chL hi (b.1 + tk b.2) l

theorem frL_zero {a : Int} {l : List (Int × Int)} : frL a l 0 = a := by cases l <;> rfl

theorem frL_at : ∀ {a : Int} {l : List (Int × Int)} {i : Nat} {b : Int × Int}, l[i]? = some b → frL a l (i + 1) = b.1 + tk b.2
  | _, [], _, _, h => by simp at h
  | _, c :: l, 0, b, h => by
    simp only [List.getElem?_cons_zero, Option.some.injEq] at h
    subst h
    exact frL_zero
  | _, c :: l, i + 1, b, h => by
    simp only [List.getElem?_cons_succ] at h
    exact frL_at (a := c.1 + tk c.2) h

theorem toL_at : ∀ {hi : Int} {l : List (Int × Int)} {i : Nat} {b : Int × Int}, l[i]? = some b → toL hi l i = b.1
  | _, [], _, _, h => by simp at h
  | _, c :: l, 0, b, h => by
    simp only [List.getElem?_cons_zero, Option.some.injEq] at h
    subst h
    rfl
  | _, c :: l, i + 1, b, h => by
    simp only [List.getElem?_cons_succ] at h
    exact toL_at (l := l) (i := i) h

theorem toL_end : ∀ {hi : Int} {l : List (Int × Int)} {i : Nat}, l.length ≤ i → toL hi l i = hi
  | _, [], _, _ => rfl
  | _, c :: l, 0, h => by simp at h
  | _, c :: l, i + 1, h => toL_end (l := l) (by simpa using h)

theorem chL_mono {hi : Int} : ∀ {l : List (Int × Int)} {lo lo' : Int}, chL hi lo l → lo' ≤ lo → chL hi lo' l
  | [], _, _, h, hl => Int.le_trans hl h
  | _ :: _, _, _, h, hl => ⟨Int.le_trans hl h.1, h.2⟩

theorem tk_ge {n : Int} (h : 0 ≤ n) : n + 8 ≤ tk n ∧ tk n ≤ n + 15 := by unfold tk; omega

theorem chL_le {hi : Int} : ∀ {l : List (Int × Int)} {lo : Int}, chL hi lo l → lo + 16 * l.length ≤ hi
  | [], _, h => by simpa [chL] using h
  | b :: l, lo, h => by
    have h1 := chL_le h.2.2
    have h2 := h.1
    have h3 := h.2.1
    have h4 := tk_ge (n := b.2) (by omega)
    have h5 : 16 ≤ tk b.2 := by unfold tk; omega
    simp only [List.length_cons]
    omega

theorem chL_mem {hi : Int} : ∀ {l : List (Int × Int)} {lo : Int} {b : Int × Int}, chL hi lo l → b ∈ l → lo ≤ b.1 ∧ 1 ≤ b.2 ∧ b.1 + tk b.2 ≤ hi
  | [], _, _, _, h => by cases h
  | c :: l, lo, b, h, hm => by
    have h1 := chL_le h.2.2
    rcases List.mem_cons.1 hm with rfl | hm
    · exact ⟨h.1, h.2.1, by omega⟩
    · have h2 := chL_mem h.2.2 hm
      have h4 := tk_ge (n := c.2) (by have := h.2.1; omega)
      have := h.1
      have := h.2.1
      exact ⟨by omega, h2.2⟩

theorem chL_gap {hi : Int} : ∀ {l : List (Int × Int)} {lo : Int} {i : Nat}, chL hi lo l → i ≤ l.length → lo ≤ frL lo l i ∧ frL lo l i ≤ toL hi l i ∧ toL hi l i ≤ hi
  | [], lo, i, h, hi' => by
    have : i = 0 := by simpa using hi'
    subst this
    exact ⟨Int.le_refl _, h, Int.le_refl _⟩
  | c :: l, lo, 0, h, _ => by
    have h1 := chL_mem h (List.mem_cons_self ..)
    have h4 := tk_ge (n := c.2) (by omega)
    exact ⟨Int.le_refl _, h.1, by show c.1 ≤ hi; omega⟩
  | c :: l, lo, i + 1, h, hi' => by
    have h1 := chL_gap (i := i) h.2.2 (by simpa using hi')
    have h4 := tk_ge (n := c.2) (by have := h.2.1; omega)
    have := h.1
    have := h.2.1
    exact ⟨by show lo ≤ frL (c.1 + tk c.2) l i; omega, h1.2⟩

theorem chL_ins {hi n : Int} (hn : 1 ≤ n) : ∀ {l : List (Int × Int)} {lo : Int} {i : Nat}, chL hi lo l → i ≤ l.length → tk n ≤ toL hi l i - frL lo l i → chL hi lo (l.take i ++ [(frL lo l i, n)] ++ l.drop i)
  | [], lo, i, h, hi', hg => by
    have : i = 0 := by simpa using hi'
    subst this
    exact ⟨Int.le_refl _, hn, by have hg : tk n ≤ hi - lo := hg; show lo + tk n ≤ hi; omega⟩
  | c :: l, lo, 0, h, _, hg => by
    have hg : tk n ≤ c.1 - lo := hg
    exact ⟨Int.le_refl _, hn, by show lo + tk n ≤ c.1; omega, h.2⟩
  | c :: l, lo, i + 1, h, hi', hg => ⟨h.1, h.2.1, chL_ins hn h.2.2 (by simpa using hi') hg⟩

theorem chL_del {hi : Int} : ∀ {l : List (Int × Int)} {lo : Int} {i : Nat}, chL hi lo l → i < l.length → chL hi lo (l.take i ++ l.drop (i + 1))
  | [], _, _, _, h => by simp at h
  | c :: l, lo, 0, h, _ => by
    have h4 := tk_ge (n := c.2) (by have := h.2.1; omega)
    have := h.1
    have := h.2.1
    exact chL_mono h.2.2 (by omega)
  | c :: l, lo, i + 1, h, hi' => ⟨h.1, h.2.1, chL_del h.2.2 (by simpa using hi')⟩

/-- the first gap that is long enough, from the i-th on -/
def fitF (a hi : Int) (l : List (Int × Int)) (n : Int) : Nat → Nat → Option Nat
  | 0, _ => none
  | f + 1, i => if tk n ≤ toL hi l i - frL a l i then some i else fitF a hi l n f (i + 1)

def fitL (a hi : Int) (l : List (Int × Int)) (n : Int) : Option Nat := fitF a hi l n (l.length + 1) 0

theorem fitF_some {a hi n : Int} {l : List (Int × Int)} : ∀ {f i j : Nat}, fitF a hi l n f i = some j → i ≤ j ∧ j < i + f ∧ tk n ≤ toL hi l j - frL a l j
  | 0, _, _, h => by cases h
  | f + 1, i, j, h => by
    unfold fitF at h
    split at h
    · next h1 => cases h; exact ⟨Nat.le_refl _, by omega, h1⟩
    · have := fitF_some h; exact ⟨by omega, by omega, this.2.2⟩

theorem fitL_some {a hi n : Int} {l : List (Int × Int)} {j : Nat} (h : fitL a hi l n = some j) : j ≤ l.length ∧ tk n ≤ toL hi l j - frL a l j := by
  have := fitF_some h
  exact ⟨by omega, this.2.2⟩

/-- a block taken out of the first gap -/
def findL (a hi : Int) (l : List (Int × Int)) (n : Int) : (Int × Bool) × List (Int × Int) :=
  match fitL a hi l n with
  | some i => ((frL a l i + 8, true), l.take i ++ [(frL a l i, n)] ++ l.drop i)
  | none => ((0, false), l)

theorem findL_ok {a hi n : Int} {l : List (Int × Int)} (hn : 1 ≤ n) (h : chL hi a l) : chL hi a (findL a hi l n).2 := by
  unfold findL
  split
  · next i hi' => exact chL_ins hn h (fitL_some hi').1 (fitL_some hi').2
  · exact h

theorem slT_block : SlT Pg 42 2 := .of (by kernel_rfl)

theorem ov_block : OvT Pg 77 42 := ⟨Try.f77, 4, Try.func77, by kernel_rfl, by kernel_rfl, by kernel_rfl, by kernel_rfl⟩

theorem Delete_block {e w L s l R} {i : Int} (h : Ok e (slc 2 s (prs l) :: L) w) (hi : 0 ≤ i) (hil : i < l.length) (hb : l.length ≤ 2 ^ 31)
    (k : ∀ s' w', Ok e (slc 2 s' (prs (l.take i.toNat ++ l.drop (i.toNat + 1))) :: L) w' → R [vS s'] w') : sh37 s i (i + 1) R w := by
  unfold sh37
  have hl := slc_prs_len h
  refine del_body slT_block (by decide) h hi (by omega) (by omega) (by omega) fun s' w' _ h' => k s' w' ?_
  rw [prs_append, ← prs_take, ← prs_drop]
  rw [show (i + 1).toNat = i.toNat + 1 by omega] at h'
  exact h'

theorem Insert_block {e w L s x l R} {i : Int} {y : Int × Int} (h : Ok e (slc 2 x (prs [y]) :: slc 2 s (prs l) :: L) w) (hi : 0 ≤ i) (hil : i ≤ l.length) (hb : l.length ≤ 2 ^ 30)
    (k : ∀ s' w', Ok e (slc 2 s' (prs (l.take i.toNat ++ [y] ++ l.drop i.toNat)) :: L) w' → R [vS s'] w') : sh64 s i x R w := by
  unfold sh64
  have hl := slc_prs_len h.p1
  have hx := slc_prs_len h
  simp only [List.length_singleton] at hx
  refine ins_body (ki := .i64) slT_block (by kernel_rfl) ov_block (by decide) h hi (by omega) (by omega) (by omega) fun s' w' _ h' => k s' w' ?_
  rw [prs_append, prs_append, ← prs_take, ← prs_drop]
  exact h'

theorem Insert_block1 {e w L s c l R} {i : Nat} {y : Int × Int} (h : Ok e (pts c [.int .i64 y.1, .int .i64 y.2] :: slc 2 s (prs l) :: L) w) (hil : i ≤ l.length) (hb : l.length ≤ 2 ^ 30)
    (k : ∀ s' w', Ok e (slc 2 s' (prs (l.take i ++ [y] ++ l.drop i)) :: L) w' → R [vS s'] w') : sh64 s i ⟨some ⟨c, 0, none⟩, 1, 1⟩ R w :=
  Insert_block (i := (i : Int)) (Ok.slcNew (vs := prs [y]) h (n := 1) (sz := 2) rfl (prs_one [y])) (Int.natCast_nonneg _) (by omega) hb k

end Go.Proofs.Ytnghegppcogdbaa.B
