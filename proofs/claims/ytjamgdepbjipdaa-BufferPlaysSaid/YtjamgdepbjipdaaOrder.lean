/- Contracts of the package order: rows of pairs (who, priority). -/
import Derived.Test.YtjamgdepbjipdaaInts
import Derived.Test.YtjamgdepbjipdaaSep5
namespace Go.Proofs.Ytjamgdepbjipdaa.B
open Go
set_option linter.unusedVariables false

def prs (l : List (Int × Int)) : List Value := l.flatMap fun p => [.int .i64 p.1, .int .i64 p.2]

theorem prs_nil : prs [] = [] := rfl

theorem prs_cons (p : Int × Int) (l : List (Int × Int)) : prs (p :: l) = .int .i64 p.1 :: .int .i64 p.2 :: prs l := rfl

theorem prs_append (l m : List (Int × Int)) : prs (l ++ m) = prs l ++ prs m := by simp [prs]

theorem prs_len (l : List (Int × Int)) : (prs l).length = l.length * 2 := by
  induction l with
  | nil => rfl
  | cons p l ih => rw [prs_cons]; simp only [List.length_cons, ih]; omega

theorem prs_take (l : List (Int × Int)) (n : Nat) : (prs l).take (n * 2) = prs (l.take n) := by
  induction l generalizing n with
  | nil => simp [prs]
  | cons p l ih =>
    cases n with
    | zero => simp [prs]
    | succ n => rw [show (n + 1) * 2 = n * 2 + 1 + 1 by omega, List.take_succ_cons, prs_cons, prs_cons, List.take_succ_cons, List.take_succ_cons, ih]

theorem prs_drop (l : List (Int × Int)) (n : Nat) : (prs l).drop (n * 2) = prs (l.drop n) := by
  induction l generalizing n with
  | nil => simp [prs]
  | cons p l ih =>
    cases n with
    | zero => simp [prs]
    | succ n => rw [show (n + 1) * 2 = n * 2 + 1 + 1 by omega, List.drop_succ_cons, prs_cons, List.drop_succ_cons, List.drop_succ_cons, ih]

theorem prs_one (l : List (Int × Int)) : ∀ v ∈ prs l, v.oneCell' = true := by
  intro v hv
  obtain ⟨p, _, h⟩ := List.mem_flatMap.1 hv
  simp only [List.mem_cons, List.not_mem_nil, or_false] at h
  rcases h with rfl | rfl <;> rfl

theorem prs_get {l : List (Int × Int)} {i : Nat} {p : Int × Int} (h : l[i]? = some p) : (prs l)[i * 2]? = some (.int .i64 p.1) ∧ (prs l)[i * 2 + 1]? = some (.int .i64 p.2) := by
  induction l generalizing i with
  | nil => simp at h
  | cons q l ih =>
    cases i with
    | zero => simp at h; subst h; exact ⟨rfl, rfl⟩
    | succ i =>
      have := ih (i := i) (by simpa using h)
      rw [prs_cons, show (i + 1) * 2 = i * 2 + 1 + 1 by omega]
      simpa using this

theorem prs_set {l : List (Int × Int)} {i : Nat} {p : Int × Int} {y : Int} (h : l[i]? = some p) : (prs l).set (i * 2 + 1) (.int .i64 y) = prs (l.set i (p.1, y)) := by
  induction l generalizing i with
  | nil => simp at h
  | cons q l ih =>
    cases i with
    | zero => simp at h; subst h; rfl
    | succ i =>
      have := ih (i := i) (by simpa using h)
      rw [prs_cons, show (i + 1) * 2 + 1 = i * 2 + 1 + 1 + 1 by omega, List.set_cons_succ, List.set_cons_succ, this]
      rfl

theorem slc_prs_len {e w L s l} (h : Ok e (slc 2 s (prs l) :: L) w) : s.len = l.length := by
  have := h.slc_len
  rw [prs_len] at this
  omega

/-- an element of a row of pairs -/
theorem ix_pr {e w L s l} {i : Int} {f : Nat → Nat → Prop} (h : Ok e (slc 2 s (prs l) :: L) w) (h0 : 0 ≤ i) (h1 : i < l.length)
    (k : ∀ b o p, l[i.toNat]? = some p → s.a = some ⟨b, 0, none⟩ → o = i.toNat * 2 → (∀ w', (∃ L', Ok e (slc 2 s (prs l) :: L') w') → w'.cell? ⟨b, o, none⟩ = some (.int .i64 p.1)) → (∀ w', (∃ L', Ok e (slc 2 s (prs l) :: L') w') → w'.cell? ⟨b, o + 1, none⟩ = some (.int .i64 p.2)) → f b o) : ix s i 2 f := by
  have hl := slc_prs_len h
  obtain ⟨-, -, hc, hcase⟩ := h.slcE
  rcases hcase with ⟨ha, hcap, hL⟩ | ⟨b, post, ha, hp, hk⟩
  · omega
  · have hlt : i.toNat < l.length := by omega
    have hg := prs_get (List.getElem?_eq_getElem hlt)
    refine ⟨b, 0, ha, h0, by omega, k b _ _ (List.getElem?_eq_getElem hlt) ha (by omega) ?_ ?_⟩
    · rintro w' ⟨L', h'⟩
      have := h'.slc_cells ha _ _ hg.1
      rw [Addr.add_lit] at this
      exact this
    · rintro w' ⟨L', h'⟩
      have := h'.slc_cells ha _ _ hg.2
      rw [Addr.add_lit] at this
      exact this

/-- where someone stands -/
def atI (l : List (Int × Int)) (id : Int) : Int := match l.findIdx? (fun p => p.1 == id) with
  | some i => (i : Int)
  | none => -1

theorem atI_none {l : List (Int × Int)} {id : Int} (h : ∀ p ∈ l, p.1 ≠ id) : atI l id = -1 := by
  have : l.findIdx? (fun p => p.1 == id) = none := by
    rw [List.findIdx?_eq_none_iff]
    intro p hp
    simpa using h p hp
  simp [atI, this]

theorem atI_some {l : List (Int × Int)} {id : Int} {n : Nat} {p : Int × Int} (h : l[n]? = some p) (hp : p.1 = id) (hn : ∀ m, m < n → ∀ q, l[m]? = some q → q.1 ≠ id) : atI l id = n := by
  have : l.findIdx? (fun p => p.1 == id) = some n := by
    rw [List.findIdx?_eq_some_iff_getElem]
    have hlt := (List.getElem?_eq_some_iff.1 h).1
    have hv := (List.getElem?_eq_some_iff.1 h).2
    refine ⟨hlt, by rw [hv]; simpa using hp, fun j hj => ?_⟩
    have := hn j hj _ (List.getElem?_eq_getElem (by omega))
    simpa using this
  simp [atI, this]

theorem atI_lt {l : List (Int × Int)} {id : Int} (h : 0 ≤ atI l id) : (atI l id).toNat < l.length ∧ ∃ p, l[(atI l id).toNat]? = some p ∧ p.1 = id := by
  unfold atI at h ⊢
  split at h
  · next i hi =>
    obtain ⟨hlt, hp, _⟩ := List.findIdx?_eq_some_iff_getElem.1 hi
    exact ⟨by simpa using hlt, l[i], List.getElem?_eq_getElem hlt, by simpa using hp⟩
  · omega

theorem atI_bd (l : List (Int × Int)) (id : Int) : -1 ≤ atI l id ∧ (atI l id < 0 → atI l id = -1) := by
  unfold atI
  split <;> constructor <;> omega

theorem slT_item : SlT Pg 82 2 := .of (by kernel_rfl)

theorem Clone_item {e w L s vs R} (h : Ok e (slc 2 s vs :: L) w) (hb : s.len ≤ 2 ^ 31) (k : ∀ s' w', s'.len = s.len → Ok e (slc 2 s' vs :: slc 2 s vs :: L) w' → R [vS s'] w') : sh79 s R w := by
  unfold sh79
  obtain ⟨hl, hv, hc, hcase⟩ := h.slcE
  refine cs.mk (fun hn => ?_) (fun hn => ?_)
  · rcases hcase with ⟨ha, hcap, hL⟩ | ⟨b, post, ha, hp, hk⟩
    · have h0 : s.len = 0 := by omega
      have : vs = [] := List.eq_nil_of_length_eq_zero (by rw [hl, h0])
      subst this
      exact k ⟨none, 0, 0⟩ w h0.symm (h.slcNil 2)
    · rw [ha] at hn; cases hn
  · refine al.mk h fun b w1 h1 => ?_
    have h2 := h1.slcNew (n := 0) (sz := 2) rfl (by simp)
    refine ef.append2 slT_item (by decide) h2 (by simp only; omega) fun s' w2 hl2 h3 => ?_
    exact k s' w2 (by simpa using hl2) (by simpa using h3)

theorem Clip_item {e w L s vs R} (h : Ok e (slc 2 s vs :: L) w) (k : ∀ s' w', s'.len = s.len → Ok e (slc 2 s' vs :: L) w' → R [vS s'] w') : sh86 s R w := by
  unfold sh86
  exact sb.clip h fun s' hl h' => k s' w hl h'

theorem ov_item : OvT Pg 88 82 := ⟨Try.f88, 4, Try.func88, by kernel_rfl, by kernel_rfl, by kernel_rfl, by kernel_rfl⟩

theorem Delete_item {e w L s l R} {i : Int} (h : Ok e (slc 2 s (prs l) :: L) w) (hi : 0 ≤ i) (hil : i < l.length) (hb : l.length ≤ 2 ^ 31)
    (k : ∀ s' w', Ok e (slc 2 s' (prs (l.take i.toNat ++ l.drop (i.toNat + 1))) :: L) w' → R [vS s'] w') : sh76 s i (i + 1) R w := by
  unfold sh76
  have hl := slc_prs_len h
  refine del_body slT_item (by decide) h hi (by omega) (by omega) (by omega) fun s' w' _ h' => k s' w' ?_
  rw [prs_append, ← prs_take, ← prs_drop]
  rw [show (i + 1).toNat = i.toNat + 1 by omega] at h'
  exact h'

theorem Insert_item {e w L s x l R} {i : Int} {y : Int × Int} (h : Ok e (slc 2 x (prs [y]) :: slc 2 s (prs l) :: L) w) (hi : 0 ≤ i) (hil : i ≤ l.length) (hb : l.length ≤ 2 ^ 30)
    (k : ∀ s' w', Ok e (slc 2 s' (prs (l.take i.toNat ++ [y] ++ l.drop i.toNat)) :: L) w' → R [vS s'] w') : sh83 s i x R w := by
  unfold sh83
  have hl := slc_prs_len h.p1
  have hx := slc_prs_len h
  simp only [List.length_singleton] at hx
  refine ins_body (ki := .i64) slT_item (by kernel_rfl) ov_item (by decide) h hi (by omega) (by omega) (by omega) fun s' w' _ h' => k s' w' ?_
  rw [prs_append, prs_append, ← prs_take, ← prs_drop]
  exact h'

end Go.Proofs.Ytjamgdepbjipdaa.B
