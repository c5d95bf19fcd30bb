/- What a message buffer has. -/
import Derived.Test.YtjamgdepbjipdaaRing
import Derived.Test.YtjamgdepbjipdaaIds
import Derived.Test.YtjamgdepbjipdaaOrder3
namespace Go.Proofs.Ytjamgdepbjipdaa.B
open Go
set_option linter.unusedVariables false

def updI {α : Type} (g : Int → α) (i : Int) (x : α) : Int → α := fun j => if j = i then x else g j

theorem updI_same {α : Type} {g : Int → α} {i : Int} {x : α} : updI g i x i = x := if_pos rfl

theorem updI_other {α : Type} {g : Int → α} {i j : Int} {x : α} (h : j ≠ i) : updI g i x j = g j := if_neg h

def bagP (σ : Int → Sl) (s : Int → List UInt8) (I : List Int) : SP := oksH (I.map fun i => rdb (σ i) (s i))

theorem bag_nil {e w L σ s} (h : Ok e L w) : Ok e (bagP σ s [] :: L) w := Ok.pack (M := []) h

theorem bag_take {e w L σ s I i} (h : Ok e (bagP σ s (i :: I) :: L) w) : Ok e (rdb (σ i) (s i) :: bagP σ s I :: L) w := by
  have h := h.unpack
  simp only [List.map_cons, List.cons_append] at h
  have h2 : Ok e ((I.map fun i => rdb (σ i) (s i)) ++ (rdb (σ i) (s i) :: L)) w := h.perm (by
    have := List.perm_middle (a := rdb (σ i) (s i)) (l₁ := I.map fun i => rdb (σ i) (s i)) (l₂ := L)
    exact this.symm)
  exact (Ok.pack h2).p1

theorem bag_put {e w L σ s I i} (h : Ok e (rdb (σ i) (s i) :: bagP σ s I :: L) w) : Ok e (bagP σ s (i :: I) :: L) w := by
  have h := h.p1.unpack
  refine Ok.pack (M := (i :: I).map fun i => rdb (σ i) (s i)) ?_
  simp only [List.map_cons, List.cons_append]
  exact h.perm List.perm_middle

theorem bag_perm {e w L σ s I J} (p : I.Perm J) (h : Ok e (bagP σ s I :: L) w) : Ok e (bagP σ s J :: L) w :=
  Ok.pack (M := J.map fun i => rdb (σ i) (s i)) (h.unpack.perm ((p.map _).append_right L))

theorem bag_congr {e w L σ s σ' s' I} (hc : ∀ i ∈ I, σ i = σ' i ∧ s i = s' i) (h : Ok e (bagP σ s I :: L) w) : Ok e (bagP σ' s' I :: L) w := by
  have : (I.map fun i => rdb (σ i) (s i)) = I.map fun i => rdb (σ' i) (s' i) := List.map_congr_left fun i hi => by rw [(hc i hi).1, (hc i hi).2]
  unfold bagP at h
  rw [this] at h
  exact h

/-- a row's bytes, looked at where they are -/
theorem bag_rd {e w L σ s I i} (h : Ok e (bagP σ s I :: L) w) (hi : i ∈ I) : RdB e (bagP σ s I) (σ i) (s i) := by
  obtain ⟨J, p⟩ : ∃ J, I.Perm (i :: J) := by
    obtain ⟨l1, l2, rfl⟩ := List.append_of_mem hi
    exact ⟨l1 ++ l2, List.perm_middle⟩
  have r := rdb_rd (bag_take (bag_perm p h))
  exact r.mono fun L w h => ⟨_, bag_take (bag_perm p h)⟩

/-! ### what it computes -/
structure BB where
  M : List (List UInt8)
  S : List (Int × Int)
  R : List (Int × Int)
  s : Int → List UInt8

structure BBo (z : Nat) (q : BB) : Prop where
  zb : z ≤ 65536
  sz : szR q.M ≤ z
  ml : ∀ l ∈ q.M, l.length ≤ 1024
  s : okL q.S
  r : okL q.R
  sl : ∀ i ∈ ids q.S, (q.s i).length ≤ 1024
  or : q.R = [] ∨ q.S = []

def fillB (z : Nat) (s : Int → List UInt8) : List (Int × Int) → List (List UInt8) → List Int × List (Int × Int) × List (List UInt8)
  | [], M => ([], [], M)
  | x :: S, M => if fitR z M ((s x.1).length : Nat) = true then (x.1 :: (fillB z s S (M ++ [s x.1])).1, (fillB z s S (M ++ [s x.1])).2) else ([], x :: S, M)

def BB.fill (z : Nat) (q : BB) : List Int × BB := ((fillB z q.s q.S q.M).1, ⟨(fillB z q.s q.S q.M).2.2, (fillB z q.s q.S q.M).2.1, q.R, q.s⟩)

def BB.trySend (z : Nat) (most : Int) (q : BB) (l : List UInt8) : (Bool × Int × Int) × BB :=
  if (l.length : Int) < 1 ∨ (l.length : Int) > most then ((false, 0, -17), q)
  else match q.R with
    | x :: R => ((true, x.1, 0), ⟨q.M, q.S, R, q.s⟩)
    | [] => if q.S = [] ∧ fitR z q.M (l.length : Nat) = true then ((true, 0, 0), ⟨q.M ++ [l], q.S, [], q.s⟩) else ((false, 0, 0), q)

def BB.send (z : Nat) (most : Int) (byPri : Bool) (q : BB) (t pri : Int) (l : List UInt8) : (Bool × Int × Int) × BB :=
  if (q.trySend z most l).1.1 = true ∨ (q.trySend z most l).1.2.2 ≠ 0 then q.trySend z most l
  else if (addL byPri q.S t pri).1 = 0 then ((false, 0, 0), ⟨q.M, (addL byPri q.S t pri).2, q.R, updI q.s t l⟩)
  else ((false, 0, (addL byPri q.S t pri).1), q)

abbrev GotR := List UInt8 × Bool × List Int

def BB.tryRecv (z : Nat) (q : BB) : GotR × BB :=
  match q.M, q.S with
  | l :: M, _ => ((l, true, (BB.fill z ⟨M, q.S, q.R, q.s⟩).1), (BB.fill z ⟨M, q.S, q.R, q.s⟩).2)
  | [], x :: S => ((q.s x.1, true, [x.1]), ⟨[], S, q.R, q.s⟩)
  | [], [] => (([], false, []), q)

def BB.recv (z : Nat) (q : BB) (t pri : Int) : (GotR × Int) × BB :=
  if (q.tryRecv z).1.2.1 = true then (((q.tryRecv z).1, 0), (q.tryRecv z).2)
  else ((([], false, []), (addL false q.R t pri).1), ⟨q.M, q.S, (addL false q.R t pri).2, q.s⟩)

def BB.drop (z : Nat) (q : BB) (t : Int) : List Int × BB :=
  if 0 ≤ atI q.R t then ([], ⟨q.M, q.S, rmL q.R t, q.s⟩)
  else if 0 ≤ atI q.S t then BB.fill z ⟨q.M, rmL q.S t, q.R, q.s⟩ else ([], q)

def BB.change (z : Nat) (byPri : Bool) (q : BB) (t pri : Int) : (List Int × Bool) × BB :=
  if (chgL byPri q.S t pri).1 = true then (((BB.fill z ⟨q.M, (chgL byPri q.S t pri).2, q.R, q.s⟩).1, true), (BB.fill z ⟨q.M, (chgL byPri q.S t pri).2, q.R, q.s⟩).2)
  else (([], (chgL false q.R t pri).1), ⟨q.M, q.S, (chgL false q.R t pri).2, q.s⟩)

/-- may such a buffer be? -/
def mkB' (most n : Int) : Prop := 1 ≤ most ∧ most ≤ 1024 ∧ 0 ≤ n ∧ n ≤ 65536 ∧ n % 4 = 0

def bb0 : BB := ⟨[], [], [], fun _ => []⟩

theorem bb0_ok {z : Nat} (h : z ≤ 65536) : BBo z bb0 := ⟨h, Nat.zero_le _, fun l hl => by simp [bb0] at hl, okL_nil, okL_nil, fun i hi => by simp [bb0] at hi, .inl rfl⟩

theorem fitR_le {z : Nat} {M : List (List UInt8)} {n : Nat} (h : fitR z M (n : Nat) = true) : n ≤ 1024 ∧ szR M + tk n ≤ z := by
  unfold fitR at h
  have := of_decide_eq_true h
  rw [Int.toNat_natCast] at this
  omega

theorem put_fit {z : Nat} {q : BB} {l : List UInt8} (h : BBo z q) (hf : fitR z q.M (l.length : Nat) = true) : BBo z ⟨q.M ++ [l], q.S, q.R, q.s⟩ := by
  obtain ⟨h1, h2⟩ := fitR_le hf
  refine ⟨h.zb, by show szR (q.M ++ [l]) ≤ z; rw [szR_snoc]; exact h2, fun x hx => ?_, h.s, h.r, h.sl, h.or⟩
  rcases List.mem_append.1 hx with hx | hx
  · exact h.ml x hx
  · rw [List.mem_singleton.1 hx]; exact h1

theorem BBo.tailS {z : Nat} {M : List (List UInt8)} {x : Int × Int} {S R : List (Int × Int)} {s : Int → List UInt8} (h : BBo z ⟨M, x :: S, R, s⟩) : BBo z ⟨M, S, R, s⟩ :=
  ⟨h.zb, h.sz, h.ml, (okL_tail h.s).1, h.r, fun i hi => h.sl i (List.mem_cons_of_mem _ hi), h.or.imp id fun hn => absurd hn (List.cons_ne_nil _ _)⟩

theorem fillB_ok {z : Nat} {s : Int → List UInt8} {R : List (Int × Int)} : ∀ {S : List (Int × Int)} {M : List (List UInt8)}, BBo z ⟨M, S, R, s⟩ → BBo z ⟨(fillB z s S M).2.2, (fillB z s S M).2.1, R, s⟩
  | [], M, h => h
  | x :: S, M, h => by
    unfold fillB
    split
    · next hf => exact fillB_ok (BBo.tailS (put_fit (q := ⟨M, x :: S, R, s⟩) h hf))
    · exact h

theorem fill_ok {z : Nat} {q : BB} (h : BBo z q) : BBo z (q.fill z).2 := fillB_ok (M := q.M) (S := q.S) h

theorem fill_nil {z : Nat} {q : BB} (h : q.S = []) : q.fill z = ([], q) := by
  obtain ⟨M, S, R, s⟩ := q
  dsimp only at h
  subst h
  rfl

theorem trySend_ok {z : Nat} {most : Int} {q : BB} {l : List UInt8} (h : BBo z q) : BBo z (q.trySend z most l).2 := by
  unfold BB.trySend
  split
  · exact h
  · split
    · next x R he =>
      have hr := h.r
      rw [he] at hr
      refine ⟨h.zb, h.sz, h.ml, h.s, (okL_tail hr).1, h.sl, .inr ?_⟩
      rcases h.or with h1 | h1
      · rw [he] at h1; cases h1
      · exact h1
    · next he =>
      split
      · next hc =>
        have := put_fit h hc.2
        rw [he] at this
        exact this
      · exact h

theorem trySend_no {z : Nat} {most : Int} {q : BB} {l : List UInt8} (h : ¬ ((q.trySend z most l).1.1 = true ∨ (q.trySend z most l).1.2.2 ≠ 0)) : q.trySend z most l = ((false, 0, 0), q) ∧ q.R = [] ∧ ((l.length : Int) ≤ most) := by
  unfold BB.trySend at h ⊢
  split at h
  · next h1 => exact absurd (.inr (show (-17 : Int) ≠ 0 by decide)) h
  · next h1 =>
    rw [if_neg h1]
    split at h
    · exact absurd (.inl rfl) h
    · next he =>
      split at h
      · exact absurd (.inl rfl) h
      · next h2 => simp only [he, if_neg h2]; exact ⟨trivial, trivial, by omega⟩

theorem send_ok {z : Nat} {most : Int} {byPri : Bool} {q : BB} {t pri : Int} {l : List UInt8} (h : BBo z q) (hm : most ≤ 1024) : BBo z (q.send z most byPri t pri l).2 := by
  unfold BB.send
  split
  · exact trySend_ok h
  · next h1 =>
    obtain ⟨h2, h3, h4⟩ := trySend_no h1
    split
    · next h0 =>
      obtain ⟨h5, h6, h7⟩ := addL_zero h0
      refine ⟨h.zb, h.sz, h.ml, okL_add h.s, h.r, fun i hi => ?_, .inl h3⟩
      show (updI q.s t l i).length ≤ _
      by_cases hit : i = t
      · rw [hit, updI_same]; omega
      · rw [updI_other hit]
        rcases addL_mem hi with h8 | h8
        · exact absurd h8.2 hit
        · exact h.sl i h8
    · exact h

theorem BBo.tailM {z : Nat} {l : List UInt8} {M : List (List UInt8)} {S R : List (Int × Int)} {s : Int → List UInt8} (h : BBo z ⟨l :: M, S, R, s⟩) : BBo z ⟨M, S, R, s⟩ :=
  ⟨h.zb, by have := h.sz; dsimp only at this ⊢; rw [szR_cons] at this; omega, fun x hx => h.ml x (List.mem_cons_of_mem _ hx), h.s, h.r, h.sl, h.or⟩

theorem tryRecv_ok {z : Nat} {q : BB} (h : BBo z q) : BBo z (q.tryRecv z).2 := by
  obtain ⟨M, S, R, s⟩ := q
  cases M with
  | cons l M => exact fill_ok h.tailM
  | nil =>
    cases S with
    | cons x S => exact h.tailS
    | nil => exact h

theorem tryRecv_no {z : Nat} {q : BB} (h : (q.tryRecv z).1.2.1 = false) : q.tryRecv z = (([], false, []), q) ∧ q.S = [] ∧ q.M = [] := by
  obtain ⟨M, S, R, s⟩ := q
  cases M with
  | cons l M => cases h
  | nil =>
    cases S with
    | cons x S => cases h
    | nil => exact ⟨rfl, rfl, rfl⟩

theorem recv_ok {z : Nat} {q : BB} {t pri : Int} (h : BBo z q) : BBo z (q.recv z t pri).2 := by
  unfold BB.recv
  split
  · exact tryRecv_ok h
  · next h1 =>
    obtain ⟨h2, h3, h4⟩ := tryRecv_no (Bool.eq_false_iff.2 h1)
    exact ⟨h.zb, h.sz, h.ml, h.s, okL_add h.r, h.sl, .inr h3⟩

theorem rmS_ok {z : Nat} {q : BB} {t : Int} (h : BBo z q) : BBo z ⟨q.M, rmL q.S t, q.R, q.s⟩ :=
  ⟨h.zb, h.sz, h.ml, okL_rm h.s, h.r, fun i hi => h.sl i (((rmL_sub q.S t).map Prod.fst).subset hi), h.or.imp id fun hn => by
    rw [hn]; exact List.sublist_nil.1 (rmL_sub [] t)⟩

theorem rmR_ok {z : Nat} {q : BB} {t : Int} (h : BBo z q) : BBo z ⟨q.M, q.S, rmL q.R t, q.s⟩ :=
  ⟨h.zb, h.sz, h.ml, h.s, okL_rm h.r, h.sl, h.or.imp (fun hn => by
    rw [hn]; exact List.sublist_nil.1 (rmL_sub [] t)) id⟩

theorem drop_ok {z : Nat} {q : BB} {t : Int} (h : BBo z q) : BBo z (q.drop z t).2 := by
  unfold BB.drop
  split
  · exact rmR_ok h
  · split
    · exact fill_ok (rmS_ok h)
    · exact h

theorem chgL_nil {byPri : Bool} {l : List (Int × Int)} {t pri : Int} (h : l = []) : (chgL byPri l t pri).2 = [] := by
  have := chgL_ids (byPri := byPri) (l := l) (id := t) (pri := pri)
  rw [h] at this ⊢
  have := List.Perm.eq_nil this
  exact List.map_eq_nil_iff.1 this

theorem chgS_ok {z : Nat} {byPri : Bool} {q : BB} {t pri : Int} (h : BBo z q) : BBo z ⟨q.M, (chgL byPri q.S t pri).2, q.R, q.s⟩ :=
  ⟨h.zb, h.sz, h.ml, okL_chg h.s, h.r, fun i hi => h.sl i (chgL_ids.mem_iff.1 hi), h.or.imp id chgL_nil⟩

theorem change_ok {z : Nat} {byPri : Bool} {q : BB} {t pri : Int} (h : BBo z q) : BBo z (q.change z byPri t pri).2 := by
  unfold BB.change
  split
  · exact fill_ok (chgS_ok h)
  · exact ⟨h.zb, h.sz, h.ml, h.s, okL_chg h.r, h.sl, h.or.imp chgL_nil id⟩

end Go.Proofs.Ytjamgdepbjipdaa.B
