/- Texts of ours, joined: Mtx3, Mtx4, Mtx5, Mtx6, Hp, Tmr, Tmr2, Tmr3, Hnd, Rdy3, Ref4, Same4, Sem11, Ker, Ker2, Ker3, Ker4, Ctx2, Ker5, Cal. -/
import Derived.Deep.Slices
import Derived.Test.YtenonfkfoedfmaaGreatDoorJTopC4
set_option linter.unusedSimpArgs false
set_option linter.unusedVariables false
/- Contracts of the package mtx: made; locked. -/
namespace Go.Proofs.YtenonfkfoedfmaaGreatDoor.B
open Go
set_option linter.unusedVariables false

theorem slT_mutex : SlT Pg 151 4 := .of (by kernel_rfl)

def zTok (P : Program) (t : TypeId) : Option (Array Value) :=
  match P.underlying t with
  | some (.slice el) => (P.info? el).bind fun i => i.zero.map Value.cells
  | _ => none

theorem z_mutex : zTok Pg 151 = some #[.int .i64 0, .int .i64 0, .int .i64 0, .slice none 0 0] := by kernel_rfl

theorem made_first {z : Array Value} {c : Nat} (hz : 0 < z.size) (hc : 0 < c) : ∃ post, (madeCells z (c * z.size)).toList = z.toList ++ post ∧ z.size + post.length = c * z.size := by
  have hlen : (madeCells z (c * z.size)).toList.length = c * z.size := by simp [madeCells]
  have hle : z.size ≤ c * z.size := Nat.le_mul_of_pos_left _ hc
  refine ⟨(madeCells z (c * z.size)).toList.drop z.size, ?_, ?_⟩
  · rw [← List.take_append_drop z.size (madeCells z (c * z.size)).toList]
    congr 1
    · apply List.ext_getElem
      · rw [List.length_take, hlen]; simp; omega
      · intro j h1 h2
        have hj : j < z.size := by simpa using h2
        simp [madeCells, Nat.mod_eq_of_lt hj, hj]
    · rw [List.take_append_drop]
  · rw [List.length_drop, hlen]; omega

theorem ef.make1 {e w L} {sz : Nat} {t : TypeId} {c : Int} {z : List Value} {K : TK [kS] → World → Prop} (T : SlT Pg t sz) (hsz : 0 < sz) (hz : zTok Pg t = some z.toArray) (h1 : ∀ v ∈ z, v.oneCell' = true) (h : Ok e L w) (hc : 1 ≤ c ∧ c ≤ 1000)
    (k : ∀ s w', s.len = 1 → Ok e (slc sz s z :: L) w' → K (s, ()) w') : ef Pg (Instr.makeSlice t (.int .i64 1) (.int .i64 c)) [kS] w K := by
  obtain ⟨el, i, z0, ht, hi, hz0, hs, hby, hzs, -⟩ := T.ex
  have hzz : z0.cells = z.toArray := by
    unfold zTok at hz
    rw [ht] at hz
    simp only [hi, Option.bind_some, hz0, Option.map_some] at hz
    exact Option.some.inj hz
  have hzl : z.length = sz := by rw [← hzs, hzz]; simp
  have hr := run_make (P := Pg) w t el i z0 ht hi hz0 .i64 .i64 1 c (by omega) (by omega) (by
    have : (i.bytes : Int) * c ≤ 1024 * 1000 := Int.mul_le_mul (by omega) (by omega) (by omega) (by omega)
    omega) (by omega)
  refine ⟨(⟨some ⟨w.heap.size, 0, Option.none⟩, 1, c.toNat⟩, ()), _, hr, k _ _ rfl ?_⟩
  obtain ⟨post, hp1, hp2⟩ := made_first (z := z0.cells) (c := c.toNat) (by omega) (by omega)
  have e1 : madeCells z0.cells (c.toNat * i.size) = (z ++ post).toArray := by
    apply Array.ext'
    rw [hs, ← hzs, hp1, hzz]
  rw [e1]
  refine (h.alloc el (z ++ post)).slcI rfl (by simp [hzl]) h1 (by simp only; omega) ?_
  simp only
  rw [hzl, ← hzs, hp2]
  exact Nat.le_refl _

abbrev kdC (k : Int × Int) : List Value := [.int .i64 k.1, .int .i64 k.2]

theorem kdC_len (k : Int × Int) : (kdC k).length = 2 := rfl

theorem right_mtx {e w L R} {x : Int × Int} (h : Ok e L w) (k : ∀ w', Ok e L w' → R [.bool (MM.right x)] w') : sh61 (x.1, x.2, ()) R w := by
  unfold sh61
  refine al.mk h fun b w1 h => ldI.mk (h.cell rfl) ?_
  refine jn.bool (decide (x.1 = 0 ∨ x.1 = 1 ∨ x.1 = 2)) (fun J hJ => cs.mk (fun h1 => ?_) (fun h1 => ?_)) ?_
  · have h1 : x.1 = 0 := by simpa using h1
    rw [decide_eq_true (.inl h1)] at hJ
    exact hJ
  · have h1 : ¬ x.1 = 0 := by simpa using h1
    refine jn.bool (decide (x.1 = 1 ∨ x.1 = 2)) (fun J2 hJ2 => cs.mk (fun h2 => ?_) (fun h2 => ?_)) ?_
    · have h2 : x.1 = 1 := by simpa using h2
      rw [decide_eq_true (.inl h2)] at hJ2
      exact hJ2
    · have h2 : ¬ x.1 = 1 := by simpa using h2
      rw [show ((x.1 : Int) == (2 : Int)) = decide (x.1 = 1 ∨ x.1 = 2) by rw [Bool.eq_iff_iff]; simp [h2]]
      exact hJ2
    · rw [show decide (x.1 = 1 ∨ x.1 = 2) = decide (x.1 = 0 ∨ x.1 = 1 ∨ x.1 = 2) from decide_eq_decide.2 (by omega)]
      exact hJ
  · refine cs.mk (fun h1 => ?_) (fun h1 => ?_)
    · have h1 := of_decide_eq_true h1
      refine ldI.mk (h.cell rfl) ?_
      have := k w1 h.drop
      rw [show MM.right x = ((x.2 : Int) == (0 : Int)) by
        unfold MM.right
        rw [Bool.eq_iff_iff]
        simp only [decide_eq_true_eq, beq_iff_eq]
        omega] at this
      exact this
    · have h1 := of_decide_eq_false h1
      refine cs.mk (fun h2 => ?_) (fun h2 => ?_)
      · have h2 : x.1 = 3 := by simpa using h2
        refine ldI.mk (h.cell rfl) ?_
        refine call63 (may_mtx ⟨(decide (1 ≤ x.2 ∧ x.2 ≤ 16), ()), rfl, ?_⟩)
        have := k w1 h.drop
        rw [show MM.right x = decide (1 ≤ x.2 ∧ x.2 ≤ 16) from decide_eq_decide.2 (by omega)] at this
        exact this
      · have h2 : ¬ x.1 = 3 := by simpa using h2
        have := k w1 h.drop
        rw [show MM.right x = false from decide_eq_false (by omega)] at this
        exact this

theorem starN_nil {e w L} (n : Nat) (h : Ok e L w) : Ok e (oksH (starN n fun _ => slc 1 ⟨none, 0, 0⟩ (ints [])) :: L) w := by
  induction n with
  | zero => exact star_zero h
  | succ n ih => exact star_snoc (F := fun _ => slc 1 ⟨none, 0, 0⟩ (ints [])) (ih.slcNil 1)

/-- mutexes are made; A: where their kinds are read from -/
theorem New_mtx {e w L R} {x : Sl} {l : List (Int × Int)} (h : Ok e (slc 2 x (flat kdC l) :: L) w) (hl : l.length ≤ 8) (hr : ∀ y ∈ l, MM.right y = true)
    (k : ∀ a w', Ok e (mmP a (MM.new l) :: slc 2 x (flat kdC l) :: L) w' → R [.pointer (some ⟨a, 0, none⟩), .int .i64 0] w') : sh30 x R w := by
  unfold sh30
  have hxl : l.length = x.len := slc_flat_len kdC_len (by decide) h
  refine cs.no (by simp; omega) ?_
  rw [w64_in (by omega) (by omega)]
  refine ef.make1 (z := flat mxC [(mx0, ⟨none, 0, 0⟩)]) slT_mutex (by decide) z_mutex (flat_one mxC_one) h (by omega) fun s0 w1 hs0 h => ?_
  refine al.mk h fun a w2 h => ?_
  have e0 : ∀ n, mz (List.replicate n mx0) (fun _ => ⟨none, 0, 0⟩) = List.replicate n (mx0, ⟨none, 0, 0⟩) := fun n => by
    apply List.ext_getElem?
    intro j
    by_cases hj : j < n
    · rw [mz_get (x := mx0) (by simp [hj])]; simp [hj]
    · rw [List.getElem?_eq_none (by rw [mz_len]; simp; omega), List.getElem?_eq_none (by simp; omega)]
  let mk (n : Nat) : List Mx := mx0 :: (l.take n).map fun k => ⟨k.1, k.2, 0, []⟩
  have hmz : ∀ n, mz (mk n) (fun _ => (⟨none, 0, 0⟩ : Sl)) = (mk n).map fun y => (y, (⟨none, 0, 0⟩ : Sl)) := fun n => by
    apply List.ext_getElem?
    intro j
    by_cases hj : j < (mk n).length
    · rw [mz_get (x := (mk n)[j]) (List.getElem?_eq_getElem hj), List.getElem?_map, List.getElem?_eq_getElem hj]; rfl
    · rw [List.getElem?_eq_none (by rw [mz_len]; omega), List.getElem?_eq_none (by simp; omega)]
  have h : Ok e (pts a (vS s0 :: List.replicate 51 (.int .i64 0)) :: slc 4 s0 (flat mxC ((mk 0).map fun y => (y, (⟨none, 0, 0⟩ : Sl)))) :: slc 2 x (flat kdC l) :: L) w2 := h
  refine lp.mk (fun t w1 => ∃ (n : Nat) (s : Sl), @Eq Int t.1 (n : Int) ∧ n ≤ l.length ∧ s.len = n + 1 ∧ Ok e (pts a (vS s :: List.replicate 51 (.int .i64 0)) :: slc 4 s (flat mxC ((mk n).map fun y => (y, (⟨none, 0, 0⟩ : Sl)))) :: slc 2 x (flat kdC l) :: L) w1)
    (fun t _ => Int.toNat (Int.sub l.length t.1)) ⟨0, s0, rfl, by omega, hs0, h⟩ ?_
  rintro ⟨(t : Int), _⟩ w3 ⟨n, s, (rfl : t = (n : Int)), hn, hs, h⟩
  refine cs.mk (fun h1 => ?_) (fun h1 => ?_)
  · have h1 : n < l.length := by have := of_decide_eq_true h1; dsimp only at this; omega
    refine ix_flat kdC_len (by decide) h.p2 (by dsimp only; omega) (by dsimp only; omega) fun b o y hy _ _ hc => ?_
    rw [Int.toNat_natCast] at hy
    have hym := List.mem_of_getElem? hy
    refine ldI.mk (hc 0 _ rfl _ ⟨_, h.p2⟩) (ldI.mk (hc 1 _ rfl _ ⟨_, h.p2⟩) ?_)
    refine al.mk h fun c w4 h => st1.mk h (by simp) fun w5 h => st1.mk h (by simp) fun w6 h => ldI.mk (h.cell rfl) (ldI.mk (h.cell rfl) ?_)
    refine call61 (a0 := (y.1, y.2, ())) (right_mtx (x := y) h fun w7 h => ⟨(MM.right y, ()), rfl, ?_⟩)
    refine cs.no (by dsimp only; rw [hr y hym]; rfl) ?_
    refine dr.mk h fun w8 h => nn.mk (ldS.mk (h.p1.cell rfl) (ldI.mk (h.cell rfl) (ldI.mk (h.cell rfl) ?_)))
    refine al.mk h fun d w9 h => ⟨h.p2.cell rfl, ?_⟩
    have h : Ok e (pts d [.int .i64 y.1, .int .i64 y.2, .int .i64 0, .slice none 0 0] :: slc 4 s (flat mxC ((mk n).map fun y => (y, (⟨none, 0, 0⟩ : Sl)))) :: pts a (vS s :: List.replicate 51 (.int .i64 0)) :: slc 2 x (flat kdC l) :: L) w9 := (h.emb (by repeat' (first | with_reducible exact Emb.same _ | exact Emb.nil _ | refine Emb.cons (by with_reducible first | exact sl0 | exact .there sl0 | exact .there sl1 | exact .there sl2 | exact .there sl3 | exact .there sl4 | exact .there sl5 | exact .there sl6 | exact .there sl7 | exact .there sl8 | exact .there sl9 | exact .there sl10 | exact .there sl11 | exact .there sl12) ?_ | refine Emb.skip ?_)))
    have h : Ok e (pts d (flat mxC [(⟨y.1, y.2, 0, []⟩, ⟨none, 0, 0⟩)]) :: slc 4 s (flat mxC ((mk n).map fun y => (y, (⟨none, 0, 0⟩ : Sl)))) :: pts a (vS s :: List.replicate 51 (.int .i64 0)) :: slc 2 x (flat kdC l) :: L) w9 := h
    refine ef.append1 (n := 1) slT_mutex (by decide) h rfl (flat_one mxC_one) (by omega) fun s' w10 hl' h => ?_
    rw [← flat_append] at h
    refine nn.mk (st1.mk h.p1 (by simp) fun w11 h => ?_)
    refine ⟨⟨n + 1, s', ?_, h1, by omega, ?_⟩, ?_⟩
    · show w64 ((n : Int) + 1) = _
      rw [w64_in (by omega) (by omega)]; rfl
    · have e1 : ((mk n).map fun y => (y, (⟨none, 0, 0⟩ : Sl))) ++ [(⟨y.1, y.2, 0, []⟩, (⟨none, 0, 0⟩ : Sl))] = (mk (n + 1)).map fun y => (y, (⟨none, 0, 0⟩ : Sl)) := by
        show _ = (mx0 :: (l.take (n + 1)).map fun k => (⟨k.1, k.2, 0, []⟩ : Mx)).map _
        rw [List.take_add_one, hy]
        simp [mk]
      rw [e1] at h
      exact h
    · show Int.toNat (Int.sub _ (w64 ((n : Int) + 1))) < Int.toNat (Int.sub _ (n : Int))
      rw [w64_in (by omega) (by omega)]
      show Int.toNat ((l.length : Int) - ((n : Int) + 1)) < Int.toNat ((l.length : Int) - (n : Int))
      omega
  · have h1 : n = l.length := by have := of_decide_eq_false h1; dsimp only at this; omega
    subst h1
    have emk : mk l.length = (MM.new l).m := by
      show mx0 :: (l.take l.length).map _ = _
      rw [List.take_length]; rfl
    rw [← hmz, emk] at h
    have h51 : List.replicate 51 (Value.int .i64 0) = flat mtC (List.replicate 17 ⟨0, 0, 0⟩) := rfl
    rw [h51] at h
    refine lp.mk (fun t w1 => ∃ n : Nat, @Eq Int t.1 (n : Int) ∧ n ≤ 17 ∧ Ok e (pts a (vS s :: flat mtC (List.replicate n MM.mt0 ++ List.replicate (17 - n) ⟨0, 0, 0⟩)) :: slc 4 s (flat mxC (mz (MM.new l).m fun _ => ⟨none, 0, 0⟩)) :: slc 2 x (flat kdC l) :: L) w1)
      (fun t _ => Int.toNat (Int.sub 17 t.1)) ⟨0, rfl, by omega, h⟩ ?_
    rintro ⟨(t : Int), _⟩ w4 ⟨n, (rfl : t = (n : Int)), hn, h⟩
    refine cs.mk (fun h1 => ?_) (fun h1 => ?_)
    · have h1 : n < 17 := by have := of_decide_eq_true h1; dsimp only at this; omega
      obtain ⟨kk, hkk⟩ : ∃ kk, 17 - n = kk + 1 := ⟨16 - n, by omega⟩
      rw [hkk] at h
      have hget : ∀ (z : Mt), getO (List.replicate n MM.mt0 ++ z :: List.replicate kk ⟨0, 0, 0⟩) (n : Int) = some z := fun z => by
        rw [getO_nat, List.getElem?_append_right (by simp)]; simp
      have hset : ∀ (z z' : Mt), (List.replicate n MM.mt0 ++ z :: List.replicate kk ⟨0, 0, 0⟩).set (n : Int).toNat z' = List.replicate n MM.mt0 ++ z' :: List.replicate kk ⟨0, 0, 0⟩ := fun z z' => by
        rw [Int.toNat_natCast, List.set_append_right _ _ (by simp)]; simp
      rw [List.replicate_succ] at h
      refine nn.mk ⟨by dsimp only; omega, by dsimp only; omega, ?_⟩
      refine st_t (y := ⟨16, 0, 0⟩) h (hget _) (j := 0) (by decide) rfl rfl fun w5 h => ?_
      rw [hset] at h
      refine st_t (y := ⟨16, 16, 0⟩) h (hget _) (j := 1) (by decide) rfl rfl fun w6 h => ?_
      rw [hset] at h
      refine st_t (y := ⟨16, 16, 0⟩) h (hget _) (j := 2) (by decide) rfl rfl fun w7 h => ?_
      rw [hset] at h
      refine ⟨⟨n + 1, ?_, h1, ?_⟩, ?_⟩
      · show w64 ((n : Int) + 1) = _
        rw [w64_in (by omega) (by omega)]; rfl
      · rw [show 17 - (n + 1) = kk by omega, List.replicate_succ', List.append_assoc]
        exact h
      · show Int.toNat (Int.sub _ (w64 ((n : Int) + 1))) < Int.toNat (Int.sub _ (n : Int))
        rw [w64_in (by omega) (by omega)]
        show Int.toNat (17 - ((n : Int) + 1)) < Int.toNat (17 - (n : Int))
        omega
    · have h1 : n = 17 := by have := of_decide_eq_false h1; dsimp only at this; omega
      subst h1
      have hnl : (MM.new l).m.length = l.length + 1 := by simp [MM.new]
      have h2 : Ok e (pts a (vS s :: flat mtC (MM.new l).t) :: slc 4 s (flat mxC (mz (MM.new l).m fun _ => ⟨none, 0, 0⟩)) :: slc 2 x (flat kdC l) :: L) w4 := by simpa [MM.new] using h
      refine k a w4 (mmI (s := s) (ws := fun _ => ⟨none, 0, 0⟩) ⟨rfl, by omega, by omega⟩ ?_)
      have e3 : starN (MM.new l).m.length (wtF (MM.new l).m fun _ => ⟨none, 0, 0⟩) = starN (MM.new l).m.length fun _ => slc 1 ⟨none, 0, 0⟩ (ints []) := star_congr fun i hi => by
        obtain ⟨y, hy⟩ : ∃ y, (MM.new l).m[i]? = some y := ⟨_, List.getElem?_eq_getElem hi⟩
        rw [wtF_eq hy]
        have hym := List.mem_of_getElem? hy
        rcases List.mem_cons.1 hym with rfl | hym
        · rfl
        · obtain ⟨z, _, rfl⟩ := List.mem_map.1 hym
          rfl
      rw [e3]
      exact (starN_nil _ h2).q2

end Go.Proofs.YtenonfkfoedfmaaGreatDoor.B


/- Contracts of the package mtx: locked, unlocked. -/
namespace Go.Proofs.YtenonfkfoedfmaaGreatDoor.B
open Go
set_option linter.unusedVariables false

end Go.Proofs.YtenonfkfoedfmaaGreatDoor.B


/- Contracts of the package mtx: waited for, unlocked, all given back. -/
namespace Go.Proofs.YtenonfkfoedfmaaGreatDoor.B
open Go
set_option linter.unusedVariables false

end Go.Proofs.YtenonfkfoedfmaaGreatDoor.B


/- Contracts of the package mtx: what a task holds. -/
namespace Go.Proofs.YtenonfkfoedfmaaGreatDoor.B
open Go
set_option linter.unusedVariables false

theorem settle_len {M M' : MM} (h : M.settle = some M') : M'.m.length = M.m.length := by rw [(settle_m h).1]

theorem setBase_len {M : MM} {n p : Int} {r} (h : M.setBase n p = some r) : r.2.m.length = M.m.length := by
  unfold MM.setBase at h
  split at h
  · cases h; rfl
  · split at h
    · cases h; rfl
    · obtain ⟨t, _, h⟩ := Option.bind_eq_some_iff.1 h
      split at h
      · cases h; rfl
      · obtain ⟨M1, h1, h⟩ := Option.bind_eq_some_iff.1 h
        obtain ⟨M2, h2, rfl⟩ := Option.map_eq_some_iff.1 h
        show M2.m.length = _
        rw [settle_len h2]
        obtain ⟨x, _, rfl⟩ := Option.map_eq_some_iff.1 h1
        rfl

end Go.Proofs.YtenonfkfoedfmaaGreatDoor.B


/- Heaps of entries, in plain Lean. -/
namespace Go.Proofs.YtenonfkfoedfmaaGreatDoor.B
open Go
set_option linter.unusedVariables false

def Ent.Lt (a b : Ent) : Prop := a.at' < b.at' ∨ (a.at' = b.at' ∧ a.hd < b.hd)

instance (a b : Ent) : Decidable (a.Lt b) := by unfold Ent.Lt; infer_instance

theorem Ent.lt_iff {a b : Ent} : a.lt b = true ↔ a.Lt b := by simp [Ent.lt, Ent.Lt]

theorem Ent.Lt.asym {a b : Ent} (h : a.Lt b) : ¬ b.Lt a := by unfold Ent.Lt at *; omega

theorem Ent.nlt_trans {a b c : Ent} (h1 : ¬ a.Lt b) (h2 : ¬ b.Lt c) : ¬ a.Lt c := by unfold Ent.Lt at *; omega

theorem Ent.Lt.trans {a b c : Ent} (h1 : a.Lt b) (h2 : b.Lt c) : a.Lt c := by unfold Ent.Lt at *; omega

def swE (l : List Ent) (i j : Nat) (a b : Ent) : List Ent := (l.set i b).set j a

theorem swE_get {l : List Ent} {i j : Nat} {a b : Ent} (hi : l[i]? = some a) (hj : l[j]? = some b) (k : Nat) : (swE l i j a b)[k]? = if k = j then some a else if k = i then some b else l[k]? := by
  have h1 := (List.getElem?_eq_some_iff.1 hi).1
  have h2 := (List.getElem?_eq_some_iff.1 hj).1
  unfold swE
  rw [List.getElem?_set, List.getElem?_set]
  by_cases e1 : j = k
  · subst e1; simp [h2]
  · by_cases e2 : i = k
    · subst e2; simp [e1, Ne.symm e1, h1]
    · simp [e1, e2, Ne.symm e1, Ne.symm e2]

theorem swE_len {l : List Ent} {i j : Nat} {a b : Ent} : (swE l i j a b).length = l.length := by simp [swE]

theorem set_perm {α : Type} {l : List α} {i : Nat} {a x : α} (h : l[i]? = some a) : (a :: l.set i x).Perm (x :: l) := by
  induction l generalizing i with
  | nil => simp at h
  | cons c l ih =>
    cases i with
    | zero => simp at h; subst h; simp; exact List.Perm.swap ..
    | succ i =>
      simp at h
      rw [List.set_cons_succ]
      exact (List.Perm.swap ..).trans (((ih h).cons c).trans (List.Perm.swap ..))

theorem swE_perm {l : List Ent} {i j : Nat} {a b : Ent} (hi : l[i]? = some a) (hj : l[j]? = some b) : (swE l i j a b).Perm l := by
  have h1 := set_perm (x := b) hi
  have h2 : (l.set i b)[j]? = some b := by
    rw [List.getElem?_set]
    by_cases e : i = j
    · subst e; simp [(List.getElem?_eq_some_iff.1 hi).1]
    · simp [e, hj]
  have h3 := set_perm (x := a) h2
  exact (List.perm_cons b).1 (h3.trans h1)

/-- every entry comes behind its parent -/
def HpE (l : List Ent) : Prop := ∀ (k : Nat) a b, 0 < k → l[k]? = some a → l[(k - 1) / 2]? = some b → ¬ a.Lt b

/-- but for the one at i, which may come ahead of its parent -/
def UpI (l : List Ent) (i : Nat) : Prop :=
  (∀ (k : Nat) a b, 0 < k → k ≠ i → l[k]? = some a → l[(k - 1) / 2]? = some b → ¬ a.Lt b) ∧
  (0 < i → ∀ (k : Nat) a b, 0 < k → (k - 1) / 2 = i → l[k]? = some a → l[(i - 1) / 2]? = some b → ¬ a.Lt b)

/-- but for the one at i, which may come behind its children -/
def DnI (l : List Ent) (i : Nat) : Prop :=
  (∀ (k : Nat) a b, 0 < k → (k - 1) / 2 ≠ i → l[k]? = some a → l[(k - 1) / 2]? = some b → ¬ a.Lt b) ∧
  (0 < i → ∀ (k : Nat) a b, 0 < k → (k - 1) / 2 = i → l[k]? = some a → l[(i - 1) / 2]? = some b → ¬ a.Lt b)

/-- but for the one at i -/
def HoI (l : List Ent) (i : Nat) : Prop :=
  (∀ (k : Nat) a b, 0 < k → k ≠ i → (k - 1) / 2 ≠ i → l[k]? = some a → l[(k - 1) / 2]? = some b → ¬ a.Lt b) ∧
  (0 < i → ∀ (k : Nat) a b, 0 < k → (k - 1) / 2 = i → l[k]? = some a → l[(i - 1) / 2]? = some b → ¬ a.Lt b)

theorem up_step {l : List Ent} {i : Nat} {a b : Ent} (h : HoI l i ∨ UpI l i) (h0 : 0 < i) (ha : l[i]? = some a) (hb : l[(i - 1) / 2]? = some b) (hlt : a.Lt b) : UpI (swE l i ((i - 1) / 2) a b) ((i - 1) / 2) := by
  have hp : (i - 1) / 2 < i := by omega
  have key : (∀ (k : Nat) a b, 0 < k → k ≠ i → (k - 1) / 2 ≠ i → l[k]? = some a → l[(k - 1) / 2]? = some b → ¬ a.Lt b) := by
    rcases h with h | h
    · exact h.1
    · intro k a b h1 h2 _ h4 h5; exact h.1 k a b h1 h2 h4 h5
  have key2 := (h.elim (fun h => h.2) (fun h => h.2)) h0
  refine ⟨fun k x y k0 kp hx hy => ?_, fun p0 k x y k0 kk hx hy => ?_⟩
  · rw [swE_get ha hb, if_neg kp] at hx
    rw [swE_get ha hb] at hy
    by_cases e1 : k = i
    · subst e1
      rw [if_pos rfl] at hx
      rw [if_pos rfl] at hy
      cases hx; cases hy
      exact hlt.asym
    · rw [if_neg e1] at hx
      by_cases e2 : (k - 1) / 2 = (i - 1) / 2
      · rw [if_pos e2] at hy
        cases hy
        have := key k x b k0 e1 (by omega) hx (by rw [e2]; exact hb)
        exact Ent.nlt_trans this hlt.asym
      · rw [if_neg e2] at hy
        by_cases e3 : (k - 1) / 2 = i
        · rw [if_pos e3] at hy
          cases hy
          exact key2 k x b k0 e3 hx hb
        · rw [if_neg e3] at hy
          exact key k x y k0 e1 e3 hx hy
  · rw [swE_get ha hb, if_neg (by omega)] at hx
    rw [swE_get ha hb, if_neg (by omega), if_neg (by omega)] at hy
    have hpar : ¬ b.Lt y := key _ b y p0 (by omega) (by omega) hb hy
    by_cases e1 : k = i
    · subst e1
      rw [if_pos rfl] at hx
      cases hx
      exact hpar
    · rw [if_neg e1] at hx
      exact Ent.nlt_trans (key k x b k0 e1 (by omega) hx (by rw [kk]; exact hb)) hpar

theorem up_end {l : List Ent} {i : Nat} (h : UpI l i) (he : i = 0 ∨ ∀ a b, l[i]? = some a → l[(i - 1) / 2]? = some b → ¬ a.Lt b) : HpE l := by
  intro k a b k0 ha hb
  by_cases e : k = i
  · subst e
    rcases he with he | he
    · omega
    · exact he a b ha hb
  · exact h.1 k a b k0 e ha hb

theorem dn_of_hp {l : List Ent} {i : Nat} (h : HpE l) : DnI l i := by
  refine ⟨fun k a b k0 _ ha hb => h k a b k0 ha hb, fun i0 k a b k0 ki ha hb => ?_⟩
  have hk := (List.getElem?_eq_some_iff.1 ha).1
  have hi : i < l.length := by omega
  have hx := List.getElem?_eq_getElem hi
  exact Ent.nlt_trans (h k a _ k0 ha (by rw [ki]; exact hx)) (h i _ b i0 hx hb)

theorem dn_of_ho {l : List Ent} {i : Nat} (h : HoI l i) (he : i = 0 ∨ ∀ a b, l[i]? = some a → l[(i - 1) / 2]? = some b → ¬ a.Lt b) : DnI l i := by
  refine ⟨fun k a b k0 k1 ha hb => ?_, h.2⟩
  by_cases e : k = i
  · subst e
    rcases he with he | he
    · omega
    · exact he a b ha hb
  · exact h.1 k a b k0 e k1 ha hb

theorem dn_step {l : List Ent} {i k : Nat} {a b : Ent} (h : DnI l i) (k0 : 0 < k) (ki : (k - 1) / 2 = i) (ha : l[i]? = some a) (hb : l[k]? = some b) (hlt : b.Lt a)
    (hmin : ∀ (j : Nat) c, 0 < j → (j - 1) / 2 = i → l[j]? = some c → ¬ c.Lt b) : DnI (swE l i k a b) k := by
  have hne : i ≠ k := by omega
  refine ⟨fun j x y j0 jk hx hy => ?_, fun _ j x y j0 jk hx hy => ?_⟩
  · rw [swE_get ha hb] at hx
    rw [swE_get ha hb, if_neg jk] at hy
    by_cases e1 : j = k
    · subst e1
      rw [if_pos rfl] at hx
      rw [if_pos ki] at hy
      cases hx; cases hy
      exact hlt.asym
    · rw [if_neg e1] at hx
      by_cases e2 : j = i
      · subst e2
        rw [if_pos rfl] at hx
        rw [if_neg (by omega)] at hy
        cases hx
        exact h.2 j0 k b y k0 ki hb hy
      · rw [if_neg e2] at hx
        by_cases e3 : (j - 1) / 2 = i
        · rw [if_pos e3] at hy
          cases hy
          exact hmin j x j0 e3 hx
        · rw [if_neg e3] at hy
          exact h.1 j x y j0 e3 hx hy
  · rw [swE_get ha hb, if_neg (by omega), if_neg (by omega)] at hx
    rw [swE_get ha hb, if_neg (by omega), if_pos ki] at hy
    cases hy
    exact h.1 j x b j0 (by omega) hx (by rw [jk]; exact hb)

theorem dn_end {l : List Ent} {i : Nat} (h : DnI l i) (he : ∀ (k : Nat) a b, 0 < k → (k - 1) / 2 = i → l[k]? = some a → l[i]? = some b → ¬ a.Lt b) : HpE l := by
  intro k a b k0 ha hb
  by_cases e : (k - 1) / 2 = i
  · rw [e] at hb
    exact he k a b k0 e ha hb
  · exact h.1 k a b k0 e ha hb

/-- the first one comes first -/
theorem hp_first {l : List Ent} {a : Ent} (h : HpE l) (ha : l[0]? = some a) : ∀ b ∈ l, ¬ b.Lt a := by
  have key : ∀ (n k : Nat), k ≤ n → ∀ b, l[k]? = some b → ¬ b.Lt a := by
    intro n
    induction n with
    | zero =>
      intro k hk b hb
      have : k = 0 := by omega
      subst this
      rw [ha] at hb
      cases hb
      unfold Ent.Lt; omega
    | succ n ih =>
      intro k hk b hb
      by_cases e : k = 0
      · subst e
        rw [ha] at hb
        cases hb
        unfold Ent.Lt; omega
      · have hk2 := (List.getElem?_eq_some_iff.1 hb).1
        have hx := List.getElem?_eq_getElem (l := l) (i := (k - 1) / 2) (by omega)
        exact Ent.nlt_trans (h k b _ (by omega) hb hx) (ih _ (by omega) _ hx)
  intro b hb
  obtain ⟨k, hk⟩ := List.mem_iff_getElem?.1 hb
  exact key k k (Nat.le_refl _) b hk

/-- entries in order, each with a number of its own -/
structure TmOk (last : Int) (l : List Ent) : Prop where
  sorted : l.Pairwise Ent.Lt
  nodup : (l.map Ent.hd).Nodup
  bd : ∀ x ∈ l, 1 ≤ x.hd ∧ x.hd ≤ last
  len : l.length ≤ 256

theorem insE_perm (x : Ent) : ∀ l : List Ent, (insE x l).Perm (x :: l) := by
  intro l
  induction l with
  | nil => exact List.Perm.refl _
  | cons y r ih =>
    rw [insE]
    split
    · exact List.Perm.refl _
    · exact (ih.cons y).trans (List.Perm.swap ..)

theorem insE_sorted {x : Ent} : ∀ {l : List Ent}, l.Pairwise Ent.Lt → (∀ y ∈ l, y.hd ≠ x.hd) → (insE x l).Pairwise Ent.Lt := by
  intro l
  induction l with
  | nil => intro _ _; simp [insE]
  | cons y r ih =>
    intro h hne
    have h' := List.pairwise_cons.1 h
    rw [insE]
    split
    · next hlt =>
      have hlt := Ent.lt_iff.1 hlt
      refine List.pairwise_cons.2 ⟨fun z hz => ?_, h⟩
      rcases List.mem_cons.1 hz with rfl | hz
      · exact hlt
      · exact hlt.trans (h'.1 z hz)
    · next hlt =>
      have hlt : ¬ x.Lt y := fun h => hlt (Ent.lt_iff.2 h)
      refine List.pairwise_cons.2 ⟨fun z hz => ?_, ih h'.2 fun z hz => hne z (List.mem_cons_of_mem _ hz)⟩
      rcases List.mem_cons.1 ((insE_perm x r).mem_iff.1 hz) with rfl | hz
      · have := hne y (List.mem_cons_self ..)
        unfold Ent.Lt at *; omega
      · exact h'.1 z hz

theorem tm_ins {last at' arg : Int} {l : List Ent} (h : TmOk last l) (h0 : 0 ≤ last) (hb : l.length < 256) : TmOk (last + 1) (insE ⟨at', last + 1, arg⟩ l) := by
  have hne : ∀ y ∈ l, y.hd ≠ last + 1 := fun y hy => by have := h.bd y hy; omega
  refine ⟨insE_sorted h.sorted hne, ?_, fun x hx => ?_, by rw [(insE_perm _ l).length_eq, List.length_cons]; omega⟩
  · refine ((insE_perm _ l).map Ent.hd).nodup_iff.2 (List.nodup_cons.2 ⟨fun hm => ?_, h.nodup⟩)
    obtain ⟨y, hy, he⟩ := List.mem_map.1 hm
    exact hne y hy he
  · rcases List.mem_cons.1 ((insE_perm _ l).mem_iff.1 hx) with rfl | hx
    · simp only; omega
    · have := h.bd x hx; omega

theorem tm_sub {last : Int} {l m : List Ent} (h : TmOk last l) (hs : m.Sublist l) : TmOk last m :=
  ⟨h.sorted.sublist hs, h.nodup.sublist (hs.map _), fun x hx => h.bd x (hs.subset hx), Nat.le_trans hs.length_le h.len⟩

theorem tm_del {last hd : Int} {l : List Ent} (h : TmOk last l) : TmOk last (delE hd l) := tm_sub h List.filter_sublist

theorem tm_nil : TmOk 0 [] := ⟨List.Pairwise.nil, List.nodup_nil, by simp, by simp⟩

/-- the heap's first one is the row's -/
theorem tm_first {last : Int} {r l : List Ent} {a x : Ent} (h : TmOk last (x :: l)) (hp : HpE r) (hr : r.Perm (x :: l)) (ha : r[0]? = some a) : a = x := by
  have hm : a ∈ x :: l := hr.mem_iff.1 (List.mem_of_getElem? ha)
  rcases List.mem_cons.1 hm with e | hm
  · exact e
  · have h1 := (List.pairwise_cons.1 h.sorted).1 a hm
    exact absurd h1 (hp_first hp ha x (hr.mem_iff.2 (List.mem_cons_self ..)))

theorem tm_del_perm {last : Int} {r r' l : List Ent} {x : Ent} (h : TmOk last l) (hr : r.Perm l) (h' : r.Perm (x :: r')) : r'.Perm (delE x.hd l) := by
  have hp : l.Perm (x :: r') := hr.symm.trans h'
  have hn : ((x :: r').map Ent.hd).Nodup := (hp.map Ent.hd).nodup_iff.1 h.nodup
  have h1 : (delE x.hd l).Perm (delE x.hd (x :: r')) := hp.filter _
  have h2 : delE x.hd (x :: r') = r' := by
    unfold delE
    rw [List.filter_cons_of_neg (by simp), List.filter_eq_self.2]
    intro y hy
    have := (List.nodup_cons.1 hn).1
    have hne : y.hd ≠ x.hd := fun e => this (List.mem_map.2 ⟨y, hy, e⟩)
    simpa using hne
  rw [h2] at h1
  exact h1.symm

theorem delE_none {l : List Ent} {hd : Int} (h : ∀ x ∈ l, x.hd ≠ hd) : delE hd l = l := by
  unfold delE
  rw [List.filter_eq_self.2]
  intro y hy
  simpa using h y hy

end Go.Proofs.YtenonfkfoedfmaaGreatDoor.B


/- Contracts of the package heap: rows of entries. -/
namespace Go.Proofs.YtenonfkfoedfmaaGreatDoor.B
open Go
set_option linter.unusedVariables false

abbrev entC (x : Ent) : List Value := [.int .u64 x.at', .int .i64 x.hd, .int .i64 x.arg]

theorem entC_len (x : Ent) : (entC x).length = 3 := rfl

theorem entC_one (x : Ent) : ∀ v ∈ entC x, v.oneCell' = true := by
  intro v hv
  simp only [entC, List.mem_cons, List.not_mem_nil, or_false] at hv
  rcases hv with rfl | rfl | rfl <;> rfl

theorem slT_ent : SlT Pg 327 3 := .of (by kernel_rfl)

theorem ahead_heap {e w L s r R} {i k : Nat} {a b : Ent} (h : Ok e (slc 3 s (flat entC r) :: L) w) (hi : r[i]? = some a) (hk : r[k]? = some b)
    (kk : ∀ w', Ok e (slc 3 s (flat entC r) :: L) w' → R [.bool (a.lt b)] w') : sh255 s (i : Int) (k : Int) R w := by
  unfold sh255
  have hil := (List.getElem?_eq_some_iff.1 hi).1
  have hkl := (List.getElem?_eq_some_iff.1 hk).1
  refine dr.mk h fun w1 h => ?_
  refine ix_flat entC_len (by decide) h (by omega) (by omega) fun b2 o2 x hx _ _ hc => ?_
  rw [Int.toNat_natCast, hi] at hx
  cases hx
  refine ldI.mk (hc 0 _ rfl _ ⟨_, h⟩) (ldI.mk (hc 1 _ rfl _ ⟨_, h⟩) (ldI.mk (hc 2 _ rfl _ ⟨_, h⟩) ?_))
  refine ix_flat entC_len (by decide) h (by omega) (by omega) fun b3 o3 y hy _ _ hd => ?_
  rw [Int.toNat_natCast, hk] at hy
  cases hy
  refine ldI.mk (hd 0 _ rfl _ ⟨_, h⟩) (ldI.mk (hd 1 _ rfl _ ⟨_, h⟩) (ldI.mk (hd 2 _ rfl _ ⟨_, h⟩) ?_))
  refine ⟨?_, ?_⟩
  · refine al.mk h fun c w2 h => ⟨⟨hd 0 _ rfl _ ⟨_, h.p1⟩, hd 1 _ rfl _ ⟨_, h.p1⟩, hd 2 _ rfl _ ⟨_, h.p1⟩⟩, ⟨hc 0 _ rfl _ ⟨_, h.p1⟩, hc 1 _ rfl _ ⟨_, h.p1⟩, hc 2 _ rfl _ ⟨_, h.p1⟩⟩, ?_⟩
    refine al.mk h fun d w3 h => ⟨⟨hd 0 _ rfl _ ⟨_, h.p2⟩, hd 1 _ rfl _ ⟨_, h.p2⟩, hd 2 _ rfl _ ⟨_, h.p2⟩⟩, ⟨hc 0 _ rfl _ ⟨_, h.p2⟩, hc 1 _ rfl _ ⟨_, h.p2⟩, hc 2 _ rfl _ ⟨_, h.p2⟩⟩, ?_⟩
    refine st1.mk h.p1 (by simp) fun w4 h => st1.mk h (by simp) fun w5 h => st1.mk h (by simp) fun w6 h => ⟨⟨hd 0 _ rfl _ ⟨_, h.p2⟩, hd 1 _ rfl _ ⟨_, h.p2⟩, hd 2 _ rfl _ ⟨_, h.p2⟩⟩, ?_⟩
    refine st1.mk h.p1 (by simp) fun w7 h => st1.mk h (by simp) fun w8 h => st1.mk h (by simp) fun w9 h => ?_
    refine ldI.mk (h.p1.cell rfl) (ldI.mk (h.cell rfl) ?_)
    refine jn.bool (a.lt b) (fun J hJ => cs.mk (fun h1 => ?_) (fun h1 => ?_)) (kk w9 h.drop.drop)
    · simpa [Ent.lt, h1] using hJ
    · refine ldI.mk (h.p1.cell rfl) (ldI.mk (h.cell rfl) ?_)
      refine jn.bool (a.lt b) (fun J2 hJ2 => cs.mk (fun h2 => ?_) (fun h2 => ?_)) hJ
      · refine ldI.mk (h.p1.cell rfl) (ldI.mk (h.cell rfl) ?_)
        simpa [Ent.lt, h1, h2] using hJ2
      · simpa [Ent.lt, h1, h2] using hJ2
  · refine al.mk h fun d w2 h => ⟨⟨hd 0 _ rfl _ ⟨_, h.p1⟩, hd 1 _ rfl _ ⟨_, h.p1⟩, hd 2 _ rfl _ ⟨_, h.p1⟩⟩, ⟨hc 0 _ rfl _ ⟨_, h.p1⟩, hc 1 _ rfl _ ⟨_, h.p1⟩, hc 2 _ rfl _ ⟨_, h.p1⟩⟩, ?_⟩
    refine al.mk h fun c w3 h => ⟨⟨hd 0 _ rfl _ ⟨_, h.p2⟩, hd 1 _ rfl _ ⟨_, h.p2⟩, hd 2 _ rfl _ ⟨_, h.p2⟩⟩, ⟨hc 0 _ rfl _ ⟨_, h.p2⟩, hc 1 _ rfl _ ⟨_, h.p2⟩, hc 2 _ rfl _ ⟨_, h.p2⟩⟩, ?_⟩
    refine st1.mk h (by simp) fun w4 h => st1.mk h (by simp) fun w5 h => st1.mk h (by simp) fun w6 h => ⟨⟨hd 0 _ rfl _ ⟨_, h.p2⟩, hd 1 _ rfl _ ⟨_, h.p2⟩, hd 2 _ rfl _ ⟨_, h.p2⟩⟩, ?_⟩
    refine st1.mk h.p1 (by simp) fun w7 h => st1.mk h (by simp) fun w8 h => st1.mk h (by simp) fun w9 h => ?_
    refine ldI.mk (h.p1.cell rfl) (ldI.mk (h.cell rfl) ?_)
    refine jn.bool (a.lt b) (fun J hJ => cs.mk (fun h1 => ?_) (fun h1 => ?_)) (kk w9 h.drop.drop)
    · simpa [Ent.lt, h1] using hJ
    · refine ldI.mk (h.p1.cell rfl) (ldI.mk (h.cell rfl) ?_)
      refine jn.bool (a.lt b) (fun J2 hJ2 => cs.mk (fun h2 => ?_) (fun h2 => ?_)) hJ
      · refine ldI.mk (h.p1.cell rfl) (ldI.mk (h.cell rfl) ?_)
        simpa [Ent.lt, h1, h2] using hJ2
      · simpa [Ent.lt, h1, h2] using hJ2

/-- an entry is laid over another one -/
theorem st_ent {e w L s r} {i : Nat} {a : Ent} {K : World → Prop} {b o : Nat} (h : Ok e (slc 3 s (flat entC r) :: L) w) (hi : i < r.length) (ha : s.a = some ⟨b, 0, none⟩) (ho : o = i * 3)
    (k : ∀ w', Ok e (slc 3 s (flat entC (r.set i a)) :: L) w' → K w') :
    st1 w b o (.int .u64 a.at') fun w => st1 w b (o + 1) (.int .i64 a.hd) fun w => st1 w b (o + 2) (.int .i64 a.arg) fun w => K w := by
  subst ho
  obtain ⟨hl, hv, hcap, ⟨h0, _⟩ | ⟨b', post, hb, hp, hk⟩⟩ := h.slcE
  · rw [h0] at ha; cases ha
  · rw [hb] at ha
    cases ha
    have hfl : (flat entC r).length = r.length * 3 := flat_len entC_len
    have hlen : (flat entC r ++ post).length = r.length * 3 + post.length := by rw [List.length_append, hfl]
    obtain ⟨x, hx⟩ : ∃ x, r[i]? = some x := ⟨_, List.getElem?_eq_getElem hi⟩
    refine st1.mk hk (by omega) fun w1 h1 => st1.mk h1 (by rw [List.length_set]; omega) fun w2 h2 => st1.mk h2 (by rw [List.length_set, List.length_set]; omega) fun w3 h3 => k w3 ?_
    rw [List.set_append_left _ _ (by omega), List.set_append_left _ _ (by rw [List.length_set]; omega), List.set_append_left _ _ (by rw [List.length_set, List.length_set]; omega)] at h3
    have e0 : (flat entC r).set (i * 3) (.int .u64 a.at') = flat entC (r.set i ⟨a.at', x.hd, x.arg⟩) := flat_set (j := 0) entC_len hx (by decide) rfl
    have hx1 : (r.set i ⟨a.at', x.hd, x.arg⟩)[i]? = some ⟨a.at', x.hd, x.arg⟩ := by simp [hi]
    have e1 : (flat entC (r.set i ⟨a.at', x.hd, x.arg⟩)).set (i * 3 + 1) (.int .i64 a.hd) = flat entC (r.set i ⟨a.at', a.hd, x.arg⟩) := by
      rw [flat_set (b := ⟨a.at', a.hd, x.arg⟩) entC_len hx1 (by decide) rfl, List.set_set]
    have hx2 : (r.set i ⟨a.at', a.hd, x.arg⟩)[i]? = some ⟨a.at', a.hd, x.arg⟩ := by simp [hi]
    have e2 : (flat entC (r.set i ⟨a.at', a.hd, x.arg⟩)).set (i * 3 + 2) (.int .i64 a.arg) = flat entC (r.set i a) := by
      rw [flat_set (b := a) entC_len hx2 (by decide) rfl, List.set_set]
    rw [e0, e1, e2] at h3
    have hfl2 : (flat entC (r.set i a)).length = r.length * 3 := by rw [flat_len entC_len, List.length_set]
    exact h3.slcI hb (by rw [hfl2, ← hfl]; exact hl) (flat_one entC_one) hcap (by rw [hfl2, ← hfl]; exact hp)

theorem half {t : Nat} (h : 0 < t) (hb : t ≤ 1000) : w64 (Int.tdiv (w64 ((t : Int) - 1)) 2) = (((t - 1) / 2 : Nat) : Int) := by
  rw [w64_in (x := (t : Int) - 1) (by omega) (by omega), Int.tdiv_eq_ediv_of_nonneg (by omega), w64_in (by omega) (by omega)]
  omega

/-- an entry goes up; J: what is known on the way -/
theorem up_heap {e w L s r R} {i : Nat} (J : List Ent → Nat → Prop) (h : Ok e (slc 3 s (flat entC r) :: L) w) (hi : i < r.length) (hb : r.length ≤ 1000) (h0 : J r i)
    (step : ∀ l i a b, J l i → 0 < i → l[i]? = some a → l[(i - 1) / 2]? = some b → a.Lt b → J (swE l i ((i - 1) / 2) a b) ((i - 1) / 2))
    (k : ∀ w' l i', J l i' → l.Perm r → i' ≤ i → (i' = 0 ∨ ∀ a b, l[i']? = some a → l[(i' - 1) / 2]? = some b → ¬ a.Lt b) → Ok e (slc 3 s (flat entC l) :: L) w' → R [] w') : sh248 s (i : Int) R w := by
  unfold sh248
  refine lp.mk (fun t w1 => ∃ (l : List Ent) (n : Nat), @Eq Int t.1 (n : Int) ∧ J l n ∧ l.Perm r ∧ n ≤ i ∧ Ok e (slc 3 s (flat entC l) :: L) w1) (fun t _ => Int.toNat t.1) ⟨r, i, rfl, h0, List.Perm.refl _, Nat.le_refl _, h⟩ ?_
  rintro ⟨(t : Int), _⟩ w1 ⟨l, n, (rfl : t = (n : Int)), hJ, hp, hn, h⟩
  have hlen : l.length = r.length := hp.length_eq
  have hnl : n < l.length := by omega
  obtain ⟨a, ha⟩ : ∃ x, l[n]? = some x := ⟨_, List.getElem?_eq_getElem hnl⟩
  obtain ⟨b, hbq⟩ : ∃ x, l[(n - 1) / 2]? = some x := ⟨_, List.getElem?_eq_getElem (by omega)⟩
  by_cases hn0 : n = 0
  · subst hn0
    refine jn.bool false (fun K hK => cs.no rfl hK) (cs.no rfl (k w1 l 0 hJ hp (Nat.zero_le _) (.inl rfl) h))
  · dsimp only
    rw [half (by omega) (by omega)]
    refine jn.at (t := (a.lt b, ())) (fun w' => Ok e (slc 3 s (flat entC l) :: L) w') (fun K hK => ?_) (fun w2 h => ?_)
    · refine cs.yes (by simp; omega) ?_
      exact call255 (ahead_heap h ha hbq fun w2 h => ⟨(a.lt b, ()), rfl, hK w2 h⟩)
    · refine cs.mk (fun h1 => ?_) (fun h1 => ?_)
      · have h1 : a.Lt b := Ent.lt_iff.1 h1
        refine dr.mk h fun w3 h => ?_
        refine ix_flat entC_len (by decide) h (by omega) (by omega) fun b2 o2 x hx hsa ho2 hc => ?_
        rw [Int.toNat_natCast, hbq] at hx
        cases hx
        refine ldI.mk (hc 0 _ rfl _ ⟨_, h⟩) (ldI.mk (hc 1 _ rfl _ ⟨_, h⟩) (ldI.mk (hc 2 _ rfl _ ⟨_, h⟩) ?_))
        refine ix_flat entC_len (by decide) h (by omega) (by omega) fun b3 o3 y hy hsb ho3 hd => ?_
        rw [Int.toNat_natCast, ha] at hy
        cases hy
        refine ldI.mk (hd 0 _ rfl _ ⟨_, h⟩) (ldI.mk (hd 1 _ rfl _ ⟨_, h⟩) (ldI.mk (hd 2 _ rfl _ ⟨_, h⟩) ?_))
        refine ix_flat entC_len (by decide) h (by omega) (by omega) fun b4 o4 _ _ hsc ho4 _ => ?_
        refine st_ent (a := b) (i := n) h hnl hsc (by rw [ho4, Int.toNat_natCast]) fun w4 h => ?_
        refine ix_flat entC_len (by decide) h (by omega) (by rw [List.length_set]; omega) fun b5 o5 _ _ hsd ho5 _ => ?_
        refine st_ent (a := a) (i := (n - 1) / 2) h (by rw [List.length_set]; omega) hsd (by rw [ho5, Int.toNat_natCast]) fun w5 h => ?_
        refine ⟨⟨swE l n ((n - 1) / 2) a b, (n - 1) / 2, rfl, step l n a b hJ (by omega) ha hbq h1, (swE_perm ha hbq).trans hp, by omega, h⟩, ?_⟩
        show Int.toNat (((n - 1) / 2 : Nat) : Int) < Int.toNat (n : Int)
        omega
      · have h1 : ¬ a.Lt b := fun hc => by rw [Ent.lt_iff.2 hc] at h1; cases h1
        refine k w2 l n hJ hp hn (.inr fun a' b' ha' hb' => ?_) h
        rw [ha] at ha'
        rw [hbq] at hb'
        cases ha'
        cases hb'
        exact h1

end Go.Proofs.YtenonfkfoedfmaaGreatDoor.B


/- Contracts of the package heap: an entry goes down; one is taken out. -/
namespace Go.Proofs.YtenonfkfoedfmaaGreatDoor.B
open Go
set_option linter.unusedVariables false

theorem kid_cases {j n : Nat} (h0 : 0 < j) (h : (j - 1) / 2 = n) : j = 2 * n + 1 ∨ j = 2 * n + 2 := by omega

theorem down_heap {e w L s r R} {i : Nat} (h : Ok e (slc 3 s (flat entC r) :: L) w) (hi : i < r.length) (hb : r.length ≤ 1000) (h0 : DnI r i)
    (k : ∀ w' l, HpE l → l.Perm r → Ok e (slc 3 s (flat entC l) :: L) w' → R [] w') : sh249 s (i : Int) R w := by
  unfold sh249
  refine lp.mk (fun t w1 => ∃ (l : List Ent) (n : Nat), @Eq Int t.1 (n : Int) ∧ DnI l n ∧ l.Perm r ∧ n < l.length ∧ Ok e (slc 3 s (flat entC l) :: L) w1) (fun t _ => Int.toNat (Int.sub r.length t.1)) ⟨r, i, rfl, h0, List.Perm.refl _, hi, h⟩ ?_
  rintro ⟨(t : Int), _⟩ w1 ⟨l, n, (rfl : t = (n : Int)), hJ, hp, hn, h⟩
  have hlen : l.length = r.length := hp.length_eq
  have hsl : l.length = s.len := slc_flat_len entC_len (by decide) h
  obtain ⟨a, ha⟩ : ∃ x, l[n]? = some x := ⟨_, List.getElem?_eq_getElem hn⟩
  have e1 : w64 (w64 (2 * (n : Int)) + 1) = ((2 * n + 1 : Nat) : Int) := by rw [w64_in (x := 2 * (n : Int)) (by omega) (by omega), w64_in (by omega) (by omega)]; omega
  have e2 : w64 (w64 (w64 (2 * (n : Int)) + 1) + 1) = ((2 * n + 2 : Nat) : Int) := by rw [e1, w64_in (by omega) (by omega)]; omega
  -- the smaller child
  have main : ∀ (c : Bool), (c = true → 2 * n + 2 < l.length) → (∀ x y, l[2 * n + 2]? = some x → l[2 * n + 1]? = some y → (c = true ↔ x.Lt y)) → ∃ q : Nat, q = (if c = true then 2 * n + 2 else 2 * n + 1) ∧ 0 < q ∧ (q - 1) / 2 = n ∧ n < q ∧
      (q < l.length ∨ l.length ≤ 2 * n + 1) ∧ ∀ b, l[q]? = some b → ∀ (j : Nat) d, 0 < j → (j - 1) / 2 = n → l[j]? = some d → ¬ d.Lt b := by
    intro c hc1 hc2
    cases c with
    | true =>
      have hlt := hc1 rfl
      refine ⟨2 * n + 2, rfl, by omega, by omega, by omega, .inl hlt, fun b hb2 j d hj1 hj2 hd => ?_⟩
      obtain ⟨y, hy⟩ : ∃ y, l[2 * n + 1]? = some y := ⟨_, List.getElem?_eq_getElem (by omega)⟩
      have hlt2 := (hc2 b y hb2 hy).1 rfl
      rcases kid_cases hj1 hj2 with rfl | rfl
      · rw [hy] at hd; cases hd; exact hlt2.asym
      · rw [hb2] at hd; cases hd; unfold Ent.Lt; omega
    | false =>
      refine ⟨2 * n + 1, rfl, by omega, by omega, by omega, by omega, fun b hb2 j d hj1 hj2 hd => ?_⟩
      rcases kid_cases hj1 hj2 with rfl | rfl
      · rw [hb2] at hd; cases hd; unfold Ent.Lt; omega
      · intro hlt
        have := (hc2 d b hd hb2).2 hlt
        cases this
  dsimp only
  rw [e2, e1]
  refine jn.all (fun t w2 => (@Eq Bool t.1 true → 2 * n + 2 < l.length) ∧ (∀ x y, l[2 * n + 2]? = some x → l[2 * n + 1]? = some y → (@Eq Bool t.1 true ↔ x.Lt y)) ∧ Ok e (slc 3 s (flat entC l) :: L) w2) (fun K hK => ?_) ?_
  · refine cs.mk (fun h1 => ?_) (fun h1 => ?_)
    · have h1 : 2 * n + 2 < l.length := by have := of_decide_eq_true h1; omega
      obtain ⟨x, hx⟩ : ∃ x, l[2 * n + 2]? = some x := ⟨_, List.getElem?_eq_getElem h1⟩
      obtain ⟨y, hy⟩ : ∃ x, l[2 * n + 1]? = some x := ⟨_, List.getElem?_eq_getElem (by omega)⟩
      refine call255 (ahead_heap h hx hy fun w2 h => ⟨(x.lt y, ()), rfl, hK _ w2 ⟨fun _ => h1, fun x' y' hx' hy' => ?_, h⟩⟩)
      rw [hx] at hx'; rw [hy] at hy'
      cases hx'; cases hy'
      exact Ent.lt_iff
    · have h1 : ¬ 2 * n + 2 < l.length := by have := of_decide_eq_false h1; omega
      refine hK _ w1 ⟨(fun h => by cases h), fun x y hx _ => ?_, h⟩
      exact absurd (List.getElem?_eq_some_iff.1 hx).1 h1
  rintro ⟨(c : Bool), _⟩ w2 ⟨hc1, hc2, h⟩
  obtain ⟨q, hq, q0, qn, nq, qlen, qmin⟩ := main c hc1 hc2
  refine jn.at (t := ((q : Int), ())) (fun w' => w' = w2) (fun K hK => ?_) ?_
  · refine cs.mk (fun h1 => ?_) (fun h1 => ?_)
    · have h1 : c = true := h1
      rw [if_pos h1] at hq
      have := hK _ rfl
      rw [hq] at this
      exact this
    · have h1 : c = false := h1
      rw [if_neg (by rw [h1]; decide)] at hq
      have := hK _ rfl
      rw [hq] at this
      exact this
  rintro w' rfl
  by_cases hql : q < l.length
  · obtain ⟨b, hbq⟩ : ∃ x, l[q]? = some x := ⟨_, List.getElem?_eq_getElem hql⟩
    refine jn.at (t := (!b.lt a, ())) (fun w3 => Ok e (slc 3 s (flat entC l) :: L) w3) (fun K hK => ?_) (fun w3 h => ?_)
    · refine cs.no (by simp only [ge_iff_le, decide_eq_false_iff_not]; omega) ?_
      exact call255 (ahead_heap h hbq ha fun w3 h => ⟨(b.lt a, ()), rfl, hK w3 h⟩)
    · refine cs.mk (fun h1 => ?_) (fun h1 => ?_)
      · have h1 : ¬ b.Lt a := fun hc => by rw [Ent.lt_iff.2 hc] at h1; cases h1
        refine k w3 l (dn_end hJ fun j x y j0 jn hx hy => ?_) hp h
        rw [ha] at hy
        cases hy
        exact Ent.nlt_trans (qmin b hbq j x j0 jn hx) h1
      · have h1 : b.Lt a := Ent.lt_iff.1 (by cases hbl : b.lt a with | true => rfl | false => rw [hbl] at h1; cases h1)
        refine dr.mk h fun w4 h => ?_
        refine ix_flat entC_len (by decide) h (by omega) (by omega) fun b2 o2 x hx hsa ho2 hc => ?_
        rw [Int.toNat_natCast, hbq] at hx
        cases hx
        refine ldI.mk (hc 0 _ rfl _ ⟨_, h⟩) (ldI.mk (hc 1 _ rfl _ ⟨_, h⟩) (ldI.mk (hc 2 _ rfl _ ⟨_, h⟩) ?_))
        refine ix_flat entC_len (by decide) h (by omega) (by omega) fun b3 o3 y hy hsb ho3 hd => ?_
        rw [Int.toNat_natCast, ha] at hy
        cases hy
        refine ldI.mk (hd 0 _ rfl _ ⟨_, h⟩) (ldI.mk (hd 1 _ rfl _ ⟨_, h⟩) (ldI.mk (hd 2 _ rfl _ ⟨_, h⟩) ?_))
        refine ix_flat entC_len (by decide) h (by omega) (by omega) fun b4 o4 _ _ hsc ho4 _ => ?_
        refine st_ent (a := b) (i := n) h hn hsc (by rw [ho4, Int.toNat_natCast]) fun w5 h => ?_
        refine ix_flat entC_len (by decide) h (by omega) (by rw [List.length_set]; omega) fun b5 o5 _ _ hsd ho5 _ => ?_
        refine st_ent (a := a) (i := q) h (by rw [List.length_set]; omega) hsd (by rw [ho5, Int.toNat_natCast]) fun w6 h => ?_
        refine ⟨⟨swE l n q a b, q, rfl, dn_step hJ q0 qn ha hbq h1 (qmin b hbq), (swE_perm ha hbq).trans hp, by rw [swE_len]; exact hql, h⟩, ?_⟩
        show Int.toNat ((r.length : Int) - (q : Int)) < Int.toNat ((r.length : Int) - (n : Int))
        omega
  · refine jn.bool true (fun K hK => cs.yes (by simp; omega) hK) (cs.yes rfl ?_)
    refine k w' l (dn_end hJ fun j x y j0 jn hx hy => ?_) hp h
    have := (List.getElem?_eq_some_iff.1 hx).1
    rcases kid_cases j0 jn with rfl | rfl <;> omega

theorem hp_take {r : List Ent} (h : HpE r) (n : Nat) : HpE (r.take n) := by
  intro k a b k0 ha hb
  have h1 := (List.getElem?_eq_some_iff.1 ha).1
  rw [List.length_take] at h1
  rw [List.getElem?_take_of_lt (by omega)] at ha hb
  exact h k a b k0 ha hb

theorem ho_of_set {r : List Ent} {i : Nat} {x : Ent} (h : HpE r) (hi : i < r.length) : HoI (r.set i x) i := by
  refine ⟨fun k a b k0 k1 k2 ha hb => ?_, fun i0 k a b k0 ki ha hb => ?_⟩
  · rw [List.getElem?_set, if_neg (by omega)] at ha hb
    exact h k a b k0 ha hb
  · rw [List.getElem?_set, if_neg (by omega)] at ha hb
    have hx := List.getElem?_eq_getElem hi
    exact Ent.nlt_trans (h k a _ k0 ha (by rw [ki]; exact hx)) (h i _ b i0 hx hb)

theorem last_perm {r : List Ent} {n : Nat} {z : Ent} (hn : n + 1 = r.length) (hz : r[n]? = some z) : r.Perm (z :: r.take n) := by
  have : r = r.take n ++ [z] := by
    have h1 := List.take_append_drop n r
    have h2 : r.drop n = [z] := by
      rw [List.drop_eq_getElem_cons (by omega)]
      rw [List.getElem?_eq_getElem (by omega)] at hz
      cases hz
      rw [List.drop_eq_nil_of_le (by omega)]
    rw [h2] at h1
    exact h1.symm
  exact (List.Perm.of_eq this).trans List.perm_append_comm

def tmrP (t : Nat) (last : Int) (r : List Ent) (s : Sl) : List SP := [pts t [vS s, .int .i64 last], slc 3 s (flat entC r)]

theorem remove_heap {e w L t last s r R} {i : Nat} {x : Ent} (h : Ok e (pts t [vS s, .int .i64 last] :: slc 3 s (flat entC r) :: L) w) (hx : r[i]? = some x) (hb : r.length ≤ 256) (hp : HpE r)
    (k : ∀ w' s' r', HpE r' → r.Perm (x :: r') → Ok e (pts t [vS s', .int .i64 last] :: slc 3 s' (flat entC r') :: L) w' → R [] w') : sh230 (some ⟨t, 0, none⟩) (i : Int) R w := by
  unfold sh230
  have hi := (List.getElem?_eq_some_iff.1 hx).1
  have hsl : r.length = s.len := slc_flat_len entC_len (by decide) h.p1
  obtain ⟨n, hn⟩ : ∃ n, n + 1 = r.length := ⟨r.length - 1, by omega⟩
  obtain ⟨z, hz⟩ : ∃ z, r[n]? = some z := ⟨_, List.getElem?_eq_getElem (by omega)⟩
  have en : w64 ((s.len : Int) - 1) = (n : Int) := by rw [w64_in (by omega) (by omega)]; omega
  refine nn.mk (ldS.mk (h.cell rfl) (dr.mk h fun w1 h => nn.mk (ldS.mk (h.cell rfl) (nn.mk (ldS.mk (h.cell rfl) ?_)))))
  rw [en]
  refine ix_flat entC_len (by decide) h.p1 (by omega) (by omega) fun b2 o2 y hy hsa ho2 hc => ?_
  rw [Int.toNat_natCast, hz] at hy
  cases hy
  refine ldI.mk (hc 0 _ rfl _ ⟨_, h.p1⟩) (ldI.mk (hc 1 _ rfl _ ⟨_, h.p1⟩) (ldI.mk (hc 2 _ rfl _ ⟨_, h.p1⟩) ?_))
  refine ix_flat entC_len (by decide) h.p1 (by omega) (by omega) fun b3 o3 _ _ hsb ho3 _ => ?_
  refine st_ent (a := z) (i := i) h.p1 hi hsb (by rw [ho3, Int.toNat_natCast]) fun w2 h => ?_
  refine nn.mk (ldS.mk (h.p1.cell rfl) ?_)
  refine sb.take h (by omega) (by omega) fun s' hl' hc' h => ?_
  rw [Int.toNat_natCast, flat_take entC_len] at h
  refine nn.mk (st1.mk h.p1 (by simp) fun w3 h => ?_)
  have h : Ok e (pts t [vS s', .int .i64 last] :: slc 3 s' (flat entC ((r.set i z).take n)) :: L) w3 := h
  have hlast := last_perm hn hz
  refine cs.mk (fun h1 => ?_) (fun h1 => ?_)
  · have h1 : i < n := by have := of_decide_eq_true h1; omega
    have et : (r.set i z).take n = (r.take n).set i z := by rw [List.take_set]
    rw [et] at h
    have hxt : (r.take n)[i]? = some x := by rw [List.getElem?_take_of_lt h1]; exact hx
    have hit : i < (r.take n).length := by rw [List.length_take]; omega
    have hperm : r.Perm (x :: (r.take n).set i z) := hlast.trans (set_perm hxt).symm
    have hho := ho_of_set (x := z) (hp_take hp n) hit
    have hlen : ((r.take n).set i z).length = n := by rw [List.length_set, List.length_take]; omega
    refine nn.mk (ldS.mk (h.cell rfl) ?_)
    refine call248 (up_heap (fun l j => (l = (r.take n).set i z ∧ j = i) ∨ UpI l j) h.p1 (by omega) (by omega) (.inl ⟨rfl, rfl⟩) (fun l j a b hJ j0 ha hb hlt => .inr ?_) fun w4 l i' hJ hpl hii hend h => ⟨(), rfl, ?_⟩)
    · rcases hJ with ⟨rfl, rfl⟩ | hJ
      · exact up_step (.inl hho) j0 ha hb hlt
      · exact up_step (.inr hJ) j0 ha hb hlt
    · have hdn : DnI l i := by
        rcases hJ with ⟨rfl, rfl⟩ | hJ
        · exact dn_of_ho hho hend
        · exact dn_of_hp (up_end hJ hend)
      have hll : l.length = n := by rw [hpl.length_eq, hlen]
      refine nn.mk (ldS.mk (h.p1.cell rfl) ?_)
      refine call249 (down_heap h (by omega) (by omega) hdn fun w5 l2 hp2 hpl2 h => ⟨(), rfl, ?_⟩)
      exact k w5 s' l2 hp2 (hperm.trans ((hpl2.trans hpl).symm.cons x)) h.p1
  · have h1 : i = n := by have := of_decide_eq_false h1; omega
    subst h1
    rw [hx] at hz
    cases hz
    have e3 : (r.set i x).take i = r.take i := by
      rw [List.take_set, List.set_eq_of_length_le (by rw [List.length_take]; omega)]
    rw [e3] at h
    exact k w3 s' (r.take i) (hp_take hp i) hlast h

end Go.Proofs.YtenonfkfoedfmaaGreatDoor.B


/- Contracts of the packages heap, nums, clock and cyc. -/
namespace Go.Proofs.YtenonfkfoedfmaaGreatDoor.B
open Go
set_option linter.unusedVariables false

def tmP (t : Nat) (last : Int) (l : List Ent) : SP := fun h => ∃ s r, HpE r ∧ r.Perm l ∧ TmOk last l ∧ oksH [pts t [vS s, .int .i64 last], slc 3 s (flat entC r)] h

theorem tmE {e w L t last l} (h : Ok e (tmP t last l :: L) w) : ∃ s r, HpE r ∧ r.Perm l ∧ TmOk last l ∧ Ok e (pts t [vS s, .int .i64 last] :: slc 3 s (flat entC r) :: L) w := by
  obtain ⟨s, h⟩ := h.exE
  obtain ⟨r, h⟩ := h.exE
  obtain ⟨h1, h⟩ := h.pureE
  obtain ⟨h2, h⟩ := h.pureE
  obtain ⟨h3, h⟩ := h.pureE
  exact ⟨s, r, h1, h2, h3, h.unpack⟩

theorem tmI {e w L t last l s r} (h1 : HpE r) (h2 : r.Perm l) (h3 : TmOk last l) (h : Ok e (pts t [vS s, .int .i64 last] :: slc 3 s (flat entC r) :: L) w) : Ok e (tmP t last l :: L) w :=
  (Ok.pack (M := [pts t [vS s, .int .i64 last], slc 3 s (flat entC r)]) h).imp fun k hk => ⟨s, r, h1, h2, h3, hk⟩

theorem tm_ok {e w L t last l} (h : Ok e (tmP t last l :: L) w) : TmOk last l := (tmE h).choose_spec.choose_spec.2.2.1

theorem New_heap {e w L R} (h : Ok e L w) (k : ∀ t w', Ok e (tmP t 0 [] :: L) w' → R [.pointer (some ⟨t, 0, none⟩)] w') : sh229 R w := by
  unfold sh229
  refine al.mk h fun t w1 h => k t w1 (tmI (s := ⟨none, 0, 0⟩) (r := []) (fun k a b _ h => by simp at h) (List.Perm.refl _) tm_nil ?_)
  exact (h.slcNil 3).p1

theorem IndexFunc_heap {e w L s r c hd R} (h : Ok e (slc 3 s (flat entC r) :: pts c [.int .i64 hd] :: L) w) (hb : r.length ≤ 2 ^ 31)
    (k0 : ∀ w', (∀ x ∈ r, x.hd ≠ hd) → Ok e (slc 3 s (flat entC r) :: pts c [.int .i64 hd] :: L) w' → R [.int .i64 (-1)] w')
    (k1 : ∀ w' (i : Nat) x, r[i]? = some x → x.hd = hd → Ok e (slc 3 s (flat entC r) :: pts c [.int .i64 hd] :: L) w' → R [.int .i64 (i : Int)] w') : sh257 s ⟨258, [], [.pointer (some ⟨c, 0, none⟩)]⟩ R w := by
  unfold sh257
  have hl : r.length = s.len := slc_flat_len entC_len (by decide) h
  refine lp.mk (fun t w' => ∃ n : Nat, @Eq Int t.1 (n : Int) ∧ n ≤ r.length ∧ (∀ m, m < n → ∀ q, r[m]? = some q → q.hd ≠ hd) ∧ Ok e (slc 3 s (flat entC r) :: pts c [.int .i64 hd] :: L) w')
    (fun t _ => Int.toNat (Int.sub r.length t.1)) ⟨0, rfl, Nat.zero_le _, fun m hm => absurd hm (Nat.not_lt_zero _), h⟩ ?_
  rintro ⟨(i : Int), _⟩ w1 ⟨n, (rfl : i = (n : Int)), hnl, hno, h⟩
  refine cs.mk (fun hlt => ?_) (fun hge => ?_)
  · have hlt : n < r.length := by have := of_decide_eq_true hlt; dsimp only at this; omega
    refine ix_flat entC_len (by decide) h (by simp only; omega) (by simp only; omega) fun b o p hp ha ho hc => ?_
    rw [Int.toNat_natCast] at hp
    refine ldI.mk (hc 0 _ rfl _ ⟨_, h⟩) (ldI.mk (hc 1 _ rfl _ ⟨_, h⟩) (ldI.mk (hc 2 _ rfl _ ⟨_, h⟩) ?_))
    refine ob.mk (by kernel_rfl) ?_
    refine call258 (a0 := (p.at', p.hd, p.arg, ())) (c0 := c) ?_
    unfold sh258
    refine al.mk h fun b1 w2 h => ?_
    refine ldI.mk (h.cell rfl) (ldI.mk (h.p2.cell rfl) ?_)
    refine ⟨(p.hd == hd, ()), rfl, ?_⟩
    dsimp only
    refine cs.mk (fun he => ?_) (fun hne => ?_)
    · have he : p.hd = hd := by simpa using he
      exact k1 w2 n p hp he h.drop
    · have hne : p.hd ≠ hd := by simpa using hne
      refine ⟨⟨n + 1, ?_, hlt, fun m hm q hq => ?_, h.drop⟩, ?_⟩
      · show w64 ((n : Int) + 1) = _
        rw [w64_in (by omega) (by omega)]; rfl
      · rcases Nat.lt_or_ge m n with hm' | hm'
        · exact hno m hm' q hq
        · have : m = n := by omega
          subst this
          rw [hp] at hq
          cases hq
          exact hne
      · show Int.toNat (Int.sub _ (w64 ((n : Int) + 1))) < Int.toNat (Int.sub _ (n : Int))
        rw [w64_in (by omega) (by omega)]
        show Int.toNat ((r.length : Int) - ((n : Int) + 1)) < Int.toNat ((r.length : Int) - (n : Int))
        omega
  · have hge : r.length ≤ n := by have := of_decide_eq_false hge; dsimp only at this; omega
    refine k0 w1 (fun p hp => ?_) h
    obtain ⟨m, hm, rfl⟩ := List.getElem_of_mem hp
    exact hno m (by omega) _ (List.getElem?_eq_getElem hm)

theorem Cancel_heap {e w L t last l hd R} (h : Ok e (tmP t last l :: L) w)
    (k : ∀ w' b, Ok e (tmP t last (delE hd l) :: L) w' → R [.bool b] w') : sh236 (some ⟨t, 0, none⟩) hd R w := by
  obtain ⟨s, r, hp, hr, ho, h⟩ := tmE h
  have hrl := hr.length_eq
  have hb := ho.len
  unfold sh236
  refine call251 ?_
  unfold sh251
  refine al.mk h fun c w1 h => nn.mk (ldS.mk (h.p1.cell rfl) ?_)
  refine call257 (a1 := ⟨258, [], [.pointer (some ⟨c, 0, none⟩)]⟩) (IndexFunc_heap (c := c) (hd := hd) h.p2 (by omega) (fun w2 hno h => ⟨((-1 : Int), ()), rfl, ⟨((-1 : Int), ()), rfl, ?_⟩⟩) (fun w2 i x hx he h => ⟨((i : Int), ()), rfl, ⟨((i : Int), ()), rfl, ?_⟩⟩))
  · refine cs.no rfl (k w2 _ ?_)
    rw [delE_none fun x hx => hno x (hr.mem_iff.2 hx)]
    exact tmI hp hr ho h.p2.p2.drop
  · refine cs.yes (by simp) ?_
    refine call230 (remove_heap h.p2.p2.drop hx (by omega) hp fun w3 s' r' hp' hr' h => ⟨(), rfl, k w3 _ ?_⟩)
    rw [← he]
    exact tmI hp' (tm_del_perm ho hr hr') (tm_del ho) h

theorem Insert_heap {e w L t last l at' arg R} (h : Ok e (tmP t last l :: L) w) (hb : l.length < 256) (h0 : 0 ≤ last ∧ last ≤ 2 ^ 60)
    (k : ∀ w', Ok e (tmP t (last + 1) (insE ⟨at', last + 1, arg⟩ l) :: L) w' → R [.int .i64 (last + 1), .int .i64 0] w') : sh253 (some ⟨t, 0, none⟩) at' arg R w := by
  obtain ⟨s, r, hp, hr, ho, h⟩ := tmE h
  have hrl := hr.length_eq
  have hsl : r.length = s.len := slc_flat_len entC_len (by decide) h.p1
  unfold sh253
  refine nn.mk (ldS.mk (h.cell rfl) (cs.no (by simp; omega) (nn.mk (ldI.mk (h.cell rfl) (nn.mk (st1.mk h (by simp) fun w1 h => ?_))))))
  rw [w64_in (by omega) (by omega)] at h
  refine dr.mk h fun w2 h => nn.mk (ldS.mk (h.cell rfl) (nn.mk (ldI.mk (h.cell rfl) (al.mk h fun b w3 h => ⟨h.p1.cell rfl, ?_⟩))))
  have e1 : [Value.int .u64 at', .int .i64 (last + 1), .int .i64 arg] = flat entC [⟨at', last + 1, arg⟩] := rfl
  rw [e1] at h
  refine ef.append1 (n := 1) slT_ent (by decide) h.p1.q2 rfl (flat_one entC_one) (by omega) fun s' w4 hl h => ?_
  rw [← flat_append] at h
  refine nn.mk (st1.mk h.p1 (by simp) fun w5 h => dr.mk h fun w6 h => nn.mk (ldS.mk (h.cell rfl) (nn.mk (ldS.mk (h.cell rfl) ?_))))
  dsimp only at h ⊢
  have el : w64 ((s'.len : Int) - 1) = (r.length : Int) := by rw [w64_in (by omega) (by omega)]; omega
  rw [el]
  have hup : UpI (r ++ [⟨at', last + 1, arg⟩]) r.length := by
    refine ⟨fun q a b q0 q1 ha hb2 => ?_, fun i0 q a b q0 q1 ha hb2 => ?_⟩
    · have h1 := (List.getElem?_eq_some_iff.1 ha).1
      rw [List.length_append, List.length_singleton] at h1
      rw [List.getElem?_append_left (by omega)] at ha hb2
      exact hp q a b q0 ha hb2
    · have h1 := (List.getElem?_eq_some_iff.1 ha).1
      rw [List.length_append, List.length_singleton] at h1
      omega
  refine call248 (up_heap UpI h.p1 (by simp) (by simp; omega) hup (fun l j a b hJ j0 ha hb hlt => up_step (.inr hJ) j0 ha hb hlt) fun w7 l' i' hJ hpl _ hend h => ⟨(), rfl, nn.mk (ldI.mk (h.p1.cell rfl) (k w7 ?_))⟩)
  refine tmI (up_end hJ hend) ?_ (tm_ins ho h0.1 hb) h.p1
  refine hpl.trans (List.perm_append_comm.trans ?_)
  exact ((hr.cons _).trans (insE_perm _ l).symm)

theorem Due_heap {e w L t last l now R} (h : Ok e (tmP t last l :: L) w)
    (k : ∀ s w', Ok e (slc 1 s (ints ((dueE now l).map Ent.arg)) :: tmP t last (restE now l) :: L) w' → R [vS s] w') : sh189 (some ⟨t, 0, none⟩) now R w := by
  have hb := (tm_ok h).len
  unfold sh189
  refine lp.mk (fun x w1 => ∃ a b : List Ent, l = a ++ b ∧ (∀ y ∈ a, y.at' ≤ now) ∧ Ok e (slc 1 x.1 (ints (a.map Ent.arg)) :: tmP t last b :: L) w1) (fun x _ => l.length - x.1.len) ⟨[], l, rfl, by simp, h.slcNil 1⟩ ?_
  rintro ⟨(s : Sl), _⟩ w1 ⟨a, b, hl, ha, g⟩
  have g1 : Ok e (slc 1 s (ints (a.map Ent.arg)) :: tmP t last b :: L) w1 := g
  have hsa : a.length = s.len := by have := g1.slc_len; rw [ints_len, List.length_map] at this; omega
  obtain ⟨s2, r, hp, hr, ho, h⟩ := tmE g1.p1
  have hrl := hr.length_eq
  have hll : l.length = a.length + b.length := by rw [hl, List.length_append]
  have hsl : r.length = s2.len := slc_flat_len entC_len (by decide) h.p1
  refine nn.mk (ldS.mk (h.cell rfl) ?_)
  cases b with
  | nil =>
    have hd1 : dueE now l = a := by
      rw [hl]
      unfold dueE
      rw [List.takeWhile_append_of_pos (by simpa using ha)]
      simp
    have hd2 : restE now l = [] := by
      rw [hl]
      unfold restE
      rw [List.dropWhile_append_of_pos (by simpa using ha)]
      simp
    rw [hd1, hd2] at k
    refine jn.bool false (fun J hJ => cs.no (by have : r.length = 0 := hrl; simp; omega) hJ) (cs.no rfl (k s w1 ?_))
    exact (tmI hp hr ho (h.p2.q2 : Ok e (pts t [vS s2, .int .i64 last] :: slc 3 s2 (flat entC r) :: slc 1 s (ints (a.map Ent.arg)) :: L) w1)).p1
  | cons x b =>
    obtain ⟨y, hy⟩ : ∃ y, r[0]? = some y := ⟨_, List.getElem?_eq_getElem (by rw [hrl]; simp)⟩
    have hyx := tm_first ho hp hr hy
    subst hyx
    have hr0 : 0 < r.length := by rw [hrl]; simp
    refine jn.bool (decide (y.at' ≤ now)) (fun J hJ => cs.yes (by simp; omega) ?_) ?_
    · refine nn.mk (ldS.mk (h.cell rfl) ?_)
      refine ix_flat entC_len (by decide) h.p1 (by omega) (by omega) fun b2 o2 z hz hsa2 ho2 hc => ?_
      rw [show (0 : Int).toNat = 0 from rfl, hy] at hz
      cases hz
      exact ldI.mk (hc 0 _ rfl _ ⟨_, h.p1⟩) hJ
    · refine cs.mk (fun h1 => ?_) (fun h1 => ?_)
      · have h1 := of_decide_eq_true h1
        refine nn.mk (ldS.mk (h.cell rfl) ?_)
        refine ix_flat entC_len (by decide) h.p1 (by omega) (by omega) fun b2 o2 z hz hsa2 ho2 hc => ?_
        rw [show (0 : Int).toNat = 0 from rfl, hy] at hz
        cases hz
        refine ldI.mk (hc 2 _ rfl _ ⟨_, h.p1⟩) (al.mk h fun c w2 h => ?_)
        have hb1 : (y :: b).length = b.length + 1 := rfl
        refine ef.append1 (n := 1) slT_int (by decide) ((Ok.emb (h) (.cons (A := pts c [Value.int .i64 y.arg]) (by with_reducible first | exact sl0 | exact .there sl0 | exact .there sl1 | exact .there sl2 | exact .there sl3 | exact .there sl4 | exact .there sl5 | exact .there sl6 | exact .there sl7 | exact .there sl8 | exact .there sl9 | exact .there sl10 | exact .there sl11 | exact .there sl12) (.cons (A := slc 1 s (ints (a.map Ent.arg))) (by with_reducible first | exact sl0 | exact .there sl0 | exact .there sl1 | exact .there sl2 | exact .there sl3 | exact .there sl4 | exact .there sl5 | exact .there sl6 | exact .there sl7 | exact .there sl8 | exact .there sl9 | exact .there sl10 | exact .there sl11 | exact .there sl12) (.same _))))) rfl (ints_one [y.arg]) (by show s.len + 1 ≤ 2 ^ 32; omega) fun s' w3 hl' h => ?_
        have e1 : ints (a.map Ent.arg) ++ [Value.int .i64 y.arg] = ints ((a ++ [y]).map Ent.arg) := by simp [ints]
        rw [e1] at h
        refine call230 (remove_heap (i := 0) ((Ok.emb (h) (.cons (A := pts t [vS s2, .int .i64 last]) (by with_reducible first | exact sl0 | exact .there sl0 | exact .there sl1 | exact .there sl2 | exact .there sl3 | exact .there sl4 | exact .there sl5 | exact .there sl6 | exact .there sl7 | exact .there sl8 | exact .there sl9 | exact .there sl10 | exact .there sl11 | exact .there sl12) (.cons (A := slc 3 s2 (flat entC r)) (by with_reducible first | exact sl0 | exact .there sl0 | exact .there sl1 | exact .there sl2 | exact .there sl3 | exact .there sl4 | exact .there sl5 | exact .there sl6 | exact .there sl7 | exact .there sl8 | exact .there sl9 | exact .there sl10 | exact .there sl11 | exact .there sl12) (.same _))))) hy (by omega) hp fun w4 s4 r' hp' hr' h => ⟨(), rfl, ?_⟩)
        have hrb : r'.Perm b := (List.perm_cons y).1 (hr'.symm.trans hr)
        refine ⟨⟨a ++ [y], b, by rw [hl]; simp, fun z hz => ?_, ?_⟩, ?_⟩
        · rcases List.mem_append.1 hz with hz | hz
          · exact ha z hz
          · simp at hz; subst hz; exact h1
        · exact (tmI hp' hrb (tm_sub ho (List.sublist_cons_self ..)) h).p1
        · have hl2 : s'.len = s.len + 1 := hl'
          show l.length - s'.len < l.length - s.len
          omega
      · have h1 := of_decide_eq_false h1
        have hd1 : dueE now l = a := by
          rw [hl]
          unfold dueE
          rw [List.takeWhile_append_of_pos (by simpa using ha), List.takeWhile_cons_of_neg (by simpa using h1), List.append_nil]
        have hd2 : restE now l = y :: b := by
          rw [hl]
          unfold restE
          rw [List.dropWhile_append_of_pos (by simpa using ha), List.dropWhile_cons_of_neg (by simpa using h1)]
        rw [hd1, hd2] at k
        exact k s w1 (tmI hp hr ho (h.p2.q2 : Ok e (pts t [vS s2, .int .i64 last] :: slc 3 s2 (flat entC r) :: slc 1 s (ints (a.map Ent.arg)) :: L) w1)).p1

end Go.Proofs.YtenonfkfoedfmaaGreatDoor.B


/- Contracts of the packages nums, clock and cyc. -/
namespace Go.Proofs.YtenonfkfoedfmaaGreatDoor.B
open Go
set_option linter.unusedVariables false

theorem u64_in {x : Int} (h0 : 0 ≤ x) (h1 : x < 18446744073709551616) : IntKind.u64.wrap x = x := by
  simp only [IntKind.wrap, IntKind.signed, IntKind.bits]
  have : x % 2 ^ 64 = x := Int.emod_eq_of_lt h0 (by simpa using h1)
  simpa using this

/-- handlers on a clock: none but those that wait -/
def hnP (b : Nat) (tic up tb last : Int) (l : List Ent) : SP := fun h => ∃ c t, oksH [pts b [.pointer (some ⟨c, 0, none⟩), .int .u64 tic, .slice none 0 0, .slice none 0 0], pts c [.pointer (some ⟨t, 0, none⟩), .int .u64 tic, .int .u64 up, .int .u64 tb], tmP t last l] h

theorem hnE {e w L b tic up tb last l} (h : Ok e (hnP b tic up tb last l :: L) w) : ∃ c t, Ok e (pts b [.pointer (some ⟨c, 0, none⟩), .int .u64 tic, .slice none 0 0, .slice none 0 0] :: pts c [.pointer (some ⟨t, 0, none⟩), .int .u64 tic, .int .u64 up, .int .u64 tb] :: tmP t last l :: L) w := by
  obtain ⟨c, h⟩ := h.exE
  obtain ⟨t, h⟩ := h.exE
  exact ⟨c, t, h.unpack⟩

theorem hnI {e w L b tic up tb last l c t} (h : Ok e (pts b [.pointer (some ⟨c, 0, none⟩), .int .u64 tic, .slice none 0 0, .slice none 0 0] :: pts c [.pointer (some ⟨t, 0, none⟩), .int .u64 tic, .int .u64 up, .int .u64 tb] :: tmP t last l :: L) w) : Ok e (hnP b tic up tb last l :: L) w :=
  (Ok.pack (M := [pts b [.pointer (some ⟨c, 0, none⟩), .int .u64 tic, .slice none 0 0, .slice none 0 0], pts c [.pointer (some ⟨t, 0, none⟩), .int .u64 tic, .int .u64 up, .int .u64 tb], tmP t last l]) h).imp fun k hk => ⟨c, t, hk⟩

theorem NewHands_cyc {e w L tic R} (h : Ok e L w) (ht : 1 ≤ tic ∧ tic ≤ 1000) (k : ∀ b w', Ok e (hnP b tic 0 0 0 [] :: L) w' → R [.pointer (some ⟨b, 0, none⟩), .int .i64 0] w') : sh101 tic R w := by
  unfold sh101
  refine call186 ?_
  unfold sh186
  refine jn.bool false (fun J hJ => cs.no (by simp; omega) ?_) (cs.no rfl ?_)
  · rw [decide_eq_false (by omega)]; exact hJ
  refine call229 (New_heap h fun t w1 h => ⟨(some ⟨t, 0, none⟩, ()), rfl, ?_⟩)
  refine al.mk h fun c w2 h => ⟨(some ⟨c, 0, none⟩, (0 : Int), ()), rfl, ?_⟩
  refine cs.no rfl (al.mk h fun b w3 h => k b w3 ?_)
  rw [u64_in (by omega) (by omega)] at h
  exact hnI h

theorem Rel_nums {w d R} (hd : 0 ≤ d ∧ d ≤ 2147483647) (k : R [.int .u64 d, .int .i64 0] w) : sh137 d R w := by
  unfold sh137
  refine jn.bool false (fun J hJ => cs.no (by simp; omega) ?_) (cs.no rfl ?_)
  · rw [decide_eq_false (by omega)]; exact hJ
  rw [u64_in (by omega) (by omega)]
  exact k

theorem Rel_bad {w d R} (hd : ¬ (0 ≤ d ∧ d ≤ 2147483647)) (k : R [.int .u64 0, .int .i64 (-17)] w) : sh137 d R w := by
  unfold sh137
  refine jn.bool true (fun J hJ => cs.mk (fun _ => hJ) (fun h1 => ?_)) (cs.yes rfl k)
  have h1 := of_decide_eq_false h1
  rw [decide_eq_true (by omega)]; exact hJ

theorem Wait_cyc {e w L b tic up tb last l d arg R} (h : Ok e (hnP b tic up tb last l :: L) w) (ht : 0 ≤ tic ∧ tic ≤ 1000) (hc : 0 ≤ d ∧ d ≤ 2147483647 ∧ 0 ≤ arg ∧ arg ≤ 1000 ∧ l.length < 256 ∧ 0 ≤ up ∧ up ≤ 2 ^ 40 ∧ 0 ≤ last ∧ last ≤ 2 ^ 40)
    (k : ∀ w', Ok e (hnP b tic up tb (last + 1) (insE ⟨up + d + tic, last + 1, arg⟩ l) :: L) w' → R [.int .i64 (last + 1), .int .i64 0] w') : sh206 (some ⟨b, 0, none⟩) d arg R w := by
  obtain ⟨c, t, h⟩ := hnE h
  obtain ⟨h1, h2, h3, h4, h5, h6, h7, h8, h9⟩ := hc
  unfold sh206
  refine jn.bool false (fun J hJ => cs.no (by simp; omega) ?_) (cs.no rfl ?_)
  · rw [decide_eq_false (by omega)]; exact hJ
  refine nn.mk (ldP.mk (h.cell rfl) ?_)
  refine call242 ?_
  unfold sh242
  refine call137 (Rel_nums ⟨h1, h2⟩ ⟨(d, (0 : Int), ()), rfl, ?_⟩)
  refine cs.no rfl (dr.mk h fun w1 h => nn.mk (ldP.mk (h.p1.cell rfl) (nn.mk (ldI.mk (h.p1.cell rfl) (nn.mk (ldI.mk (h.p1.cell rfl) ?_))))))
  dsimp only
  rw [u64_in (x := up + d) (by omega) (by omega), u64_in (by omega) (by omega)]
  refine call253 (Insert_heap h.p2 h5 (by omega) fun w2 h => ⟨(last + 1, (0 : Int), ()), rfl, ⟨(last + 1, (0 : Int), ()), rfl, k w2 ?_⟩⟩)
  exact hnI h.q2

theorem Up_clock {e w L c x tic up tb R} (h : Ok e (pts c [x, .int .u64 tic, .int .u64 up, .int .u64 tb] :: L) w) (k : R [.int .u64 up] w) : sh107 (some ⟨c, 0, none⟩) R w := by
  unfold sh107
  exact nn.mk (ldI.mk (h.cell rfl) k)

theorem Tick_clock {e w L t c tic up tb last l R} (h : Ok e (pts c [.pointer (some ⟨t, 0, none⟩), .int .u64 tic, .int .u64 up, .int .u64 tb] :: tmP t last l :: L) w) (ht : 0 ≤ tic ∧ tic ≤ 1000) (hu : 0 ≤ up ∧ up ≤ 2 ^ 40)
    (k : ∀ s w', Ok e (slc 1 s (ints ((dueE (up + tic) l).map Ent.arg)) :: pts c [.pointer (some ⟨t, 0, none⟩), .int .u64 tic, .int .u64 (up + tic), .int .u64 tb] :: tmP t last (restE (up + tic) l) :: L) w' → R [vS s] w') : sh106 (some ⟨c, 0, none⟩) R w := by
  unfold sh106
  refine dr.mk h fun w1 h => nn.mk (ldI.mk (h.cell rfl) (nn.mk (ldI.mk (h.cell rfl) (nn.mk (st1.mk h (by simp) fun w2 h => ?_)))))
  rw [u64_in (by omega) (by omega)] at h
  refine dr.mk h fun w3 h => nn.mk (ldP.mk (h.cell rfl) (nn.mk (ldI.mk (h.cell rfl) ?_)))
  refine call189 (Due_heap h.p1 fun s w4 h => ⟨(s, ()), rfl, k s w4 ?_⟩)
  exact h.p2.p1

theorem Sort_none {w R} {f : Fv} (k : R [] w) : sh108 ⟨none, 0, 0⟩ f R w := by
  unfold sh108
  refine call190 (a2 := f) ?_
  unfold sh190
  refine lp.mk (fun t w1 => w1 = w ∧ @Eq Int t.1 0 ∧ @Eq Int t.2.1 20) (fun _ _ => 0) ⟨rfl, rfl, rfl⟩ ?_
  rintro ⟨(a : Int), (b : Int), _⟩ w1 ⟨rfl, (rfl : a = 0), (rfl : b = 20)⟩
  refine cs.no rfl ?_
  refine call231 (a3 := f) ?_
  unfold sh231
  refine lp.mk (fun t w2 => w2 = w1 ∧ @Eq Int t.1 1) (fun _ _ => 0) ⟨rfl, rfl⟩ ?_
  rintro ⟨(a : Int), _⟩ w2 ⟨rfl, (rfl : a = 1)⟩
  refine cs.no rfl ⟨(), rfl, ?_⟩
  refine lp.mk (fun t w3 => w3 = w2 ∧ @Eq Int t.1 20) (fun _ _ => 0) ⟨rfl, rfl⟩ ?_
  rintro ⟨(a : Int), _⟩ w3 ⟨rfl, (rfl : a = 20)⟩
  exact cs.no rfl ⟨(), rfl, k⟩

theorem Pass_cyc {e w L b tic up tb last l R} (h : Ok e (hnP b tic up tb last l :: L) w) (ht : 0 ≤ tic ∧ tic ≤ 1000) (hu : 0 ≤ up ∧ up ≤ 2 ^ 40)
    (k : ∀ s w', Ok e (slc 1 s (ints ((dueE (up + tic) l).map Ent.arg)) :: hnP b tic (up + tic) tb last (restE (up + tic) l) :: L) w' → R [vS ⟨none, 0, 0⟩, vS s] w') : sh53 (some ⟨b, 0, none⟩) R w := by
  unfold sh53
  obtain ⟨c, t, h⟩ := hnE h
  refine nn.mk (ldP.mk (h.cell rfl) ?_)
  refine call106 (Tick_clock h.p1.p2.p1 ht hu fun s w1 h => ⟨(s, ()), rfl, ?_⟩)
  have h : Ok e (pts b [.pointer (some ⟨c, 0, none⟩), .int .u64 tic, .slice none 0 0, .slice none 0 0] :: pts c [.pointer (some ⟨t, 0, none⟩), .int .u64 tic, .int .u64 (up + tic), .int .u64 tb] :: tmP t last (restE (up + tic) l) :: slc 1 s (ints ((dueE (up + tic) l).map Ent.arg)) :: L) w1 := (h.emb (by repeat' (first | with_reducible exact Emb.same _ | exact Emb.nil _ | refine Emb.cons (by with_reducible first | exact sl0 | exact .there sl0 | exact .there sl1 | exact .there sl2 | exact .there sl3 | exact .there sl4 | exact .there sl5 | exact .there sl6 | exact .there sl7 | exact .there sl8 | exact .there sl9 | exact .there sl10 | exact .there sl11 | exact .there sl12) ?_ | refine Emb.skip ?_)))
  refine nn.mk (ldP.mk (h.cell rfl) ?_)
  refine call107 (Up_clock h.p1 ⟨(up + tic, ()), rfl, ?_⟩)
  refine nn.mk (ldS.mk (x := ⟨none, 0, 0⟩) (h.cell rfl) ?_)
  refine lp.mk (fun x w2 => w2 = w1 ∧ @Eq Sl x.1 ⟨none, 0, 0⟩ ∧ @Eq Int x.2.1 0) (fun _ _ => 0) ⟨rfl, rfl, rfl⟩ ?_
  rintro ⟨(x : Sl), (i : Int), _⟩ w2 ⟨rfl, (rfl : x = ⟨none, 0, 0⟩), (rfl : i = 0)⟩
  refine cs.no rfl (nn.mk (ldS.mk (x := ⟨none, 0, 0⟩) (h.cell rfl) ?_))
  refine lp.mk (fun x w3 => w3 = w2 ∧ @Eq Sl x.1 ⟨none, 0, 0⟩ ∧ @Eq Int x.2.1 0) (fun _ _ => 0) ⟨rfl, rfl, rfl⟩ ?_
  rintro ⟨(x : Sl), (i : Int), _⟩ w3 ⟨rfl, (rfl : x = ⟨none, 0, 0⟩), (rfl : i = 0)⟩
  refine cs.no rfl ?_
  refine call108 (a1 := ⟨109, [], []⟩) (Sort_none ⟨(), rfl, ?_⟩)
  refine call110 ?_
  unfold sh110
  refine ⟨Int.le_refl _, Int.le_refl _, Int.le_refl _, Int.le_refl _, ⟨(⟨none, 0, 0⟩, ()), rfl, k s w3 ?_⟩⟩
  exact (hnI h).p1

/-- there are no handlers -/
theorem cyc_none {e w L b tic up tb last l o R} (h : Ok e (hnP b tic up tb last l :: L) w) (k : R [.pointer none] w) : sh221 (some ⟨b, 0, none⟩) o R w := by
  obtain ⟨c, t, h⟩ := hnE h
  unfold sh221
  refine jn.bool true (fun J hJ => cs.mk (fun _ => hJ) (fun h1 => ?_)) (cs.yes rfl k)
  have h1 := of_decide_eq_false h1
  refine nn.mk (ldS.mk (x := ⟨none, 0, 0⟩) (h.cell rfl) ?_)
  rw [decide_eq_true (by simp only; omega)]; exact hJ

theorem alarm_none {e w L b tic up tb last l o R} (h : Ok e (hnP b tic up tb last l :: L) w) (k : R [.pointer none] w) : sh222 (some ⟨b, 0, none⟩) o R w := by
  obtain ⟨c, t, h⟩ := hnE h
  unfold sh222
  refine jn.bool true (fun J hJ => cs.mk (fun _ => hJ) (fun h1 => ?_)) (cs.yes rfl k)
  have h1 := of_decide_eq_false h1
  refine nn.mk (ldS.mk (x := ⟨none, 0, 0⟩) (h.cell rfl) ?_)
  rw [decide_eq_true (by simp only; omega)]; exact hJ

theorem Start_none {e w L b tic up tb last l o R} (h : Ok e (hnP b tic up tb last l :: L) w) (k : R [.int .i64 (-18)] w) : sh160 (some ⟨b, 0, none⟩) o R w := by
  unfold sh160
  exact call221 (cyc_none h ⟨((none : Option Addr), ()), rfl, cs.yes rfl k⟩)

theorem Stop_none {e w L b tic up tb last l o R} (h : Ok e (hnP b tic up tb last l :: L) w) (k : R [.int .i64 (-18)] w) : sh161 (some ⟨b, 0, none⟩) o R w := by
  unfold sh161
  exact call221 (cyc_none h ⟨((none : Option Addr), ()), rfl, cs.yes rfl k⟩)

theorem Set_none {e w L b tic up tb last l o d R} (h : Ok e (hnP b tic up tb last l :: L) w) (k : R [.int .i64 (-18)] w) : sh162 (some ⟨b, 0, none⟩) o d R w := by
  unfold sh162
  exact call222 (alarm_none h ⟨((none : Option Addr), ()), rfl, cs.yes rfl k⟩)

theorem Clear_none {e w L b tic up tb last l o R} (h : Ok e (hnP b tic up tb last l :: L) w) (k : R [.int .i64 (-18)] w) : sh163 (some ⟨b, 0, none⟩) o R w := by
  unfold sh163
  exact call222 (alarm_none h ⟨((none : Option Addr), ()), rfl, cs.yes rfl k⟩)

end Go.Proofs.YtenonfkfoedfmaaGreatDoor.B


/- Contracts of the package ready: the first one, all of them. -/
namespace Go.Proofs.YtenonfkfoedfmaaGreatDoor.B
open Go
set_option linter.unusedVariables false

theorem nextB_some {W p i : Nat} (hi : i < 16) (hp : p ≤ i) (hb : W.testBit i = true) (hl : ∀ j, p ≤ j → j < i → W.testBit j = false) : nextB W p = some i := by
  cases h : nextB W p with
  | none =>
    have := List.find?_eq_none.1 h i (List.mem_range.2 hi)
    simp [hp, hb] at this
  | some j =>
    obtain ⟨h1, h2, h3⟩ := find_range h
    simp only [Bool.and_eq_true, decide_eq_true_eq] at h2
    rcases Nat.lt_trichotomy i j with hij | hij | hij
    · have := h3 i hij
      simp [hp, hb] at this
    · rw [hij]
    · have := hl j h2.1 hij
      rw [this] at h2
      cases h2.2

theorem bitsR_no {W : Nat} {l : List (Int × Int)} (h : BitsR W l) {j : Nat} (hj : j < 16) : W.testBit j = false ↔ rowR l ((j : Int) + 1) = [] := by
  have hbit := h.bit j hj
  by_cases e : rowR l ((j : Int) + 1) = []
  · refine ⟨fun _ => e, fun _ => ?_⟩
    cases hb : W.testBit j with
    | false => rfl
    | true => exact absurd e (hbit.1 hb)
  · refine ⟨fun h2 => ?_, fun h2 => absurd h2 e⟩
    rw [hbit.2 e] at h2
    cases h2

theorem nextB_first {W : Nat} {x : Int × Int} {l : List (Int × Int)} (h : BitsR W (x :: l)) (ho : RdOk (x :: l)) : nextB W 0 = some (x.2 - 1).toNat := by
  have hb := ho.bd x (List.mem_cons_self ..)
  obtain ⟨h1, h2⟩ := rowR_first ho
  have e : (((x.2 - 1).toNat : Nat) : Int) + 1 = x.2 := by omega
  refine nextB_some (by omega) (Nat.zero_le _) ((h.bit _ (by omega)).2 ?_) fun j _ hj => (bitsR_no h (by omega)).2 (h2 _ (by omega))
  rw [e]
  intro e2
  rw [e2] at h1; cases h1

theorem rdy_cells {e w L r W ss f} (h : Ok e (pts r (rdC W ss f) :: L) w) : w.cell? ⟨r, 0, none⟩ = some (.int .u64 W) ∧ ∀ j, 1 ≤ j → j < 4 → w.cell? ⟨r, j, none⟩ = some (.int .u64 0) := by
  refine ⟨h.cell rfl, fun j h1 h2 => h.cell ?_⟩
  have : j = 1 ∨ j = 2 ∨ j = 3 := by omega
  rcases this with rfl | rfl | rfl <;> rfl

theorem First_ready {e w L r l R} (t : TabE e) (h : Ok e (rdyP r l :: old e :: L) w) (k0 : l = [] → R [.int .i64 0, .bool false] w) (k1 : ∀ x m, l = x :: m → R [.int .i64 x.1, .bool true] w) :
    sh121 (some ⟨r, 0, none⟩) R w := by
  obtain ⟨W, ss, ho, hb, h⟩ := rdyE h
  unfold sh121
  refine nn.mk ?_
  obtain ⟨c0, c1⟩ := rdy_cells h
  refine call169 (First_bits c0 c1 hb.lt (t.w h.p2) (fun hn => ⟨((0 : Int), false, ()), rfl, cs.yes rfl (k0 ?_)⟩) (fun i hi => ⟨(((i + 1 : Nat) : Int), true, ()), rfl, cs.no rfl ?_⟩))
  · cases l with
    | nil => rfl
    | cons x m => rw [nextB_first hb ho] at hn; cases hn
  · cases l with
    | nil =>
      have hz := (bitsR_zero hb ho).2 rfl
      subst hz
      have := (find_range hi).2.1
      simp at this
    | cons x m =>
      rw [nextB_first hb ho] at hi
      cases hi
      have hbd := ho.bd x (List.mem_cons_self ..)
      have hq : ((x.2 - 1).toNat + 1) < 17 := by omega
      dsimp only
      refine nn.mk ⟨by omega, by omega, ldS.mk (by rw [Int.toNat_natCast, Nat.zero_add, Nat.mul_one]; exact h.cell (rdC_row hq)) ?_⟩
      obtain ⟨H, h2, -⟩ := star_open h.p1 hq
      have e2 : (((x.2 - 1).toNat + 1 : Nat) : Int) = x.2 := by omega
      rw [e2] at h2
      have hf := (rowR_first ho).1
      have hlen : (rowR (x :: m) x.2).length = (ss ((x.2 - 1).toNat + 1)).len := by have := h2.slc_len; rw [ints_len] at this; omega
      cases hr : rowR (x :: m) x.2 with
      | nil => rw [hr] at hf; cases hf
      | cons y ys =>
        rw [hr] at hf hlen h2
        simp at hf
        subst hf
        refine ix_int h2 (by simp) (by simp at hlen ⊢; omega) fun b o z hz hc => ?_
        have hz : z = x.1 := by simpa using hz.symm
        subst hz
        exact ldI.mk (hc _ ⟨_, h2⟩) (k1 x m rfl)

end Go.Proofs.YtenonfkfoedfmaaGreatDoor.B


/- Contracts of the laws' own queue. -/
namespace Go.Proofs.YtenonfkfoedfmaaGreatDoor.B
open Go
set_option linter.unusedVariables false

def refP (q : Nat) (byPri : Bool) (l : List (Int × Int)) : SP := fun h => ∃ s, oksH [pts q [.bool byPri, vS s], slc 2 s (prs l)] h

end Go.Proofs.YtenonfkfoedfmaaGreatDoor.B


/- The laws' comparisons of the two queues. -/
namespace Go.Proofs.YtenonfkfoedfmaaGreatDoor.B
open Go
set_option linter.unusedVariables false

end Go.Proofs.YtenonfkfoedfmaaGreatDoor.B


/- Contracts of the packages sem and ref11. -/
namespace Go.Proofs.YtenonfkfoedfmaaGreatDoor.B
open Go
set_option linter.unusedVariables false

/-- a semaphore's cells -/
abbrev semC (p : Nat) (c m : Int) : List Value := [.pointer (some ⟨p, 0, none⟩), .int .i64 c, .int .i64 m]

structure SigR where
  id : Int
  code : Int
  c : Int
  l : List (Int × Int)

def sigM (c m : Int) : List (Int × Int) → SigR
  | x :: r => ⟨x.1, 0, c, r⟩
  | [] => if c ≥ m then ⟨0, -43, c, []⟩ else ⟨0, 0, c + 1, []⟩

def semOk (c m : Int) : Prop := 1 ≤ m ∧ m ≤ 65535 ∧ 0 ≤ c ∧ c ≤ m

instance (c m : Int) : Decidable (semOk c m) := by unfold semOk; infer_instance

structure WaitR where
  ok : Bool
  code : Int
  c : Int
  l : List (Int × Int)

def waitM (byPri : Bool) (c : Int) (l : List (Int × Int)) (id pri : Int) : WaitR :=
  if c ≤ 0 then ⟨false, (addL byPri l id pri).1, c, (addL byPri l id pri).2⟩ else ⟨true, 0, c - 1, l⟩

theorem New_sem {e w L byPri c m R} (h : Ok e L w) (k0 : ¬ semOk c m → R [.pointer none, .int .i64 (-17)] w) (k1 : semOk c m → ∀ s p w', Ok e (pts s (semC p c m) :: lineP p [.bool byPri] ([]) :: L) w' → R [.pointer (some ⟨s, 0, none⟩), .int .i64 0] w') : sh43 byPri c m R w := by
  unfold sh43
  refine jn.bool (decide (m < 1 ∨ m > 65535)) (fun J hJ => cs.mk (fun h1 => ?_) (fun h1 => ?_)) ?_
  · have h1 := of_decide_eq_true h1
    rw [decide_eq_true (.inl h1)] at hJ
    exact hJ
  · have h1 := of_decide_eq_false h1
    simpa [h1] using hJ
  refine jn.bool (decide (m < 1 ∨ m > 65535 ∨ c < 0)) (fun J hJ => cs.mk (fun h1 => ?_) (fun h1 => ?_)) ?_
  · have h1 := of_decide_eq_true h1
    rw [decide_eq_true (by omega)] at hJ
    exact hJ
  · have h1 := of_decide_eq_false h1
    rw [show decide (c < 0) = decide (m < 1 ∨ m > 65535 ∨ c < 0) from decide_eq_decide.2 (by omega)]
    exact hJ
  refine jn.bool (decide (¬ semOk c m)) (fun J hJ => cs.mk (fun h1 => ?_) (fun h1 => ?_)) ?_
  · have h1 := of_decide_eq_true h1
    rw [decide_eq_true (by unfold semOk; omega)] at hJ
    exact hJ
  · have h1 := of_decide_eq_false h1
    rw [show decide (c > m) = decide (¬ semOk c m) from decide_eq_decide.2 (by unfold semOk; omega)]
    exact hJ
  refine cs.mk (fun h1 => k0 (of_decide_eq_true h1)) (fun h1 => ?_)
  have h1 : semOk c m := Decidable.not_not.1 (of_decide_eq_false h1)
  refine call44 (New_order h fun p w1 h => ⟨(some ⟨p, 0, none⟩, ()), rfl, ?_⟩)
  refine al.mk h fun s w2 h => k1 h1 s p w2 h

end Go.Proofs.YtenonfkfoedfmaaGreatDoor.B


/- The kernel's parts; contracts of its small functions. -/
namespace Go.Proofs.YtenonfkfoedfmaaGreatDoor.B
open Go
set_option linter.unusedVariables false

/-- where a kernel's parts lie -/
structure KA where
  ss : Sl
  fs : Sl
  ds : Sl
  ps : Sl
  us : Sl
  ub : Nat → Nat
  lk : Nat
  pl : Nat
  hn : Nat
  rq : Nat

abbrev unC (t : Nat) (u : Un) : List Value := [pV t, .int .i64 u.base, .int .i64 u.pri, .int .i64 u.kind, .int .i64 u.obj, .int .i64 u.handle, .int .i64 u.lc, .int .i64 u.lv]

def unP (b : Nat) (u : Un) : SP := fun h => ∃ t, oksH [pts b (unC t u), pts t (tcC u)] h

theorem unE {e w L b u} (h : Ok e (unP b u :: L) w) : ∃ t, Ok e (pts b (unC t u) :: pts t (tcC u) :: L) w := by
  obtain ⟨t, h⟩ := h.exE
  exact ⟨t, h.unpack⟩

theorem unI {e w L b u t} (h : Ok e (pts b (unC t u) :: pts t (tcC u) :: L) w) : Ok e (unP b u :: L) w :=
  (Ok.pack (M := [pts b (unC t u), pts t (tcC u)]) h).imp fun k hk => ⟨t, hk⟩

def un0 : Un := ⟨0, 0, 0, 0, false, 0, 0, 0, 0, 0, 0, 0⟩

def unitsP (ub : Nat → Nat) (s : Sl) (l : List Un) : SP := ptrsB unP [.pointer none] un0 ub s l

def semQ (b : Nat) (s : SemM) : SP := fun h => okL s.l ∧ semOk s.c s.m ∧ ∃ p, oksH [pts b (semC p s.c s.m), lineP p [.bool s.byPri] s.l] h

def semsP (s : Sl) (l : List SemM) : SP := ptrsP semQ [] ⟨false, 0, 0, []⟩ s l

def datQ (b : Nat) (d : DatM) : SP := fun h => d.q.ok d.room ∧ dtqP b d.byPri d.room d.q h

def datasP (s : Sl) (l : List DatM) : SP := ptrsP datQ [] ⟨false, 0, dqNew⟩ s l

def poolQ (b : Nat) (p : PoolM) : SP := fun h => MPo p.a p.n p.z p.q ∧ mpfP b p.byPri p.a p.n p.z p.q h

def poolsP (s : Sl) (l : List PoolM) : SP := ptrsP poolQ [] ⟨false, 0, 0, 0, mp0⟩ s l

def flgP (s : Sl) : SP := slc 1 s []

abbrev kC (A : KA) (K : KM) : List Value := [vS A.ss, vS A.fs, vS A.ds, vS A.ps, .int .i64 ((K.mm.m.length : Int) - 1), pV A.lk, pV A.pl, pV A.hn, pV A.rq, vS A.us, .int .i64 0, .int .i64 0, .int .i64 K.who]

/-- all parts but the block itself and the tasks -/
abbrev kR (A : KA) (K : KM) (L : List SP) : List SP :=
  semsP A.ss K.sems :: flgP A.fs :: datasP A.ds K.datas :: poolsP A.ps K.pools :: mmP A.lk K.mm :: placeP A.pl K.pl :: hnP A.hn K.tic K.up K.tb K.last K.ents :: rdyP A.rq K.rdy :: L

structure kerOk (K : KM) : Prop where
  t0 : 0 ≤ K.tic
  t1 : K.tic ≤ 1000
  us : K.us.length ≤ 16
  sems : K.sems.length ≤ 8
  datas : K.datas.length ≤ 8
  pools : K.pools.length ≤ 8

def kerP (k : Nat) (A : KA) (K : KM) : SP := fun h => kerOk K ∧ oksH (pts k (kC A K) :: unitsP A.ub A.us K.us :: kR A K []) h

theorem kerE {e w L k A K} (h : Ok e (kerP k A K :: L) w) : kerOk K ∧ Ok e (pts k (kC A K) :: unitsP A.ub A.us K.us :: kR A K L) w := by
  obtain ⟨h1, h⟩ := h.pureE
  exact ⟨h1, h.unpack⟩

theorem kerI {e w L k K A} (ho : kerOk K) (h : Ok e (pts k (kC A K) :: unitsP A.ub A.us K.us :: kR A K L) w) : Ok e (kerP k A K :: L) w :=
  (Ok.pack (M := pts k (kC A K) :: unitsP A.ub A.us K.us :: kR A K []) h).imp fun k hk => ⟨ho, hk⟩

theorem ker_ok {e w L k A K} (h : Ok e (kerP k A K :: L) w) : kerOk K := (kerE h).1

theorem un_get {K : KM} {n : Int} {u : Un} (h : K.un n = some u) : 1 ≤ n ∧ (n - 1).toNat < K.us.length ∧ K.us[(n - 1).toNat]? = some u := by
  obtain ⟨h1, h2, h3⟩ := getO_some h
  exact ⟨by omega, h2, h3⟩

theorem set_same {α : Type} {l : List α} {i : Nat} {a : α} (h : l[i]? = some a) : l.set i a = l := by
  have hi := (List.getElem?_eq_some_iff.1 h).1
  rw [List.getElem?_eq_getElem hi] at h
  cases h
  exact List.set_getElem_self hi

theorem setU_same {K : KM} {n : Int} {u : Un} (h : K.un n = some u) : K.setU n u = K := by
  obtain ⟨_, _, h6⟩ := un_get h
  unfold KM.setU
  rw [set_same h6]

/-- a task is laid open -/
theorem ker_un {e w L k A K n u} (h : Ok e (kerP k A K :: L) w) (hu : K.un n = some u) : ∃ (t : Nat) (H : SP), kerOk K ∧
    Ok e (pts k (kC A K) :: pts (A.ub (n - 1).toNat) (unC t u) :: pts t (tcC u) :: H :: kR A K L) w ∧
    (∀ (K1 : KM) u' e1 L1 w1, kerOk K1 → K1.us = K.us → Ok e1 (pts k (kC A K1) :: pts (A.ub (n - 1).toNat) (unC t u') :: pts t (tcC u') :: H :: kR A K1 L1) w1 → Ok e1 (kerP k A (K1.setU n u') :: L1) w1) ∧
    (∀ e1 L1 w1 (f : Nat → Nat → Prop), Ok e1 (H :: L1) w1 → (∀ b2 o2, w1.cell? ⟨b2, o2, none⟩ = some (pV (A.ub (n - 1).toNat)) → f b2 o2) → ix A.us n 1 f) := by
  obtain ⟨ho, h⟩ := kerE h
  obtain ⟨h1, h2, h3⟩ := un_get hu
  obtain ⟨H, h4, back, read⟩ := ptrsB_open h.p1 h3
  obtain ⟨t, h5⟩ := unE h4
  refine ⟨t, H, ho, h5.p3, fun K1 u' e1 L1 w1 ho1 hK h => ?_, fun e1 L1 w1 f h hf => ?_⟩
  · have h6 := back u' e1 _ w1 (unI (t := t) h.q3)
    refine kerI (A := A) ⟨ho1.t0, ho1.t1, ?_, ho1.sems, ho1.datas, ho1.pools⟩ ?_
    · show (K1.us.set (n - 1).toNat u').length ≤ 16
      rw [List.length_set]; exact ho1.us
    · show Ok e1 (pts k (kC A K1) :: unitsP A.ub A.us (K1.us.set (n - 1).toNat u') :: kR A K1 L1) w1
      rw [hK]
      exact h6.p1
  · exact read e1 L1 w1 n f h (by simp only [List.length_cons, List.length_nil]; omega) hf

theorem choose_kern {e w L k A K R} (t : TabE e) (h : Ok e (kerP k A K :: old e :: L) w) (kk : ∀ w', Ok e (kerP k A K.choose :: old e :: L) w' → R [] w') : sh57 (some ⟨k, 0, none⟩) R w := by
  obtain ⟨ho, h⟩ := kerE h
  unfold sh57
  unfold KM.choose at kk
  refine nn.mk (ldP.mk (h.cell rfl) (nn.mk ?_))
  refine call120 (Dispatch_ctx (Ok.emb (h) (.cons (A := placeP A.pl K.pl) (by with_reducible first | exact sl0 | exact .there sl0 | exact .there sl1 | exact .there sl2 | exact .there sl3 | exact .there sl4 | exact .there sl5 | exact .there sl6 | exact .there sl7 | exact .there sl8 | exact .there sl9 | exact .there sl10 | exact .there sl11 | exact .there sl12) (.same _))) ⟨(K.pl.dispatch, ()), rfl, ?_⟩)
  dsimp only
  cases hd : K.pl.dispatch with
  | false =>
    rw [hd] at kk
    exact cs.no rfl (kk w (kerI ho h))
  | true =>
    rw [hd, if_pos rfl] at kk
    refine cs.yes rfl (nn.mk (ldP.mk (h.cell rfl) ?_))
    refine call121 (First_ready t (Ok.emb (h) (.cons (A := rdyP A.rq K.rdy) (by with_reducible first | exact sl0 | exact .there sl0 | exact .there sl1 | exact .there sl2 | exact .there sl3 | exact .there sl4 | exact .there sl5 | exact .there sl6 | exact .there sl7 | exact .there sl8 | exact .there sl9 | exact .there sl10 | exact .there sl11 | exact .there sl12) (.cons (A := old e) (by with_reducible first | exact sl0 | exact .there sl0 | exact .there sl1 | exact .there sl2 | exact .there sl3 | exact .there sl4 | exact .there sl5 | exact .there sl6 | exact .there sl7 | exact .there sl8 | exact .there sl9 | exact .there sl10 | exact .there sl11 | exact .there sl12) (.same _)))) (fun hn => ⟨((0 : Int), false, ()), rfl, ?_⟩) (fun x m hx => ⟨(x.1, true, ()), rfl, ?_⟩))
    · refine nn.mk (st1.mk h (by simp) fun w1 h => kk w1 (kerI (A := A) ⟨ho.t0, ho.t1, ho.us, ho.sems, ho.datas, ho.pools⟩ ?_))
      rw [show (K.rdy.head?.getD (0, 0)).1 = 0 by rw [hn]; rfl]
      exact h
    · refine nn.mk (st1.mk h (by simp) fun w1 h => kk w1 (kerI (A := A) ⟨ho.t0, ho.t1, ho.us, ho.sems, ho.datas, ho.pools⟩ ?_))
      rw [show (K.rdy.head?.getD (0, 0)).1 = x.1 by rw [hx]; rfl]
      exact h

theorem enter_kern {e w L k A K K' n R} (h : Ok e (kerP k A K :: L) w) (hm : K.enter n = some K') (kk : ∀ w', Ok e (kerP k A K' :: L) w' → R [] w') : sh188 (some ⟨k, 0, none⟩) n R w := by
  unfold sh188
  obtain ⟨u, hu, hm⟩ := Option.bind_eq_some_iff.1 hm
  obtain ⟨t, H, ho, h, back, read⟩ := ker_un h hu
  refine nn.mk (ldS.mk (h.cell rfl) (read e _ w _ ((Ok.emb (h) (.cons (A := H) (by with_reducible first | exact sl0 | exact .there sl0 | exact .there sl1 | exact .there sl2 | exact .there sl3 | exact .there sl4 | exact .there sl5 | exact .there sl6 | exact .there sl7 | exact .there sl8 | exact .there sl9 | exact .there sl10 | exact .there sl11 | exact .there sl12) (.same _)))) fun b2 o2 hc => ldP.mk hc (nn.mk (ldP.mk (h.p1.cell rfl) ?_))))
  refine is_step (u := u) (x := 2) ((Ok.emb (h) (.cons (A := pts t (tcC u)) (by with_reducible first | exact sl0 | exact .there sl0 | exact .there sl1 | exact .there sl2 | exact .there sl3 | exact .there sl4 | exact .there sl5 | exact .there sl6 | exact .there sl7 | exact .there sl8 | exact .there sl9 | exact .there sl10 | exact .there sl11 | exact .there sl12) (.same _)))) fun w1 h1 => cs.mk (fun h2 => ?_) (fun h2 => ?_)
  · have h2 : (2 : Int) = u.state := by simpa using h2
    rw [if_pos h2.symm] at hm
    obtain ⟨p, hp, rfl⟩ := Option.map_eq_some_iff.1 hm
    have h : Ok e (pts k (kC A K) :: pts (A.ub (n - 1).toNat) (unC t u) :: pts t (tcC u) :: H :: kR A K L) w1 := (Ok.emb (h1) (by repeat' (first | with_reducible exact Emb.same _ | exact Emb.nil _ | refine Emb.cons (by with_reducible first | exact sl0 | exact .there sl0 | exact .there sl1 | exact .there sl2 | exact .there sl3 | exact .there sl4 | exact .there sl5 | exact .there sl6 | exact .there sl7 | exact .there sl8 | exact .there sl9 | exact .there sl10 | exact .there sl11 | exact .there sl12) ?_ | refine Emb.skip ?_)))
    refine nn.mk (ldP.mk (h.cell rfl) ?_)
    refine call35 (Pri_mtx ((Ok.emb (h) (.cons (A := mmP A.lk K.mm) (by with_reducible first | exact sl0 | exact .there sl0 | exact .there sl1 | exact .there sl2 | exact .there sl3 | exact .there sl4 | exact .there sl5 | exact .there sl6 | exact .there sl7 | exact .there sl8 | exact .there sl9 | exact .there sl10 | exact .there sl11 | exact .there sl12) (.same _)))) hp ⟨(p, ()), rfl, ?_⟩)
    refine nn.mk (st1.mk h.p1 (by simp) fun w2 h => dr.mk h fun w3 h => ?_)
    have h : Ok e (pts k (kC A K) :: pts (A.ub (n - 1).toNat) (unC t { u with pri := p }) :: pts t (tcC u) :: H :: kR A K L) w3 := h.p1
    refine nn.mk (ldP.mk (h.cell rfl) (nn.mk (ldI.mk (h.p1.cell rfl) ?_)))
    refine call46 (Add_ready (p := p) ((Ok.emb (h) (.cons (A := rdyP A.rq K.rdy) (by with_reducible first | exact sl0 | exact .there sl0 | exact .there sl1 | exact .there sl2 | exact .there sl3 | exact .there sl4 | exact .there sl5 | exact .there sl6 | exact .there sl7 | exact .there sl8 | exact .there sl9 | exact .there sl10 | exact .there sl11 | exact .there sl12) (.same _)))) fun w4 h => ⟨((addL true K.rdy n p).1, ()), rfl, kk w4 ?_⟩)
    exact back { K with rdy := (addL true K.rdy n p).2 } { u with pri := p } e L w4 ⟨ho.t0, ho.t1, ho.us, ho.sems, ho.datas, ho.pools⟩ rfl (h.emb (by repeat' (first | with_reducible exact Emb.same _ | exact Emb.nil _ | refine Emb.cons (by with_reducible first | exact sl0 | exact .there sl0 | exact .there sl1 | exact .there sl2 | exact .there sl3 | exact .there sl4 | exact .there sl5 | exact .there sl6 | exact .there sl7 | exact .there sl8 | exact .there sl9 | exact .there sl10 | exact .there sl11 | exact .there sl12) ?_ | refine Emb.skip ?_)))
  · have h2 : ¬ (2 : Int) = u.state := by simpa using h2
    rw [if_neg (fun h => h2 h.symm)] at hm
    cases hm
    have h : Ok e (pts k (kC A K) :: pts (A.ub (n - 1).toNat) (unC t u) :: pts t (tcC u) :: H :: kR A K L) w1 := (Ok.emb (h1) (by repeat' (first | with_reducible exact Emb.same _ | exact Emb.nil _ | refine Emb.cons (by with_reducible first | exact sl0 | exact .there sl0 | exact .there sl1 | exact .there sl2 | exact .there sl3 | exact .there sl4 | exact .there sl5 | exact .there sl6 | exact .there sl7 | exact .there sl8 | exact .there sl9 | exact .there sl10 | exact .there sl11 | exact .there sl12) ?_ | refine Emb.skip ?_)))
    refine kk w1 ?_
    have := back K u e L w1 ⟨ho.t0, ho.t1, ho.us, ho.sems, ho.datas, ho.pools⟩ rfl h
    rw [setU_same hu] at this
    exact this

end Go.Proofs.YtenonfkfoedfmaaGreatDoor.B


/- Contracts of the kernel's small functions: who is activated, told, woken. -/
namespace Go.Proofs.YtenonfkfoedfmaaGreatDoor.B
open Go
set_option linter.unusedVariables false

theorem act_kern {e w L k A K n r R} (h : Ok e (kerP k A K :: L) w) (hm : K.act n = some r) (kk : ∀ w', Ok e (kerP k A r.2 :: L) w' → R [.int .i64 r.1] w') : sh105 (some ⟨k, 0, none⟩) n R w := by
  unfold sh105
  obtain ⟨u, hu, hm⟩ := Option.bind_eq_some_iff.1 hm
  obtain ⟨t, H, ho, h, back, read⟩ := ker_un h hu
  split at hm
  · cases hm
  next hb =>
  have hb := Decidable.not_not.1 hb
  refine nn.mk (ldS.mk (h.cell rfl) (read e _ w _ ((Ok.emb (h) (.cons (A := H) (by with_reducible first | exact sl0 | exact .there sl0 | exact .there sl1 | exact .there sl2 | exact .there sl3 | exact .there sl4 | exact .there sl5 | exact .there sl6 | exact .there sl7 | exact .there sl8 | exact .there sl9 | exact .there sl10 | exact .there sl11 | exact .there sl12) (.same _)))) fun b2 o2 hc => ldP.mk hc (nn.mk (ldP.mk (h.p1.cell rfl) ?_))))
  refine call187 (Act_tcb (u := u) ((Ok.emb (h) (.cons (A := pts t (tcC u)) (by with_reducible first | exact sl0 | exact .there sl0 | exact .there sl1 | exact .there sl2 | exact .there sl3 | exact .there sl4 | exact .there sl5 | exact .there sl6 | exact .there sl7 | exact .there sl8 | exact .there sl9 | exact .there sl10 | exact .there sl11 | exact .there sl12) (.same _)))) hb.1 (fun h1 w1 h => ⟨(true, (0 : Int), ()), rfl, ?_⟩) (fun h1 h2 w1 h => ⟨(false, (-43 : Int), ()), rfl, cs.no rfl ?_⟩) (fun h1 h2 w1 h => ⟨(false, (0 : Int), ()), rfl, cs.no rfl ?_⟩))
  · rw [if_pos h1] at hm
    obtain ⟨K2, hK2, rfl⟩ := Option.map_eq_some_iff.1 hm
    have h : Ok e (pts k (kC A K) :: pts (A.ub (n - 1).toNat) (unC t u) :: pts t (tcC { u with state := 2 }) :: H :: kR A K L) w1 := (h.emb (by repeat' (first | with_reducible exact Emb.same _ | exact Emb.nil _ | refine Emb.cons (by with_reducible first | exact sl0 | exact .there sl0 | exact .there sl1 | exact .there sl2 | exact .there sl3 | exact .there sl4 | exact .there sl5 | exact .there sl6 | exact .there sl7 | exact .there sl8 | exact .there sl9 | exact .there sl10 | exact .there sl11 | exact .there sl12) ?_ | refine Emb.skip ?_)))
    refine cs.yes rfl (nn.mk (ldS.mk (h.cell rfl) (read e _ w1 _ ((Ok.emb (h) (.cons (A := H) (by with_reducible first | exact sl0 | exact .there sl0 | exact .there sl1 | exact .there sl2 | exact .there sl3 | exact .there sl4 | exact .there sl5 | exact .there sl6 | exact .there sl7 | exact .there sl8 | exact .there sl9 | exact .there sl10 | exact .there sl11 | exact .there sl12) (.same _)))) fun b2 o2 hc => ldP.mk hc (nn.mk (st1.mk h.p1 (by simp) fun w2 h => st1.mk h (by simp) fun w3 h => ?_)))))
    have h := back K { u with state := 2, lc := 0, lv := 0 } e L w3 ⟨ho.t0, ho.t1, ho.us, ho.sems, ho.datas, ho.pools⟩ rfl h.p1
    exact call188 (enter_kern h hK2 fun w4 h => ⟨(), rfl, kk w4 h⟩)
  · rw [if_neg h1, if_pos h2] at hm
    cases hm
    have h := back K u e L w1 ⟨ho.t0, ho.t1, ho.us, ho.sems, ho.datas, ho.pools⟩ rfl (h.emb (by repeat' (first | with_reducible exact Emb.same _ | exact Emb.nil _ | refine Emb.cons (by with_reducible first | exact sl0 | exact .there sl0 | exact .there sl1 | exact .there sl2 | exact .there sl3 | exact .there sl4 | exact .there sl5 | exact .there sl6 | exact .there sl7 | exact .there sl8 | exact .there sl9 | exact .there sl10 | exact .there sl11 | exact .there sl12) ?_ | refine Emb.skip ?_)))
    rw [setU_same hu] at h
    exact kk w1 h
  · rw [if_neg h1, if_neg h2] at hm
    cases hm
    exact kk w1 (back K { u with acts := u.acts + 1 } e L w1 ⟨ho.t0, ho.t1, ho.us, ho.sems, ho.datas, ho.pools⟩ rfl ((h.emb (by repeat' (first | with_reducible exact Emb.same _ | exact Emb.nil _ | refine Emb.cons (by with_reducible first | exact sl0 | exact .there sl0 | exact .there sl1 | exact .there sl2 | exact .there sl3 | exact .there sl4 | exact .there sl5 | exact .there sl6 | exact .there sl7 | exact .there sl8 | exact .there sl9 | exact .there sl10 | exact .there sl11 | exact .there sl12) ?_ | refine Emb.skip ?_))) : Ok e (pts k (kC A K) :: pts (A.ub (n - 1).toNat) (unC t u) :: pts t (tcC { u with acts := u.acts + 1 }) :: H :: kR A K L) w1))

theorem forget_kern {e w L k A K K' n R} (h : Ok e (kerP k A K :: L) w) (hm : K.forget n = some K') (kk : ∀ w', Ok e (kerP k A K' :: L) w' → R [] w') : sh196 (some ⟨k, 0, none⟩) n R w := by
  unfold sh196
  obtain ⟨u, hu, rfl⟩ := Option.map_eq_some_iff.1 hm
  obtain ⟨t, H, ho, h, back, read⟩ := ker_un h hu
  refine nn.mk (ldS.mk (h.cell rfl) (read e _ w _ ((Ok.emb (h) (.cons (A := H) (by with_reducible first | exact sl0 | exact .there sl0 | exact .there sl1 | exact .there sl2 | exact .there sl3 | exact .there sl4 | exact .there sl5 | exact .there sl6 | exact .there sl7 | exact .there sl8 | exact .there sl9 | exact .there sl10 | exact .there sl11 | exact .there sl12) (.same _)))) fun b2 o2 hc => ldP.mk hc (dr.mk h fun w1 h => nn.mk (ldP.mk (h.cell rfl) ?_))))
  obtain ⟨c, tm, h2⟩ := hnE ((Ok.emb (h) (.cons (A := hnP A.hn K.tic K.up K.tb K.last K.ents) (by with_reducible first | exact sl0 | exact .there sl0 | exact .there sl1 | exact .there sl2 | exact .there sl3 | exact .there sl4 | exact .there sl5 | exact .there sl6 | exact .there sl7 | exact .there sl8 | exact .there sl9 | exact .there sl10 | exact .there sl11 | exact .there sl12) (.same _))))
  refine nn.mk (ldP.mk (h2.cell rfl) (nn.mk (ldP.mk (h2.p1.cell rfl) (nn.mk (ldI.mk (h.p1.cell rfl) ?_)))))
  refine call236 (Cancel_heap (hd := u.handle) h2.p2 fun w2 bb h => ⟨(bb, ()), rfl, ?_⟩)
  have h := hnI h.q2
  have h : Ok e (pts (A.ub (n - 1).toNat) (unC t u) :: pts k (kC A K) :: pts t (tcC u) :: H :: semsP A.ss K.sems :: flgP A.fs :: datasP A.ds K.datas :: poolsP A.ps K.pools :: mmP A.lk K.mm :: placeP A.pl K.pl :: hnP A.hn K.tic K.up K.tb K.last (delE u.handle K.ents) :: rdyP A.rq K.rdy :: L) w2 := (h.emb (by repeat' (first | with_reducible exact Emb.same _ | exact Emb.nil _ | refine Emb.cons (by with_reducible first | exact sl0 | exact .there sl0 | exact .there sl1 | exact .there sl2 | exact .there sl3 | exact .there sl4 | exact .there sl5 | exact .there sl6 | exact .there sl7 | exact .there sl8 | exact .there sl9 | exact .there sl10 | exact .there sl11 | exact .there sl12) ?_ | refine Emb.skip ?_)))
  refine nn.mk (st1.mk h (by simp) fun w3 h => nn.mk (st1.mk h (by simp) fun w4 h => nn.mk (st1.mk h (by simp) fun w5 h => kk w5 ?_)))
  exact back { K with ents := delE u.handle K.ents } { u with kind := 0, obj := 0, handle := 0 } e L w5 ⟨ho.t0, ho.t1, ho.us, ho.sems, ho.datas, ho.pools⟩ rfl h.p1

theorem told_kern {e w L k A K K' n c v R} (h : Ok e (kerP k A K :: L) w) (hm : K.told n c v = some K') (kk : ∀ w', Ok e (kerP k A K' :: L) w' → R [] w') : sh116 (some ⟨k, 0, none⟩) n (c, v, ()) R w := by
  unfold sh116
  obtain ⟨K1, hK1, hm⟩ := Option.bind_eq_some_iff.1 hm
  obtain ⟨u, hu, hm⟩ := Option.bind_eq_some_iff.1 hm
  refine al.mk h fun d w1 h => ?_
  refine call196 (forget_kern h.p1 hK1 fun w2 h => ⟨(), rfl, ?_⟩)
  refine dr.mk h fun w3 h => ?_
  obtain ⟨t, H, ho, h, back, read⟩ := ker_un h hu
  refine nn.mk (ldS.mk (h.cell rfl) (read e _ w3 _ ((Ok.emb (h) (.cons (A := H) (by with_reducible first | exact sl0 | exact .there sl0 | exact .there sl1 | exact .there sl2 | exact .there sl3 | exact .there sl4 | exact .there sl5 | exact .there sl6 | exact .there sl7 | exact .there sl8 | exact .there sl9 | exact .there sl10 | exact .there sl11 | exact .there sl12) (.same _)))) fun b2 o2 hc => ldP.mk hc ?_))
  refine ldI.mk (x := c) (by refine Ok.cellS h (by with_reducible first | exact sl0 | exact .there sl0 | exact .there sl1 | exact .there sl2 | exact .there sl3 | exact .there sl4 | exact .there sl5 | exact .there sl6 | exact .there sl7 | exact .there sl8 | exact .there sl9 | exact .there sl10 | exact .there sl11 | exact .there sl12) ?_; rfl) (ldI.mk (x := v) (by refine Ok.cellS h (by with_reducible first | exact sl0 | exact .there sl0 | exact .there sl1 | exact .there sl2 | exact .there sl3 | exact .there sl4 | exact .there sl5 | exact .there sl6 | exact .there sl7 | exact .there sl8 | exact .there sl9 | exact .there sl10 | exact .there sl11 | exact .there sl12) ?_; rfl) (nn.mk (st1.mk h.p1 (by simp) fun w4 h => st1.mk h (by simp) fun w5 h => ?_)))
  have h := back K1 { u with lc := c, lv := v } e _ w5 ⟨ho.t0, ho.t1, ho.us, ho.sems, ho.datas, ho.pools⟩ rfl h.p1
  exact call188 (enter_kern h hm fun w6 h => ⟨(), rfl, kk w6 h.p1.drop⟩)

theorem wake_kern {e w L k A K K' n c v R} (h : Ok e (kerP k A K :: L) w) (hm : K.wake n c v = some K') (kk : ∀ w', Ok e (kerP k A K' :: L) w' → R [] w') : sh55 (some ⟨k, 0, none⟩) n (c, v, ()) R w := by
  unfold sh55
  obtain ⟨u, hu, hm⟩ := Option.bind_eq_some_iff.1 hm
  refine al.mk h fun d w1 h => ?_
  obtain ⟨t, H, ho, h, back, read⟩ := ker_un h.p1 hu
  refine nn.mk (ldS.mk (h.cell rfl) (read e _ w1 _ ((Ok.emb (h) (.cons (A := H) (by with_reducible first | exact sl0 | exact .there sl0 | exact .there sl1 | exact .there sl2 | exact .there sl3 | exact .there sl4 | exact .there sl5 | exact .there sl6 | exact .there sl7 | exact .there sl8 | exact .there sl9 | exact .there sl10 | exact .there sl11 | exact .there sl12) (.same _)))) fun b2 o2 hc => ldP.mk hc (nn.mk (ldP.mk (h.p1.cell rfl) ?_))))
  refine call115 (Release_tcb (u := u) ((Ok.emb (h) (.cons (A := pts t (tcC u)) (by with_reducible first | exact sl0 | exact .there sl0 | exact .there sl1 | exact .there sl2 | exact .there sl3 | exact .there sl4 | exact .there sl5 | exact .there sl6 | exact .there sl7 | exact .there sl8 | exact .there sl9 | exact .there sl10 | exact .there sl11 | exact .there sl12) (.same _)))) fun w2 bb h => ⟨(bb, ()), rfl, ?_⟩)
  have h : Ok e (pts k (kC A K) :: pts (A.ub (n - 1).toNat) (unC t u) :: pts t (tcC u.release) :: H :: kR A K (pts d [.int .i64 c, .int .i64 v] :: L)) w2 := (h.emb (by repeat' (first | with_reducible exact Emb.same _ | exact Emb.nil _ | refine Emb.cons (by with_reducible first | exact sl0 | exact .there sl0 | exact .there sl1 | exact .there sl2 | exact .there sl3 | exact .there sl4 | exact .there sl5 | exact .there sl6 | exact .there sl7 | exact .there sl8 | exact .there sl9 | exact .there sl10 | exact .there sl11 | exact .there sl12) ?_ | refine Emb.skip ?_)))
  refine ldI.mk (x := c) (by refine Ok.cellS h (by with_reducible first | exact sl0 | exact .there sl0 | exact .there sl1 | exact .there sl2 | exact .there sl3 | exact .there sl4 | exact .there sl5 | exact .there sl6 | exact .there sl7 | exact .there sl8 | exact .there sl9 | exact .there sl10 | exact .there sl11 | exact .there sl12) ?_; rfl) (ldI.mk (x := v) (by refine Ok.cellS h (by with_reducible first | exact sl0 | exact .there sl0 | exact .there sl1 | exact .there sl2 | exact .there sl3 | exact .there sl4 | exact .there sl5 | exact .there sl6 | exact .there sl7 | exact .there sl8 | exact .there sl9 | exact .there sl10 | exact .there sl11 | exact .there sl12) ?_; rfl) ?_)
  have hun : unC t u = unC t u.release := by
    unfold Un.release
    split
    · rfl
    · split <;> rfl
  rw [hun] at h
  have h := back K u.release e _ w2 ⟨ho.t0, ho.t1, ho.us, ho.sems, ho.datas, ho.pools⟩ rfl h
  exact call116 (a2 := (c, v, ())) (told_kern h hm fun w3 h => ⟨(), rfl, kk w3 h.p1.drop⟩)

end Go.Proofs.YtenonfkfoedfmaaGreatDoor.B


/- Contracts of the kernel's functions: who leaves, all settle, who stays, who ends; a tick. -/
namespace Go.Proofs.YtenonfkfoedfmaaGreatDoor.B
open Go
set_option linter.unusedVariables false

theorem semE {e w L b s} (h : Ok e (semQ b s :: L) w) : okL s.l ∧ semOk s.c s.m ∧ ∃ p, Ok e (pts b (semC p s.c s.m) :: lineP p [.bool s.byPri] s.l :: L) w := by
  obtain ⟨h1, h⟩ := h.pureE
  obtain ⟨h2, h⟩ := h.pureE
  obtain ⟨p, h⟩ := h.exE
  exact ⟨h1, h2, p, h.unpack⟩

theorem semI {e w L b s p} (h1 : okL s.l) (h2 : semOk s.c s.m) (h : Ok e (pts b (semC p s.c s.m) :: lineP p [.bool s.byPri] s.l :: L) w) : Ok e (semQ b s :: L) w :=
  (Ok.pack (M := [pts b (semC p s.c s.m), lineP p [.bool s.byPri] s.l]) h).imp fun k hk => ⟨h1, h2, p, hk⟩

theorem kerOk.of {K K1 : KM} (h : kerOk K) (h1 : K1.tic = K.tic) (h2 : K1.us.length = K.us.length) (h3 : K1.sems.length = K.sems.length) (h4 : K1.datas.length = K.datas.length) (h5 : K1.pools.length = K.pools.length) : kerOk K1 :=
  ⟨by rw [h1]; exact h.t0, by rw [h1]; exact h.t1, by rw [h2]; exact h.us, by rw [h3]; exact h.sems, by rw [h4]; exact h.datas, by rw [h5]; exact h.pools⟩

theorem un_us {K K1 : KM} {n : Int} {u : Un} (h : K.un n = some u) (e : K1.us = K.us) : K1.un n = some u := by
  unfold KM.un at *
  rw [e]; exact h

theorem leave_kern {e w L k A K K' n R} (h : Ok e (kerP k A K :: L) w) (hm : K.leave n = some K') (kk : ∀ w', Ok e (kerP k A K' :: L) w' → R [] w') : sh54 (some ⟨k, 0, none⟩) n R w := by
  unfold sh54
  obtain ⟨u, hu, hm⟩ := Option.bind_eq_some_iff.1 hm
  obtain ⟨t, H, ho, h, back, read⟩ := ker_un h hu
  refine nn.mk (ldS.mk (h.cell rfl) (read e _ w _ ((Ok.emb (h) (.cons (A := H) (by with_reducible first | exact sl0 | exact .there sl0 | exact .there sl1 | exact .there sl2 | exact .there sl3 | exact .there sl4 | exact .there sl5 | exact .there sl6 | exact .there sl7 | exact .there sl8 | exact .there sl9 | exact .there sl10 | exact .there sl11 | exact .there sl12) (.same _)))) fun b2 o2 hc => ldP.mk hc (nn.mk (ldI.mk (h.p1.cell rfl) ?_))))
  by_cases h3 : u.kind = 3
  · rw [if_pos h3] at hm
    obtain ⟨s, hs, rfl⟩ := Option.map_eq_some_iff.1 hm
    obtain ⟨hs0, hs1, hs2⟩ := getO_some hs
    have := ho.sems
    refine cs.yes (by simpa using h3) (dr.mk h fun w1 h => nn.mk (ldS.mk (h.cell rfl) (nn.mk (ldI.mk (h.p1.cell rfl) ?_))))
    obtain ⟨b3, H3, h4, back3, read3⟩ := ptrs_open ((Ok.emb (h) (.cons (A := semsP A.ss K.sems) (by with_reducible first | exact sl0 | exact .there sl0 | exact .there sl1 | exact .there sl2 | exact .there sl3 | exact .there sl4 | exact .there sl5 | exact .there sl6 | exact .there sl7 | exact .there sl8 | exact .there sl9 | exact .there sl10 | exact .there sl11 | exact .there sl12) (.same _)))) hs2
    obtain ⟨hok, hsm, p, h5⟩ := semE h4
    rw [w64_in (by omega) (by omega)]
    refine read3 e _ w1 _ _ ((Ok.emb (h5) (.cons (A := H3) (by with_reducible first | exact sl0 | exact .there sl0 | exact .there sl1 | exact .there sl2 | exact .there sl3 | exact .there sl4 | exact .there sl5 | exact .there sl6 | exact .there sl7 | exact .there sl8 | exact .there sl9 | exact .there sl10 | exact .there sl11 | exact .there sl12) (.same _)))) (by simp only [List.length_nil]; omega) fun b4 o4 hc4 => ldP.mk hc4 (nn.mk (ldP.mk (h5.cell rfl) (nn.mk ?_)))
    refine call111 (Remove_order (id := n) h5.p1 (by have := okL_len hok; omega) fun w2 h => ⟨(_, ()), rfl, kk w2 ?_⟩)
    have h6 := back3 { s with l := rmL s.l n } e _ w2 ((semI (s := { s with l := rmL s.l n }) (okL_rm hok) hsm h.p1))
    have h8 : Ok e (semsP A.ss (K.sems.set (u.obj - 1).toNat { s with l := rmL s.l n }) :: _) w2 := h6
    have h7 := back { K with sems := K.sems.set (u.obj - 1).toNat { s with l := rmL s.l n } } u e L w2 (ho.of rfl rfl (by simp) rfl rfl) rfl (Ok.emb (h8) (by repeat' (first | with_reducible exact Emb.same _ | exact Emb.nil _ | refine Emb.cons (by with_reducible first | exact sl0 | exact .there sl0 | exact .there sl1 | exact .there sl2 | exact .there sl3 | exact .there sl4 | exact .there sl5 | exact .there sl6 | exact .there sl7 | exact .there sl8 | exact .there sl9 | exact .there sl10 | exact .there sl11 | exact .there sl12) ?_ | refine Emb.skip ?_)))
    rw [setU_same (K := { K with sems := K.sems.set (u.obj - 1).toNat { s with l := rmL s.l n } }) (un_us hu rfl)] at h7
    exact h7
  · rw [if_neg h3] at hm
    split at hm
    · next hk =>
      cases hm
      have h := back K u e L w ho rfl h
      rw [setU_same hu] at h
      refine cs.no (by simpa using h3) (cs.no (by simp; omega) (jn.bool false (fun J hJ => cs.no (by simp; omega) ?_) (cs.no rfl (cs.no (by simp; omega) (cs.no (by simp; omega) (kk w h))))))
      rw [show ((u.kind : Int) == (6 : Int)) = false by simp; omega]
      exact hJ
    · cases hm

theorem settle_kern {e w L k A K K' R} (h : Ok e (kerP k A K :: L) w) (hm : K.settle = some K') (kk : ∀ w', Ok e (kerP k A K' :: L) w' → R [] w') : sh56 (some ⟨k, 0, none⟩) R w := by
  unfold sh56
  have hl16 := (ker_ok h).us
  unfold KM.settle at hm
  refine lp.mk (fun t w1 => ∃ (n : Nat) (N : KM), @Eq Int t.1 (n : Int) ∧ 1 ≤ n ∧ n ≤ K.us.length + 1 ∧ N.us.length = K.us.length ∧ KM.settleFrom n (K.us.length + 1 - n) N = some K' ∧ Ok e (kerP k A N :: L) w1) (fun t _ => Int.toNat (Int.sub (K.us.length + 1) t.1)) ⟨1, K, rfl, by omega, by omega, rfl, hm, h⟩ ?_
  rintro ⟨(t : Int), _⟩ w1 ⟨n, N, (rfl : t = (n : Int)), hn0, hn1, hus, hm, h⟩
  obtain ⟨ho, h'⟩ := kerE h
  have hsl : A.us.len = 1 + N.us.length := by
    have := ptrsB_len (h'.p1 : Ok e (ptrsB unP [.pointer none] un0 A.ub A.us N.us :: _) w1)
    simpa using this
  refine nn.mk (ldS.mk (h'.cell rfl) (cs.mk (fun h1 => ?_) (fun h1 => ?_)))
  · have h1 : n < K.us.length + 1 := by have := of_decide_eq_true h1; dsimp only at this; omega
    obtain ⟨kc, hkc⟩ : ∃ kc, K.us.length + 1 - n = kc + 1 := ⟨K.us.length - n, by omega⟩
    rw [hkc, KM.settleFrom] at hm
    obtain ⟨N2, hN2, hm⟩ := Option.bind_eq_some_iff.1 hm
    obtain ⟨u, hu, hN2⟩ := Option.bind_eq_some_iff.1 hN2
    obtain ⟨p, hp, hN2⟩ := Option.bind_eq_some_iff.1 hN2
    obtain ⟨t, H, ho, h, back, read⟩ := ker_un h hu
    have meas : Int.toNat (Int.sub (K.us.length + 1) (w64 ((n : Int) + 1))) < Int.toNat (Int.sub (K.us.length + 1) (n : Int)) := by
      rw [w64_in (by omega) (by omega)]
      show Int.toNat (((K.us.length : Int) + 1) - ((n : Int) + 1)) < Int.toNat (((K.us.length : Int) + 1) - (n : Int))
      omega
    have inc : w64 ((n : Int) + 1) = ((n + 1 : Nat) : Int) := by rw [w64_in (by omega) (by omega)]; rfl
    have next : ∀ N' w', N'.us.length = K.us.length → KM.settleFrom (n + 1) kc N' = some K' → Ok e (kerP k A N' :: L) w' →
        (∃ (n' : Nat) (N : KM), @Eq Int (w64 ((n : Int) + 1)) (n' : Int) ∧ 1 ≤ n' ∧ n' ≤ K.us.length + 1 ∧ N.us.length = K.us.length ∧ KM.settleFrom n' (K.us.length + 1 - n') N = some K' ∧ Ok e (kerP k A N :: L) w') ∧
        Int.toNat (Int.sub (K.us.length + 1) (w64 ((n : Int) + 1))) < Int.toNat (Int.sub (K.us.length + 1) (n : Int)) := fun N' w' hl hm h =>
      ⟨⟨n + 1, N', inc, by omega, by omega, hl, by rw [show K.us.length + 1 - (n + 1) = kc by omega]; exact hm, h⟩, meas⟩
    refine nn.mk (ldS.mk (h.cell rfl) (read e _ w1 _ ((Ok.emb (h) (.cons (A := H) (by with_reducible first | exact sl0 | exact .there sl0 | exact .there sl1 | exact .there sl2 | exact .there sl3 | exact .there sl4 | exact .there sl5 | exact .there sl6 | exact .there sl7 | exact .there sl8 | exact .there sl9 | exact .there sl10 | exact .there sl11 | exact .there sl12) (.same _)))) fun b2 o2 hc => ldP.mk hc (nn.mk (ldP.mk (h.cell rfl) ?_))))
    refine call35 (Pri_mtx ((Ok.emb (h) (.cons (A := mmP A.lk N.mm) (by with_reducible first | exact sl0 | exact .there sl0 | exact .there sl1 | exact .there sl2 | exact .there sl3 | exact .there sl4 | exact .there sl5 | exact .there sl6 | exact .there sl7 | exact .there sl8 | exact .there sl9 | exact .there sl10 | exact .there sl11 | exact .there sl12) (.same _)))) hp ⟨(p, ()), rfl, ?_⟩)
    refine nn.mk (ldI.mk (h.p1.cell rfl) (cs.mk (fun h2 => ?_) (fun h2 => ?_)))
    · have h2 : p = u.pri := by simpa using h2
      rw [if_pos h2] at hN2
      cases hN2
      have h := back N u e L w1 ho rfl h
      rw [setU_same hu] at h
      exact next N w1 hus hm h
    · have h2 : ¬ p = u.pri := by simpa using h2
      rw [if_neg h2] at hN2
      refine nn.mk (st1.mk h.p1 (by simp) fun w2 h => ?_)
      have h : Ok e (pts k (kC A N) :: pts (A.ub ((n : Int) - 1).toNat) (unC t { u with pri := p }) :: pts t (tcC u) :: H :: kR A N L) w2 := h.p1
      refine nn.mk (ldP.mk (h.cell rfl) ?_)
      refine call117 (Change_ready (n := (n : Int)) (p := p) ((Ok.emb (h) (.cons (A := rdyP A.rq N.rdy) (by with_reducible first | exact sl0 | exact .there sl0 | exact .there sl1 | exact .there sl2 | exact .there sl3 | exact .there sl4 | exact .there sl5 | exact .there sl6 | exact .there sl7 | exact .there sl8 | exact .there sl9 | exact .there sl10 | exact .there sl11 | exact .there sl12) (.same _)))) fun w3 h => ⟨((chgL true N.rdy (n : Int) p).1, ()), rfl, ?_⟩)
      have h : Ok e (pts k (kC A N) :: pts (A.ub ((n : Int) - 1).toNat) (unC t { u with pri := p }) :: pts t (tcC u) :: H :: semsP A.ss N.sems :: flgP A.fs :: datasP A.ds N.datas :: poolsP A.ps N.pools :: mmP A.lk N.mm :: placeP A.pl N.pl :: hnP A.hn N.tic N.up N.tb N.last N.ents :: rdyP A.rq (chgL true N.rdy (n : Int) p).2 :: L) w3 := (h.emb (by repeat' (first | with_reducible exact Emb.same _ | exact Emb.nil _ | refine Emb.cons (by with_reducible first | exact sl0 | exact .there sl0 | exact .there sl1 | exact .there sl2 | exact .there sl3 | exact .there sl4 | exact .there sl5 | exact .there sl6 | exact .there sl7 | exact .there sl8 | exact .there sl9 | exact .there sl10 | exact .there sl11 | exact .there sl12) ?_ | refine Emb.skip ?_)))
      have hb := back { N with rdy := (chgL true N.rdy (n : Int) p).2 } { u with pri := p } e L w3 (ho.of rfl rfl rfl rfl rfl) rfl h
      have hl2 : (({ N with rdy := (chgL true N.rdy (n : Int) p).2 } : KM).setU (n : Int) { u with pri := p }).us.length = K.us.length := by
        show (N.us.set _ _).length = _
        rw [List.length_set]; exact hus
      refine cs.mk (fun h4 => ?_) (fun h4 => ?_)
      · have h4 : (chgL true N.rdy (n : Int) p).1 = true := h4
        rw [if_pos h4] at hN2
        cases hN2
        exact next _ w3 hl2 hm hb
      · have h4 : (chgL true N.rdy (n : Int) p).1 = false := h4
        rw [if_neg (by rw [h4]; decide)] at hN2
        split at hN2
        · next hk =>
          cases hN2
          refine nn.mk (ldI.mk (h.p1.cell rfl) (cs.no (by simp; omega) (cs.no (by simp; omega) (jn.bool false (fun J hJ => cs.no (by simp; omega) ?_) (cs.no rfl (cs.no (by simp; omega) (next _ w3 hl2 hm hb)))))))
          rw [show ((u.kind : Int) == (6 : Int)) = false by simp; omega]
          exact hJ
        · cases hN2
  · have h1 : n = K.us.length + 1 := by have := of_decide_eq_false h1; dsimp only at this; omega
    subst h1
    rw [Nat.sub_self] at hm
    cases hm
    exact kk w1 h

theorem stay_kern {e w L k A K K' kind obj tmo R} (h : Ok e (kerP k A K :: L) w) (hm : K.stay kind obj tmo = some K') (kk : ∀ w', Ok e (kerP k A K' :: L) w' → R [.agg #[.int .i64 1, .int .i64 0]] w') : sh138 (some ⟨k, 0, none⟩) kind obj tmo R w := by
  unfold sh138
  obtain ⟨u, hu, hm⟩ := Option.bind_eq_some_iff.1 hm
  refine al.mk h fun d w1 h => ?_
  obtain ⟨t, H, ho, h, back, read⟩ := ker_un h.p1 hu
  refine dr.mk h fun w2 h => nn.mk (ldS.mk (h.cell rfl) (nn.mk (ldI.mk (h.cell rfl) (read e _ w2 _ ((Ok.emb (h) (.cons (A := H) (by with_reducible first | exact sl0 | exact .there sl0 | exact .there sl1 | exact .there sl2 | exact .there sl3 | exact .there sl4 | exact .there sl5 | exact .there sl6 | exact .there sl7 | exact .there sl8 | exact .there sl9 | exact .there sl10 | exact .there sl11 | exact .there sl12) (.same _)))) fun b2 o2 hc => ldP.mk hc ?_))))
  simp only at hm
  generalize hu1 : (if kind ≠ 1 ∧ u.state = 2 then { u with state := 4, asleep := false } else u : Un) = u1 at hm
  have hun : unC t u1 = unC t u := by
    rw [← hu1]
    split <;> rfl
  refine jn.at (t := ()) (fun w' => Ok e (pts k (kC A K) :: pts (A.ub (K.who - 1).toNat) (unC t u) :: pts t (tcC u1) :: H :: kR A K (pts d [.int .i64 0, .int .i64 0] :: L)) w') (fun J hJ => cs.mk (fun h1 => ?_) (fun h1 => ?_)) (fun w3 h => ?_)
  · have h1 : kind ≠ 1 := by simpa using h1
    refine nn.mk (ldP.mk (h.p1.cell rfl) ?_)
    refine call205 (Stay_tcb (u := u) ((Ok.emb (h) (.cons (A := pts t (tcC u)) (by with_reducible first | exact sl0 | exact .there sl0 | exact .there sl1 | exact .there sl2 | exact .there sl3 | exact .there sl4 | exact .there sl5 | exact .there sl6 | exact .there sl7 | exact .there sl8 | exact .there sl9 | exact .there sl10 | exact .there sl11 | exact .there sl12) (.same _)))) fun w3 c h => ⟨(c, ()), rfl, hJ w3 ?_⟩)
    have e1 : (if u.state = 2 then { u with state := 4, asleep := false } else u : Un) = u1 := by
      rw [← hu1]
      simp [h1]
    rw [e1] at h
    exact (h.emb (by repeat' (first | with_reducible exact Emb.same _ | exact Emb.nil _ | refine Emb.cons (by with_reducible first | exact sl0 | exact .there sl0 | exact .there sl1 | exact .there sl2 | exact .there sl3 | exact .there sl4 | exact .there sl5 | exact .there sl6 | exact .there sl7 | exact .there sl8 | exact .there sl9 | exact .there sl10 | exact .there sl11 | exact .there sl12) ?_ | refine Emb.skip ?_)))
  · have h1 : kind = 1 := by simpa using h1
    have e1 : u = u1 := by rw [← hu1]; simp [h1]
    rw [← e1] at hJ
    exact hJ w2 h
  refine dr.mk h fun w4 h => nn.mk (ldP.mk (h.cell rfl) (nn.mk (ldI.mk (h.cell rfl) ?_)))
  refine call197 (Remove_ready (n := K.who) ((Ok.emb (h) (.cons (A := rdyP A.rq K.rdy) (by with_reducible first | exact sl0 | exact .there sl0 | exact .there sl1 | exact .there sl2 | exact .there sl3 | exact .there sl4 | exact .there sl5 | exact .there sl6 | exact .there sl7 | exact .there sl8 | exact .there sl9 | exact .there sl10 | exact .there sl11 | exact .there sl12) (.same _)))) fun w5 h => ⟨(_, ()), rfl, ?_⟩)
  have h : Ok e (pts (A.ub (K.who - 1).toNat) (unC t u) :: pts k (kC A K) :: pts t (tcC u1) :: H :: semsP A.ss K.sems :: flgP A.fs :: datasP A.ds K.datas :: poolsP A.ps K.pools :: mmP A.lk K.mm :: placeP A.pl K.pl :: hnP A.hn K.tic K.up K.tb K.last K.ents :: rdyP A.rq (rmL K.rdy K.who) :: pts d [.int .i64 0, .int .i64 0] :: L) w5 := (h.emb (by repeat' (first | with_reducible exact Emb.same _ | exact Emb.nil _ | refine Emb.cons (by with_reducible first | exact sl0 | exact .there sl0 | exact .there sl1 | exact .there sl2 | exact .there sl3 | exact .there sl4 | exact .there sl5 | exact .there sl6 | exact .there sl7 | exact .there sl8 | exact .there sl9 | exact .there sl10 | exact .there sl11 | exact .there sl12) ?_ | refine Emb.skip ?_)))
  rw [← hun] at h
  refine nn.mk (st1.mk h (by simp) fun w6 h => nn.mk (st1.mk h (by simp) fun w7 h => ?_))
  have h : Ok e (pts k (kC A K) :: pts (A.ub (K.who - 1).toNat) (unC t { u1 with kind := kind, obj := obj }) :: pts t (tcC { u1 with kind := kind, obj := obj }) :: H :: semsP A.ss K.sems :: flgP A.fs :: datasP A.ds K.datas :: poolsP A.ps K.pools :: mmP A.lk K.mm :: placeP A.pl K.pl :: hnP A.hn K.tic K.up K.tb K.last K.ents :: rdyP A.rq (rmL K.rdy K.who) :: pts d [.int .i64 0, .int .i64 0] :: L) w7 := h.p1
  have fin : ∀ (N : KM) w', N.settle = some K' → Ok e (kerP k A N :: pts d [.int .i64 0, .int .i64 0] :: L) w' → cl Pg 56 [pV k] [] w' fun (r36 : Unit) w37 => st1 w37 d 0 (.int .i64 1) fun w38 => st1 w38 d (0 + 1) (.int .i64 0) fun w39 => ldI w39 .i64 d 0 fun n40 => ldI w39 .i64 d (0 + 1) fun n41 => R [.agg #[.int .i64 n40, .int .i64 n41]] w39 := by
    intro N w' hN h
    refine call56 (settle_kern h hN fun w8 h => ⟨(), rfl, ?_⟩)
    exact st1.mk h.p1 (by simp) fun w9 h => st1.mk h (by simp) fun w10 h => ldI.mk (h.cell rfl) (ldI.mk (h.cell rfl) (kk w10 h.drop))
  by_cases ht : tmo ≥ 0
  · rw [if_pos ht] at hm
    obtain ⟨r, hr, hm⟩ := Option.bind_eq_some_iff.1 hm
    refine jn.at (t := ()) (fun w' => Ok e (kerP k A (r.2.setU K.who { u1 with kind := kind, obj := obj, handle := r.1 }) :: pts d [.int .i64 0, .int .i64 0] :: L) w') (fun J hJ => cs.yes (decide_eq_true ht) ?_) (fun w' h => fin _ w' hm h)
    refine dr.mk h fun w8 h => nn.mk (ldP.mk (h.cell rfl) (nn.mk (ldI.mk (h.cell rfl) ?_)))
    unfold KM.wait at hr
    split at hr
    · next hc =>
      cases hr
      refine call206 (Wait_cyc (d := tmo) (arg := K.who) ((Ok.emb (h) (.cons (A := hnP A.hn K.tic K.up K.tb K.last K.ents) (by with_reducible first | exact sl0 | exact .there sl0 | exact .there sl1 | exact .there sl2 | exact .there sl3 | exact .there sl4 | exact .there sl5 | exact .there sl6 | exact .there sl7 | exact .there sl8 | exact .there sl9 | exact .there sl10 | exact .there sl11 | exact .there sl12) (.same _)))) ⟨ho.t0, ho.t1⟩ hc fun w9 h => ⟨(K.last + 1, (0 : Int), ()), rfl, ?_⟩)
      have h : Ok e (pts (A.ub (K.who - 1).toNat) (unC t { u1 with kind := kind, obj := obj }) :: pts k (kC A K) :: pts t (tcC { u1 with kind := kind, obj := obj }) :: H :: semsP A.ss K.sems :: flgP A.fs :: datasP A.ds K.datas :: poolsP A.ps K.pools :: mmP A.lk K.mm :: placeP A.pl K.pl :: hnP A.hn K.tic K.up K.tb (K.last + 1) (insE ⟨K.up + tmo + K.tic, K.last + 1, K.who⟩ K.ents) :: rdyP A.rq (rmL K.rdy K.who) :: pts d [.int .i64 0, .int .i64 0] :: L) w9 := (h.emb (by repeat' (first | with_reducible exact Emb.same _ | exact Emb.nil _ | refine Emb.cons (by with_reducible first | exact sl0 | exact .there sl0 | exact .there sl1 | exact .there sl2 | exact .there sl3 | exact .there sl4 | exact .there sl5 | exact .there sl6 | exact .there sl7 | exact .there sl8 | exact .there sl9 | exact .there sl10 | exact .there sl11 | exact .there sl12) ?_ | refine Emb.skip ?_)))
      refine nn.mk (st1.mk h (by simp) fun w10 h => hJ w10 ?_)
      exact back { K with rdy := rmL K.rdy K.who, last := K.last + 1, ents := insE ⟨K.up + tmo + K.tic, K.last + 1, K.who⟩ K.ents } { u1 with kind := kind, obj := obj, handle := K.last + 1 } e _ w10 (ho.of rfl rfl rfl rfl rfl) rfl h.p1
    · cases hr
  · rw [if_neg ht] at hm
    refine jn.at (t := ()) (fun w' => Ok e (kerP k A (({ K with rdy := rmL K.rdy K.who } : KM).setU K.who { u1 with kind := kind, obj := obj }) :: pts d [.int .i64 0, .int .i64 0] :: L) w') (fun J hJ => cs.no (decide_eq_false ht) (hJ w7 ?_)) (fun w' h => fin _ w' hm h)
    exact back { K with rdy := rmL K.rdy K.who } { u1 with kind := kind, obj := obj } e _ w7 (ho.of rfl rfl rfl rfl rfl) rfl h

end Go.Proofs.YtenonfkfoedfmaaGreatDoor.B


/- Contracts of the kernel's functions: who ends; a tick; interrupts; what is told. -/
namespace Go.Proofs.YtenonfkfoedfmaaGreatDoor.B
open Go
set_option linter.unusedVariables false

end Go.Proofs.YtenonfkfoedfmaaGreatDoor.B


/- Contracts of the package ctx: entering and leaving. -/
namespace Go.Proofs.YtenonfkfoedfmaaGreatDoor.B
open Go
set_option linter.unusedVariables false

theorem PlaceM.top_at {m : PlaceM} {x : Int} (h : m.lv[m.lv.length - 1]? = some x) : m.top = x := by
  unfold PlaceM.top
  rw [List.getLast?_eq_getElem?, h]; rfl

theorem PlaceM.inn_iff (m : PlaceM) : m.inn = true ↔ 0 < m.lv.length := by simp [PlaceM.inn]

theorem Enter_ctx {e w L p m l R} (h : Ok e (placeP p m :: L) w) (hb : m.lv.length ≤ 2 ^ 30) (k : ∀ w', Ok e (placeP p (m.enter l).2 :: L) w' → R [.int .i64 (m.enter l).1] w') : sh74 (some ⟨p, 0, none⟩) l R w := by
  unfold sh74
  refine jn.bool (decide (l < 1) || decide (l > 15)) (fun J hJ => cs.mk (fun h1 => ?_) (fun h1 => ?_)) ?_
  · simpa [show l < 1 by simpa using h1] using hJ
  · simpa [show ¬ l < 1 by simpa using h1] using hJ
  dsimp only
  refine cs.mk (fun h1 => ?_) (fun h1 => ?_)
  · have he : m.enter l = (-17, m) := by
      have : l < 1 ∨ l > 15 := by simpa using h1
      simp only [PlaceM.enter, if_pos this]
    rw [he] at k; exact k w h
  have hl : ¬ (l < 1 ∨ l > 15) := by simpa using h1
  refine dr.mk h fun w1 h => ?_
  refine jn.bool (m.locked || (m.inn && decide (l ≤ m.top))) (fun J hJ => ?_) ?_
  · have h0 := h
    obtain ⟨s, hs, h⟩ := placeE h
    (repeat (first | with_reducible refine nn.mk ?_ | ((first | with_reducible apply ldI.mk | with_reducible apply ldB.mk | with_reducible apply ldP.mk | with_reducible apply ldS.mk | with_reducible apply ldM.mk | with_reducible apply ldF.mk | with_reducible apply ldG.mk); (· exact (by refine Ok.cellS h (by with_reducible first | exact sl0 | exact .there sl0 | exact .there sl1 | exact .there sl2 | exact .there sl3 | exact .there sl4 | exact .there sl5 | exact .there sl6 | exact .there sl7 | exact .there sl8 | exact .there sl9 | exact .there sl10 | exact .there sl11 | exact .there sl12) ?_; rfl)))))
    refine cs.mk (fun h2 => ?_) (fun h2 => ?_)
    · simpa [h2] using hJ
    (repeat (first | with_reducible refine nn.mk ?_ | ((first | with_reducible apply ldI.mk | with_reducible apply ldB.mk | with_reducible apply ldP.mk | with_reducible apply ldS.mk | with_reducible apply ldM.mk | with_reducible apply ldF.mk | with_reducible apply ldG.mk); (· exact (by refine Ok.cellS h (by with_reducible first | exact sl0 | exact .there sl0 | exact .there sl1 | exact .there sl2 | exact .there sl3 | exact .there sl4 | exact .there sl5 | exact .there sl6 | exact .there sl7 | exact .there sl8 | exact .there sl9 | exact .there sl10 | exact .there sl11 | exact .there sl12) ?_; rfl)))))
    refine call128 (In_ctx h0 ⟨(m.inn, ()), rfl, ?_⟩)
    dsimp only
    refine cs.mk (fun h3 => ?_) (fun h3 => ?_)
    · (repeat (first | with_reducible refine nn.mk ?_ | ((first | with_reducible apply ldI.mk | with_reducible apply ldB.mk | with_reducible apply ldP.mk | with_reducible apply ldS.mk | with_reducible apply ldM.mk | with_reducible apply ldF.mk | with_reducible apply ldG.mk); (· exact (by refine Ok.cellS h (by with_reducible first | exact sl0 | exact .there sl0 | exact .there sl1 | exact .there sl2 | exact .there sl3 | exact .there sl4 | exact .there sl5 | exact .there sl6 | exact .there sl7 | exact .there sl8 | exact .there sl9 | exact .there sl10 | exact .there sl11 | exact .there sl12) ?_; rfl)))))
      have hpos := m.inn_iff.1 h3
      have hw : w64 ((s.len : Int) - 1) = ((m.lv.length - 1 : Nat) : Int) := by rw [hs, w64_in (by omega) (by omega)]; omega
      rw [hw]
      refine ix_int h.p1 (by omega) (by omega) fun b o x hx hc => ?_
      refine ldI.mk (hc _ ⟨_, h.p1⟩) ?_
      rw [Int.toNat_natCast] at hx
      rw [← PlaceM.top_at hx]
      simpa [h2, h3] using hJ
    · simpa [h2, h3] using hJ
  dsimp only
  refine cs.mk (fun h2 => ?_) (fun h2 => ?_)
  · have he : m.enter l = (-25, m) := by
      have : m.locked = true ∨ m.inn = true ∧ l ≤ m.top := by simpa using h2
      simp only [PlaceM.enter, if_neg hl, if_pos this]
    rw [he] at k; exact k w1 h
  have he : m.enter l = (0, { m with lv := m.lv ++ [l] }) := by
    have : ¬ (m.locked = true ∨ m.inn = true ∧ l ≤ m.top) := by simpa using h2
    simp only [PlaceM.enter, if_neg hl, if_neg this]
  rw [he] at k
  obtain ⟨s, hs, h⟩ := placeE h
  (repeat (first | with_reducible refine nn.mk ?_ | ((first | with_reducible apply ldI.mk | with_reducible apply ldB.mk | with_reducible apply ldP.mk | with_reducible apply ldS.mk | with_reducible apply ldM.mk | with_reducible apply ldF.mk | with_reducible apply ldG.mk); (· exact (by refine Ok.cellS h (by with_reducible first | exact sl0 | exact .there sl0 | exact .there sl1 | exact .there sl2 | exact .there sl3 | exact .there sl4 | exact .there sl5 | exact .there sl6 | exact .there sl7 | exact .there sl8 | exact .there sl9 | exact .there sl10 | exact .there sl11 | exact .there sl12) ?_; rfl)))))
  refine al.mk h fun b w2 h => ?_
  refine ef.append1 slT_int (by decide) (us := [.int .i64 l]) (n := 1) h.p2.p1 rfl (by simp [Value.oneCell']) (by omega) fun s' w3 hl' h => ?_
  have h := h.p1
  (repeat (first | with_reducible refine nn.mk ?_ | ((first | with_reducible apply ldI.mk | with_reducible apply ldB.mk | with_reducible apply ldP.mk | with_reducible apply ldS.mk | with_reducible apply ldM.mk | with_reducible apply ldF.mk | with_reducible apply ldG.mk); (· exact (by refine Ok.cellS h (by with_reducible first | exact sl0 | exact .there sl0 | exact .there sl1 | exact .there sl2 | exact .there sl3 | exact .there sl4 | exact .there sl5 | exact .there sl6 | exact .there sl7 | exact .there sl8 | exact .there sl9 | exact .there sl10 | exact .there sl11 | exact .there sl12) ?_; rfl)))))
  refine st1.mk h (by simp) fun w4 h => ?_
  refine k w4 (placeI (s := s') (m := { m with lv := m.lv ++ [l] }) ?_)
  have : ints (m.lv ++ [l]) = ints m.lv ++ [.int .i64 l] := by simp [ints]
  rw [this]
  exact h

theorem Exit_ctx {e w L p m R} (h : Ok e (placeP p m :: L) w) (hb : m.lv.length ≤ 2 ^ 30) (k : ∀ w', Ok e (placeP p m.exit.2 :: L) w' → R [.int .i64 m.exit.1] w') : sh75 (some ⟨p, 0, none⟩) R w := by
  unfold sh75
  (repeat (first | with_reducible refine nn.mk ?_ | ((first | with_reducible apply ldI.mk | with_reducible apply ldB.mk | with_reducible apply ldP.mk | with_reducible apply ldS.mk | with_reducible apply ldM.mk | with_reducible apply ldF.mk | with_reducible apply ldG.mk); (· exact (by refine Ok.cellS h (by with_reducible first | exact sl0 | exact .there sl0 | exact .there sl1 | exact .there sl2 | exact .there sl3 | exact .there sl4 | exact .there sl5 | exact .there sl6 | exact .there sl7 | exact .there sl8 | exact .there sl9 | exact .there sl10 | exact .there sl11 | exact .there sl12) ?_; rfl)))))
  refine call128 (In_ctx h ⟨(m.inn, ()), rfl, ?_⟩)
  dsimp only
  refine cs.mk (fun h1 => ?_) (fun h1 => ?_)
  · have he : m.exit = (-25, m) := by simp [PlaceM.exit, show m.inn = false by simpa using h1]
    rw [he] at k; exact k w h
  have hin : m.inn = true := by simpa using h1
  have he : m.exit = (0, { m with lv := m.lv.take (m.lv.length - 1) }) := by simp [PlaceM.exit, hin]
  rw [he] at k
  have hpos := m.inn_iff.1 hin
  refine dr.mk h fun w1 h => ?_
  obtain ⟨s, hs, h⟩ := placeE h
  (repeat (first | with_reducible refine nn.mk ?_ | ((first | with_reducible apply ldI.mk | with_reducible apply ldB.mk | with_reducible apply ldP.mk | with_reducible apply ldS.mk | with_reducible apply ldM.mk | with_reducible apply ldF.mk | with_reducible apply ldG.mk); (· exact (by refine Ok.cellS h (by with_reducible first | exact sl0 | exact .there sl0 | exact .there sl1 | exact .there sl2 | exact .there sl3 | exact .there sl4 | exact .there sl5 | exact .there sl6 | exact .there sl7 | exact .there sl8 | exact .there sl9 | exact .there sl10 | exact .there sl11 | exact .there sl12) ?_; rfl)))))
  have hw : w64 ((s.len : Int) - 1) = ((m.lv.length - 1 : Nat) : Int) := by rw [hs, w64_in (by omega) (by omega)]; omega
  rw [hw]
  refine sb.take h.p1 (by omega) (by omega) fun s' hl' hc' h => ?_
  have h := h.p1
  (repeat (first | with_reducible refine nn.mk ?_ | ((first | with_reducible apply ldI.mk | with_reducible apply ldB.mk | with_reducible apply ldP.mk | with_reducible apply ldS.mk | with_reducible apply ldM.mk | with_reducible apply ldF.mk | with_reducible apply ldG.mk); (· exact (by refine Ok.cellS h (by with_reducible first | exact sl0 | exact .there sl0 | exact .there sl1 | exact .there sl2 | exact .there sl3 | exact .there sl4 | exact .there sl5 | exact .there sl6 | exact .there sl7 | exact .there sl8 | exact .there sl9 | exact .there sl10 | exact .there sl11 | exact .there sl12) ?_; rfl)))))
  refine st1.mk h (by simp) fun w2 h => ?_
  refine k w2 (placeI (s := s') (m := { m with lv := m.lv.take (m.lv.length - 1) }) ?_)
  have : ints (m.lv.take (m.lv.length - 1)) = (ints m.lv).take (m.lv.length - 1) := by simp [ints]
  rw [this]
  simpa using h

/-! ### the reference's place: the same layout -/

end Go.Proofs.YtenonfkfoedfmaaGreatDoor.B


/- Contracts of the kernel's functions: a tick; interrupts; what is told of a task. -/
namespace Go.Proofs.YtenonfkfoedfmaaGreatDoor.B
open Go
set_option linter.unusedVariables false

theorem Running_kern {e w L k A K R} (h : Ok e (kerP k A K :: L) w) (kk : R [.int .i64 K.who] w) : sh21 (some ⟨k, 0, none⟩) R w := by
  obtain ⟨ho, h⟩ := kerE h
  unfold sh21
  exact nn.mk (ldI.mk (h.cell rfl) kk)

theorem Tick_kern {e w L k A K K' R} (tb : TabE e) (h : Ok e (kerP k A K :: old e :: L) w) (hm : K.tick = some K') (kk : ∀ w', Ok e (kerP k A K' :: old e :: L) w' → R [vS ⟨none, 0, 0⟩] w') : sh22 (some ⟨k, 0, none⟩) R w := by
  unfold sh22
  unfold KM.tick at hm
  split at hm
  · next hu =>
    obtain ⟨K2, hK2, rfl⟩ := Option.map_eq_some_iff.1 hm
    obtain ⟨ho, h⟩ := kerE h
    have hdl : ((dueE (K.up + K.tic) K.ents).map Ent.arg).length ≤ 256 := by
      obtain ⟨c0, t0, h0⟩ := hnE ((Ok.emb (h) (.cons (A := hnP A.hn K.tic K.up K.tb K.last K.ents) (by with_reducible first | exact sl0 | exact .there sl0 | exact .there sl1 | exact .there sl2 | exact .there sl3 | exact .there sl4 | exact .there sl5 | exact .there sl6 | exact .there sl7 | exact .there sl8 | exact .there sl9 | exact .there sl10 | exact .there sl11 | exact .there sl12) (.same _))))
      have h1 := (tm_ok h0.p2).len
      have h2 : (dueE (K.up + K.tic) K.ents).length ≤ K.ents.length := (List.takeWhile_sublist _).length_le
      rw [List.length_map]; omega
    refine nn.mk (ldP.mk (h.cell rfl) ?_)
    refine call53 (Pass_cyc ((Ok.emb (h) (.cons (A := hnP A.hn K.tic K.up K.tb K.last K.ents) (by with_reducible first | exact sl0 | exact .there sl0 | exact .there sl1 | exact .there sl2 | exact .there sl3 | exact .there sl4 | exact .there sl5 | exact .there sl6 | exact .there sl7 | exact .there sl8 | exact .there sl9 | exact .there sl10 | exact .there sl11 | exact .there sl12) (.same _)))) ⟨ho.t0, ho.t1⟩ hu fun s w1 h => ⟨(⟨none, 0, 0⟩, s, ()), rfl, ?_⟩)
    have h := kerI (K := { K with up := K.up + K.tic, ents := restE (K.up + K.tic) K.ents }) (A := A) (ho.of rfl rfl rfl rfl rfl) ((h.emb (by repeat' (first | with_reducible exact Emb.same _ | exact Emb.nil _ | refine Emb.cons (by with_reducible first | exact sl0 | exact .there sl0 | exact .there sl1 | exact .there sl2 | exact .there sl3 | exact .there sl4 | exact .there sl5 | exact .there sl6 | exact .there sl7 | exact .there sl8 | exact .there sl9 | exact .there sl10 | exact .there sl11 | exact .there sl12) ?_ | refine Emb.skip ?_))) : Ok e (pts k (kC A K) :: unitsP A.ub A.us K.us :: semsP A.ss K.sems :: flgP A.fs :: datasP A.ds K.datas :: poolsP A.ps K.pools :: mmP A.lk K.mm :: placeP A.pl K.pl :: hnP A.hn K.tic (K.up + K.tic) K.tb K.last (restE (K.up + K.tic) K.ents) :: rdyP A.rq K.rdy :: old e :: slc 1 s (ints ((dueE (K.up + K.tic) K.ents).map Ent.arg)) :: L) w1)
    have hsl : ((dueE (K.up + K.tic) K.ents).map Ent.arg).length = s.len := by have := h.p2.slc_len; rw [ints_len] at this; omega
    generalize (dueE (K.up + K.tic) K.ents).map Ent.arg = l at *
    refine lp.mk (fun t w1 => ∃ (i : Nat) (N : KM), @Eq Int t.1 (i : Int) ∧ i ≤ l.length ∧ KM.tickL (l.drop i) N = some K2 ∧ Ok e (kerP k A N :: old e :: slc 1 s (ints l) :: L) w1) (fun t _ => Int.toNat (Int.sub l.length t.1)) ⟨0, _, rfl, Nat.zero_le _, hK2, h⟩ ?_
    rintro ⟨(t : Int), _⟩ w2 ⟨i, N, (rfl : t = (i : Int)), hi, hm, h⟩
    refine cs.mk (fun h1 => ?_) (fun h1 => ?_)
    · have h1 : i < l.length := by have := of_decide_eq_true h1; dsimp only at this; omega
      rw [List.drop_eq_getElem_cons h1, KM.tickL] at hm
      obtain ⟨u, hu, hm⟩ := Option.bind_eq_some_iff.1 hm
      obtain ⟨N2, hN2, hm⟩ := Option.bind_eq_some_iff.1 hm
      obtain ⟨N3, hN3, hm⟩ := Option.bind_eq_some_iff.1 hm
      obtain ⟨N4, hN4, hm⟩ := Option.bind_eq_some_iff.1 hm
      refine ix_int h.p2 (by dsimp only; omega) (by dsimp only; omega) fun b o y hy hc => ldI.mk (hc _ ⟨_, h.p2⟩) ?_
      rw [Int.toNat_natCast, List.getElem?_eq_getElem h1] at hy
      cases hy
      obtain ⟨t0, H0, _, h0, _, read0⟩ := ker_un h hu
      refine nn.mk (ldS.mk (h0.cell rfl) (read0 e _ w2 _ ((Ok.emb (h0) (.cons (A := H0) (by with_reducible first | exact sl0 | exact .there sl0 | exact .there sl1 | exact .there sl2 | exact .there sl3 | exact .there sl4 | exact .there sl5 | exact .there sl6 | exact .there sl7 | exact .there sl8 | exact .there sl9 | exact .there sl10 | exact .there sl11 | exact .there sl12) (.same _)))) fun b2 o2 hc => ldP.mk hc (nn.mk (ldI.mk (h0.p1.cell rfl) ?_))))
      refine jn.at (t := ((if u.kind = 2 then 0 else -50 : Int), ())) (fun w' => w' = w2) (fun J hJ => cs.mk (fun h2 => ?_) (fun h2 => ?_)) ?_
      · have h2 : u.kind = 2 := by simpa using h2
        rw [if_pos h2] at hJ
        exact hJ _ rfl
      · have h2 : ¬ u.kind = 2 := by simpa using h2
        rw [if_neg h2] at hJ
        exact hJ _ rfl
      rintro w' rfl
      refine call54 (leave_kern h hN2 fun w3 h => ⟨(), rfl, ?_⟩)
      refine call55 (a2 := ((if u.kind = 2 then 0 else -50 : Int), (0 : Int), ())) (wake_kern h hN3 fun w4 h => ⟨(), rfl, ?_⟩)
      refine call56 (settle_kern h hN4 fun w5 h => ⟨(), rfl, ?_⟩)
      refine ⟨⟨i + 1, N4, ?_, h1, hm, h⟩, ?_⟩
      · show w64 ((i : Int) + 1) = _
        rw [w64_in (by omega) (by omega)]; rfl
      · show Int.toNat (Int.sub _ (w64 ((i : Int) + 1))) < Int.toNat (Int.sub _ (i : Int))
        rw [w64_in (by omega) (by omega)]
        show Int.toNat ((l.length : Int) - ((i : Int) + 1)) < Int.toNat ((l.length : Int) - (i : Int))
        omega
    · have h1 : l.length ≤ i := by have := of_decide_eq_false h1; dsimp only at this; omega
      rw [List.drop_eq_nil_of_le h1] at hm
      cases hm
      exact call57 (choose_kern tb h fun w3 h => ⟨(), rfl, kk w3 h.p2.drop⟩)
  · cases hm

theorem Int_kern {e w L k A K lev R} (tb : TabE e) (h : Ok e (kerP k A K :: old e :: L) w) (hb : K.pl.lv.length ≤ 100) (kk : ∀ w', Ok e (kerP k A (K.intr lev).2 :: old e :: L) w' → R [.int .i64 (K.intr lev).1] w') : sh39 (some ⟨k, 0, none⟩) lev R w := by
  obtain ⟨ho, h⟩ := kerE h
  unfold sh39
  refine nn.mk (ldP.mk (h.cell rfl) ?_)
  refine call74 (Enter_ctx (l := lev) ((Ok.emb (h) (.cons (A := placeP A.pl K.pl) (by with_reducible first | exact sl0 | exact .there sl0 | exact .there sl1 | exact .there sl2 | exact .there sl3 | exact .there sl4 | exact .there sl5 | exact .there sl6 | exact .there sl7 | exact .there sl8 | exact .there sl9 | exact .there sl10 | exact .there sl11 | exact .there sl12) (.same _)))) (by omega) fun w1 h => ⟨((K.pl.enter lev).1, ()), rfl, ?_⟩)
  have h := kerI (K := { K with pl := (K.pl.enter lev).2 }) (A := A) (ho.of rfl rfl rfl rfl rfl) ((h.emb (by repeat' (first | with_reducible exact Emb.same _ | exact Emb.nil _ | refine Emb.cons (by with_reducible first | exact sl0 | exact .there sl0 | exact .there sl1 | exact .there sl2 | exact .there sl3 | exact .there sl4 | exact .there sl5 | exact .there sl6 | exact .there sl7 | exact .there sl8 | exact .there sl9 | exact .there sl10 | exact .there sl11 | exact .there sl12) ?_ | refine Emb.skip ?_))) : Ok e (pts k (kC A K) :: unitsP A.ub A.us K.us :: semsP A.ss K.sems :: flgP A.fs :: datasP A.ds K.datas :: poolsP A.ps K.pools :: mmP A.lk K.mm :: placeP A.pl (K.pl.enter lev).2 :: hnP A.hn K.tic K.up K.tb K.last K.ents :: rdyP A.rq K.rdy :: old e :: L) w1)
  exact call57 (choose_kern tb h fun w2 h => ⟨(), rfl, kk w2 h⟩)

theorem Ret_kern {e w L k A K R} (tb : TabE e) (h : Ok e (kerP k A K :: old e :: L) w) (hb : K.pl.lv.length ≤ 100) (kk : ∀ w', Ok e (kerP k A K.retn.2 :: old e :: L) w' → R [.int .i64 K.retn.1] w') : sh40 (some ⟨k, 0, none⟩) R w := by
  obtain ⟨ho, h⟩ := kerE h
  unfold sh40
  refine nn.mk (ldP.mk (h.cell rfl) ?_)
  refine call75 (Exit_ctx ((Ok.emb (h) (.cons (A := placeP A.pl K.pl) (by with_reducible first | exact sl0 | exact .there sl0 | exact .there sl1 | exact .there sl2 | exact .there sl3 | exact .there sl4 | exact .there sl5 | exact .there sl6 | exact .there sl7 | exact .there sl8 | exact .there sl9 | exact .there sl10 | exact .there sl11 | exact .there sl12) (.same _)))) (by omega) fun w1 h => ⟨(K.pl.exit.1, ()), rfl, ?_⟩)
  have h := kerI (K := { K with pl := K.pl.exit.2 }) (A := A) (ho.of rfl rfl rfl rfl rfl) ((h.emb (by repeat' (first | with_reducible exact Emb.same _ | exact Emb.nil _ | refine Emb.cons (by with_reducible first | exact sl0 | exact .there sl0 | exact .there sl1 | exact .there sl2 | exact .there sl3 | exact .there sl4 | exact .there sl5 | exact .there sl6 | exact .there sl7 | exact .there sl8 | exact .there sl9 | exact .there sl10 | exact .there sl11 | exact .there sl12) ?_ | refine Emb.skip ?_))) : Ok e (pts k (kC A K) :: unitsP A.ub A.us K.us :: semsP A.ss K.sems :: flgP A.fs :: datasP A.ds K.datas :: poolsP A.ps K.pools :: mmP A.lk K.mm :: placeP A.pl K.pl.exit.2 :: hnP A.hn K.tic K.up K.tb K.last K.ents :: rdyP A.rq K.rdy :: old e :: L) w1)
  exact call57 (choose_kern tb h fun w2 h => ⟨(), rfl, kk w2 h⟩)

theorem Task_kern {e w L k A K n f R} (h : Ok e (kerP k A K :: L) w) (hm : K.task n = some f)
    (kk : ∀ w', Ok e (kerP k A K :: L) w' → R [.agg #[.int .i64 f.state, .int .i64 f.pri, .int .i64 f.base, .int .i64 0, .int .i64 f.kind, .int .i64 f.obj, .int .i64 f.lc, .int .i64 f.lv], .agg #[.int .i64 f.acts, .int .i64 f.wups, .int .i64 f.susps], .int .i64 0] w') : sh24 (some ⟨k, 0, none⟩) n R w := by
  unfold sh24
  obtain ⟨u, hu, hm⟩ := Option.bind_eq_some_iff.1 hm
  obtain ⟨p, hp, hm⟩ := Option.bind_eq_some_iff.1 hm
  obtain ⟨q, hq, rfl⟩ := Option.map_eq_some_iff.1 hm
  refine al.mk h fun b1 w1 h => al.mk h fun b3 w2 h => ?_
  obtain ⟨hn1, hn2, _⟩ := un_get hu
  obtain ⟨t, H, ho, h, back, read⟩ := ker_un (L := pts b3 [.int .i64 0, .int .i64 0, .int .i64 0] :: pts b1 [.int .i64 0, .int .i64 0, .int .i64 0, .int .i64 0, .int .i64 0, .int .i64 0, .int .i64 0, .int .i64 0] :: L) h.p2 hu
  have husl : A.us.len = 1 + K.us.length := by
    obtain ⟨_, h9⟩ := kerE (back K u e _ w2 ho rfl h)
    have := ptrsB_len (h9.p1 : Ok e (ptrsB unP [.pointer none] un0 A.ub A.us (K.setU n u).us :: _) w2)
    rw [setU_same hu] at this
    simpa using this
  refine jn.bool false (fun J hJ => cs.no (by simp; omega) (nn.mk (ldS.mk (h.cell rfl) ?_))) (cs.no rfl ?_)
  · rw [decide_eq_false (by omega)]
    exact hJ
  refine nn.mk (ldS.mk (h.cell rfl) (read e _ w2 _ ((Ok.emb (h) (.cons (A := H) (by with_reducible first | exact sl0 | exact .there sl0 | exact .there sl1 | exact .there sl2 | exact .there sl3 | exact .there sl4 | exact .there sl5 | exact .there sl6 | exact .there sl7 | exact .there sl8 | exact .there sl9 | exact .there sl10 | exact .there sl11 | exact .there sl12) (.same _)))) fun b2 o2 hc => ldP.mk hc (dr.mk h fun w3 h => ?_)))
  refine nn.mk (ldP.mk (h.p1.cell rfl) (nn.mk (ldI.mk (h.p2.cell rfl) ?_)))
  refine nn.mk (ldP.mk (h.cell rfl) (nn.mk (ldP.mk (h.cell rfl) ?_)))
  refine nn.mk (ldI.mk (h.p1.cell rfl) (nn.mk (ldI.mk (h.p1.cell rfl) ?_)))
  refine nn.mk (ldI.mk (h.p1.cell rfl) (ldI.mk (h.p1.cell rfl) ?_))
  have pri : ∀ {w L} {K0 : TK [kI] → World → Prop}, Ok e (mmP A.lk K.mm :: L) w → K0 (p, ()) w → cl Pg 35 [pV A.lk, .int .i64 n] [kI] w K0 := fun h k0 => call35 (Pri_mtx h hp ⟨(p, ()), rfl, k0⟩)
  have bas : ∀ {w L} {K0 : TK [kI] → World → Prop}, Ok e (mmP A.lk K.mm :: L) w → K0 (q, ()) w → cl Pg 36 [pV A.lk, .int .i64 n] [kI] w K0 := fun h k0 => call36 (Base_mtx h hq ⟨(q, ()), rfl, k0⟩)
  refine ⟨pri ((Ok.emb (h) (.cons (A := mmP A.lk K.mm) (by with_reducible first | exact sl0 | exact .there sl0 | exact .there sl1 | exact .there sl2 | exact .there sl3 | exact .there sl4 | exact .there sl5 | exact .there sl6 | exact .there sl7 | exact .there sl8 | exact .there sl9 | exact .there sl10 | exact .there sl11 | exact .there sl12) (.same _)))) ⟨⟨(by refine Ok.cellS h (by with_reducible first | exact sl0 | exact .there sl0 | exact .there sl1 | exact .there sl2 | exact .there sl3 | exact .there sl4 | exact .there sl5 | exact .there sl6 | exact .there sl7 | exact .there sl8 | exact .there sl9 | exact .there sl10 | exact .there sl11 | exact .there sl12) ?_; rfl), (by refine Ok.cellS h (by with_reducible first | exact sl0 | exact .there sl0 | exact .there sl1 | exact .there sl2 | exact .there sl3 | exact .there sl4 | exact .there sl5 | exact .there sl6 | exact .there sl7 | exact .there sl8 | exact .there sl9 | exact .there sl10 | exact .there sl11 | exact .there sl12) ?_; rfl)⟩, (by refine Ok.cellS h (by with_reducible first | exact sl0 | exact .there sl0 | exact .there sl1 | exact .there sl2 | exact .there sl3 | exact .there sl4 | exact .there sl5 | exact .there sl6 | exact .there sl7 | exact .there sl8 | exact .there sl9 | exact .there sl10 | exact .there sl11 | exact .there sl12) ?_; rfl), (by refine Ok.cellS h (by with_reducible first | exact sl0 | exact .there sl0 | exact .there sl1 | exact .there sl2 | exact .there sl3 | exact .there sl4 | exact .there sl5 | exact .there sl6 | exact .there sl7 | exact .there sl8 | exact .there sl9 | exact .there sl10 | exact .there sl11 | exact .there sl12) ?_; rfl), (by refine Ok.cellS h (by with_reducible first | exact sl0 | exact .there sl0 | exact .there sl1 | exact .there sl2 | exact .there sl3 | exact .there sl4 | exact .there sl5 | exact .there sl6 | exact .there sl7 | exact .there sl8 | exact .there sl9 | exact .there sl10 | exact .there sl11 | exact .there sl12) ?_; rfl), (by refine Ok.cellS h (by with_reducible first | exact sl0 | exact .there sl0 | exact .there sl1 | exact .there sl2 | exact .there sl3 | exact .there sl4 | exact .there sl5 | exact .there sl6 | exact .there sl7 | exact .there sl8 | exact .there sl9 | exact .there sl10 | exact .there sl11 | exact .there sl12) ?_; rfl), (by refine Ok.cellS h (by with_reducible first | exact sl0 | exact .there sl0 | exact .there sl1 | exact .there sl2 | exact .there sl3 | exact .there sl4 | exact .there sl5 | exact .there sl6 | exact .there sl7 | exact .there sl8 | exact .there sl9 | exact .there sl10 | exact .there sl11 | exact .there sl12) ?_; rfl), ?_⟩, al.mk h fun fb w4 h => ⟨⟨(by refine Ok.cellS h (by with_reducible first | exact sl0 | exact .there sl0 | exact .there sl1 | exact .there sl2 | exact .there sl3 | exact .there sl4 | exact .there sl5 | exact .there sl6 | exact .there sl7 | exact .there sl8 | exact .there sl9 | exact .there sl10 | exact .there sl11 | exact .there sl12) ?_; rfl), (by refine Ok.cellS h (by with_reducible first | exact sl0 | exact .there sl0 | exact .there sl1 | exact .there sl2 | exact .there sl3 | exact .there sl4 | exact .there sl5 | exact .there sl6 | exact .there sl7 | exact .there sl8 | exact .there sl9 | exact .there sl10 | exact .there sl11 | exact .there sl12) ?_; rfl)⟩, (by refine Ok.cellS h (by with_reducible first | exact sl0 | exact .there sl0 | exact .there sl1 | exact .there sl2 | exact .there sl3 | exact .there sl4 | exact .there sl5 | exact .there sl6 | exact .there sl7 | exact .there sl8 | exact .there sl9 | exact .there sl10 | exact .there sl11 | exact .there sl12) ?_; rfl), (by refine Ok.cellS h (by with_reducible first | exact sl0 | exact .there sl0 | exact .there sl1 | exact .there sl2 | exact .there sl3 | exact .there sl4 | exact .there sl5 | exact .there sl6 | exact .there sl7 | exact .there sl8 | exact .there sl9 | exact .there sl10 | exact .there sl11 | exact .there sl12) ?_; rfl), (by refine Ok.cellS h (by with_reducible first | exact sl0 | exact .there sl0 | exact .there sl1 | exact .there sl2 | exact .there sl3 | exact .there sl4 | exact .there sl5 | exact .there sl6 | exact .there sl7 | exact .there sl8 | exact .there sl9 | exact .there sl10 | exact .there sl11 | exact .there sl12) ?_; rfl), (by refine Ok.cellS h (by with_reducible first | exact sl0 | exact .there sl0 | exact .there sl1 | exact .there sl2 | exact .there sl3 | exact .there sl4 | exact .there sl5 | exact .there sl6 | exact .there sl7 | exact .there sl8 | exact .there sl9 | exact .there sl10 | exact .there sl11 | exact .there sl12) ?_; rfl), (by refine Ok.cellS h (by with_reducible first | exact sl0 | exact .there sl0 | exact .there sl1 | exact .there sl2 | exact .there sl3 | exact .there sl4 | exact .there sl5 | exact .there sl6 | exact .there sl7 | exact .there sl8 | exact .there sl9 | exact .there sl10 | exact .there sl11 | exact .there sl12) ?_; rfl), (by refine Ok.cellS h (by with_reducible first | exact sl0 | exact .there sl0 | exact .there sl1 | exact .there sl2 | exact .there sl3 | exact .there sl4 | exact .there sl5 | exact .there sl6 | exact .there sl7 | exact .there sl8 | exact .there sl9 | exact .there sl10 | exact .there sl11 | exact .there sl12) ?_; rfl), ?_⟩⟩
  · refine ⟨bas ((Ok.emb (h) (.cons (A := mmP A.lk K.mm) (by with_reducible first | exact sl0 | exact .there sl0 | exact .there sl1 | exact .there sl2 | exact .there sl3 | exact .there sl4 | exact .there sl5 | exact .there sl6 | exact .there sl7 | exact .there sl8 | exact .there sl9 | exact .there sl10 | exact .there sl11 | exact .there sl12) (.same _)))) ⟨⟨(by refine Ok.cellS h (by with_reducible first | exact sl0 | exact .there sl0 | exact .there sl1 | exact .there sl2 | exact .there sl3 | exact .there sl4 | exact .there sl5 | exact .there sl6 | exact .there sl7 | exact .there sl8 | exact .there sl9 | exact .there sl10 | exact .there sl11 | exact .there sl12) ?_; rfl), (by refine Ok.cellS h (by with_reducible first | exact sl0 | exact .there sl0 | exact .there sl1 | exact .there sl2 | exact .there sl3 | exact .there sl4 | exact .there sl5 | exact .there sl6 | exact .there sl7 | exact .there sl8 | exact .there sl9 | exact .there sl10 | exact .there sl11 | exact .there sl12) ?_; rfl)⟩, (by refine Ok.cellS h (by with_reducible first | exact sl0 | exact .there sl0 | exact .there sl1 | exact .there sl2 | exact .there sl3 | exact .there sl4 | exact .there sl5 | exact .there sl6 | exact .there sl7 | exact .there sl8 | exact .there sl9 | exact .there sl10 | exact .there sl11 | exact .there sl12) ?_; rfl), (by refine Ok.cellS h (by with_reducible first | exact sl0 | exact .there sl0 | exact .there sl1 | exact .there sl2 | exact .there sl3 | exact .there sl4 | exact .there sl5 | exact .there sl6 | exact .there sl7 | exact .there sl8 | exact .there sl9 | exact .there sl10 | exact .there sl11 | exact .there sl12) ?_; rfl), (by refine Ok.cellS h (by with_reducible first | exact sl0 | exact .there sl0 | exact .there sl1 | exact .there sl2 | exact .there sl3 | exact .there sl4 | exact .there sl5 | exact .there sl6 | exact .there sl7 | exact .there sl8 | exact .there sl9 | exact .there sl10 | exact .there sl11 | exact .there sl12) ?_; rfl), (by refine Ok.cellS h (by with_reducible first | exact sl0 | exact .there sl0 | exact .there sl1 | exact .there sl2 | exact .there sl3 | exact .there sl4 | exact .there sl5 | exact .there sl6 | exact .there sl7 | exact .there sl8 | exact .there sl9 | exact .there sl10 | exact .there sl11 | exact .there sl12) ?_; rfl), ?_⟩, al.mk h fun fb w4 h => ⟨⟨(by refine Ok.cellS h (by with_reducible first | exact sl0 | exact .there sl0 | exact .there sl1 | exact .there sl2 | exact .there sl3 | exact .there sl4 | exact .there sl5 | exact .there sl6 | exact .there sl7 | exact .there sl8 | exact .there sl9 | exact .there sl10 | exact .there sl11 | exact .there sl12) ?_; rfl), (by refine Ok.cellS h (by with_reducible first | exact sl0 | exact .there sl0 | exact .there sl1 | exact .there sl2 | exact .there sl3 | exact .there sl4 | exact .there sl5 | exact .there sl6 | exact .there sl7 | exact .there sl8 | exact .there sl9 | exact .there sl10 | exact .there sl11 | exact .there sl12) ?_; rfl)⟩, (by refine Ok.cellS h (by with_reducible first | exact sl0 | exact .there sl0 | exact .there sl1 | exact .there sl2 | exact .there sl3 | exact .there sl4 | exact .there sl5 | exact .there sl6 | exact .there sl7 | exact .there sl8 | exact .there sl9 | exact .there sl10 | exact .there sl11 | exact .there sl12) ?_; rfl), (by refine Ok.cellS h (by with_reducible first | exact sl0 | exact .there sl0 | exact .there sl1 | exact .there sl2 | exact .there sl3 | exact .there sl4 | exact .there sl5 | exact .there sl6 | exact .there sl7 | exact .there sl8 | exact .there sl9 | exact .there sl10 | exact .there sl11 | exact .there sl12) ?_; rfl), (by refine Ok.cellS h (by with_reducible first | exact sl0 | exact .there sl0 | exact .there sl1 | exact .there sl2 | exact .there sl3 | exact .there sl4 | exact .there sl5 | exact .there sl6 | exact .there sl7 | exact .there sl8 | exact .there sl9 | exact .there sl10 | exact .there sl11 | exact .there sl12) ?_; rfl), (by refine Ok.cellS h (by with_reducible first | exact sl0 | exact .there sl0 | exact .there sl1 | exact .there sl2 | exact .there sl3 | exact .there sl4 | exact .there sl5 | exact .there sl6 | exact .there sl7 | exact .there sl8 | exact .there sl9 | exact .there sl10 | exact .there sl11 | exact .there sl12) ?_; rfl), (by refine Ok.cellS h (by with_reducible first | exact sl0 | exact .there sl0 | exact .there sl1 | exact .there sl2 | exact .there sl3 | exact .there sl4 | exact .there sl5 | exact .there sl6 | exact .there sl7 | exact .there sl8 | exact .there sl9 | exact .there sl10 | exact .there sl11 | exact .there sl12) ?_; rfl), (by refine Ok.cellS h (by with_reducible first | exact sl0 | exact .there sl0 | exact .there sl1 | exact .there sl2 | exact .there sl3 | exact .there sl4 | exact .there sl5 | exact .there sl6 | exact .there sl7 | exact .there sl8 | exact .there sl9 | exact .there sl10 | exact .there sl11 | exact .there sl12) ?_; rfl), ?_⟩⟩
    · refine al.mk h fun fb w5 h => ⟨⟨(by refine Ok.cellS h (by with_reducible first | exact sl0 | exact .there sl0 | exact .there sl1 | exact .there sl2 | exact .there sl3 | exact .there sl4 | exact .there sl5 | exact .there sl6 | exact .there sl7 | exact .there sl8 | exact .there sl9 | exact .there sl10 | exact .there sl11 | exact .there sl12) ?_; rfl), (by refine Ok.cellS h (by with_reducible first | exact sl0 | exact .there sl0 | exact .there sl1 | exact .there sl2 | exact .there sl3 | exact .there sl4 | exact .there sl5 | exact .there sl6 | exact .there sl7 | exact .there sl8 | exact .there sl9 | exact .there sl10 | exact .there sl11 | exact .there sl12) ?_; rfl)⟩, (by refine Ok.cellS h (by with_reducible first | exact sl0 | exact .there sl0 | exact .there sl1 | exact .there sl2 | exact .there sl3 | exact .there sl4 | exact .there sl5 | exact .there sl6 | exact .there sl7 | exact .there sl8 | exact .there sl9 | exact .there sl10 | exact .there sl11 | exact .there sl12) ?_; rfl), (by refine Ok.cellS h (by with_reducible first | exact sl0 | exact .there sl0 | exact .there sl1 | exact .there sl2 | exact .there sl3 | exact .there sl4 | exact .there sl5 | exact .there sl6 | exact .there sl7 | exact .there sl8 | exact .there sl9 | exact .there sl10 | exact .there sl11 | exact .there sl12) ?_; rfl), (by refine Ok.cellS h (by with_reducible first | exact sl0 | exact .there sl0 | exact .there sl1 | exact .there sl2 | exact .there sl3 | exact .there sl4 | exact .there sl5 | exact .there sl6 | exact .there sl7 | exact .there sl8 | exact .there sl9 | exact .there sl10 | exact .there sl11 | exact .there sl12) ?_; rfl), (by refine Ok.cellS h (by with_reducible first | exact sl0 | exact .there sl0 | exact .there sl1 | exact .there sl2 | exact .there sl3 | exact .there sl4 | exact .there sl5 | exact .there sl6 | exact .there sl7 | exact .there sl8 | exact .there sl9 | exact .there sl10 | exact .there sl11 | exact .there sl12) ?_; rfl), (by refine Ok.cellS h (by with_reducible first | exact sl0 | exact .there sl0 | exact .there sl1 | exact .there sl2 | exact .there sl3 | exact .there sl4 | exact .there sl5 | exact .there sl6 | exact .there sl7 | exact .there sl8 | exact .there sl9 | exact .there sl10 | exact .there sl11 | exact .there sl12) ?_; rfl), (by refine Ok.cellS h (by with_reducible first | exact sl0 | exact .there sl0 | exact .there sl1 | exact .there sl2 | exact .there sl3 | exact .there sl4 | exact .there sl5 | exact .there sl6 | exact .there sl7 | exact .there sl8 | exact .there sl9 | exact .there sl10 | exact .there sl11 | exact .there sl12) ?_; rfl), ?_⟩
      have h := ((h.emb (by repeat' (first | with_reducible exact Emb.same _ | exact Emb.nil _ | refine Emb.cons (by with_reducible first | exact sl0 | exact .there sl0 | exact .there sl1 | exact .there sl2 | exact .there sl3 | exact .there sl4 | exact .there sl5 | exact .there sl6 | exact .there sl7 | exact .there sl8 | exact .there sl9 | exact .there sl10 | exact .there sl11 | exact .there sl12) ?_ | refine Emb.skip ?_))) : Ok e (pts fb [.int .i64 0, .int .i64 0, .int .i64 0, .int .i64 0, .int .i64 0, .int .i64 0, .int .i64 0, .int .i64 0] :: pts k (kC A K) :: pts (A.ub (n - 1).toNat) (unC t u) :: pts t (tcC u) :: H :: kR A K (pts b3 [.int .i64 0, .int .i64 0, .int .i64 0] :: pts b1 [.int .i64 0, .int .i64 0, .int .i64 0, .int .i64 0, .int .i64 0, .int .i64 0, .int .i64 0, .int .i64 0] :: L)) _)
      refine st1.mk h (by simp) fun _ h => st1.mk h (by simp) fun _ h => st1.mk h (by simp) fun _ h => st1.mk h (by simp) fun _ h => st1.mk h (by simp) fun _ h => st1.mk h (by simp) fun _ h => st1.mk h (by simp) fun _ h => st1.mk h (by simp) fun w9 h => ?_
      have h : Ok e (pts fb [.int .i64 u.state, .int .i64 p, .int .i64 q, .int .i64 0, .int .i64 u.kind, .int .i64 u.obj, .int .i64 u.lc, .int .i64 u.lv] :: pts k (kC A K) :: pts (A.ub (n - 1).toNat) (unC t u) :: pts t (tcC u) :: H :: kR A K (pts b3 [.int .i64 0, .int .i64 0, .int .i64 0] :: pts b1 [.int .i64 0, .int .i64 0, .int .i64 0, .int .i64 0, .int .i64 0, .int .i64 0, .int .i64 0, .int .i64 0] :: L)) w9 := h
      refine nn.mk (ldI.mk (h.p1.cell rfl) ?_)
      refine jn.at (t := ()) (fun w' => Ok e (pts fb [.int .i64 (if n = K.who then 1 else u.state), .int .i64 p, .int .i64 q, .int .i64 0, .int .i64 u.kind, .int .i64 u.obj, .int .i64 u.lc, .int .i64 u.lv] :: pts k (kC A K) :: pts (A.ub (n - 1).toNat) (unC t u) :: pts t (tcC u) :: H :: kR A K (pts b3 [.int .i64 0, .int .i64 0, .int .i64 0] :: pts b1 [.int .i64 0, .int .i64 0, .int .i64 0, .int .i64 0, .int .i64 0, .int .i64 0, .int .i64 0, .int .i64 0] :: L)) w') (fun J hJ => cs.mk (fun h2 => ?_) (fun h2 => ?_)) (fun w10 h => ?_)
      · have h2 : n = K.who := by simpa using h2
        rw [if_pos h2] at hJ
        exact st1.mk h (by simp) fun w10 h => hJ w10 h
      · have h2 : ¬ n = K.who := by simpa using h2
        rw [if_neg h2] at hJ
        exact hJ w9 h
      refine dr.mk h fun w11 h => ldI.mk (h.cell rfl) (ldI.mk (h.cell rfl) (ldI.mk (h.cell rfl) (ldI.mk (h.cell rfl) (ldI.mk (h.cell rfl) (ldI.mk (h.cell rfl) (ldI.mk (h.cell rfl) (ldI.mk (h.cell rfl) ?_)))))))
      refine nn.mk (ldP.mk (h.p2.cell rfl) (nn.mk (ldI.mk (h.p3.cell rfl) (ldI.mk (h.p3.cell rfl) (ldI.mk (h.p3.cell rfl) ?_)))))
      have h := ((h.emb (by repeat' (first | with_reducible exact Emb.same _ | exact Emb.nil _ | refine Emb.cons (by with_reducible first | exact sl0 | exact .there sl0 | exact .there sl1 | exact .there sl2 | exact .there sl3 | exact .there sl4 | exact .there sl5 | exact .there sl6 | exact .there sl7 | exact .there sl8 | exact .there sl9 | exact .there sl10 | exact .there sl11 | exact .there sl12) ?_ | refine Emb.skip ?_))) : Ok e (pts b1 [.int .i64 0, .int .i64 0, .int .i64 0, .int .i64 0, .int .i64 0, .int .i64 0, .int .i64 0, .int .i64 0] :: pts b3 [.int .i64 0, .int .i64 0, .int .i64 0] :: pts t (tcC u) :: pts (A.ub (n - 1).toNat) (unC t u) :: pts k (kC A K) :: H :: kR A K L) _)
      refine st1.mk h (by simp) fun _ h => st1.mk h (by simp) fun _ h => st1.mk h (by simp) fun _ h => st1.mk h (by simp) fun _ h => st1.mk h (by simp) fun _ h => st1.mk h (by simp) fun _ h => st1.mk h (by simp) fun _ h => st1.mk h (by simp) fun w12 h => ?_
      refine ⟨⟨h.p2.cell rfl, h.p2.cell rfl, h.p2.cell rfl⟩, h.p3.cell rfl, ?_⟩
      refine st1.mk h.p1 (by simp) fun _ h => st1.mk h (by simp) fun _ h => st1.mk h (by simp) fun w13 h => ?_
      refine ldI.mk (h.p1.cell rfl) (ldI.mk (h.p1.cell rfl) (ldI.mk (h.p1.cell rfl) (ldI.mk (h.p1.cell rfl) (ldI.mk (h.p1.cell rfl) (ldI.mk (h.p1.cell rfl) (ldI.mk (h.p1.cell rfl) (ldI.mk (h.p1.cell rfl) ?_)))))))
      refine ldI.mk (h.cell rfl) (ldI.mk (h.cell rfl) (ldI.mk (h.cell rfl) (kk w13 ?_)))
      have h := back K u e L w13 ho rfl (h.emb (by repeat' (first | with_reducible exact Emb.same _ | exact Emb.nil _ | refine Emb.cons (by with_reducible first | exact sl0 | exact .there sl0 | exact .there sl1 | exact .there sl2 | exact .there sl3 | exact .there sl4 | exact .there sl5 | exact .there sl6 | exact .there sl7 | exact .there sl8 | exact .there sl9 | exact .there sl10 | exact .there sl11 | exact .there sl12) ?_ | refine Emb.skip ?_)))
      rw [setU_same hu] at h
      exact h
    · refine bas ((Ok.emb (h) (.cons (A := mmP A.lk K.mm) (by with_reducible first | exact sl0 | exact .there sl0 | exact .there sl1 | exact .there sl2 | exact .there sl3 | exact .there sl4 | exact .there sl5 | exact .there sl6 | exact .there sl7 | exact .there sl8 | exact .there sl9 | exact .there sl10 | exact .there sl11 | exact .there sl12) (.same _)))) ⟨⟨(by refine Ok.cellS h (by with_reducible first | exact sl0 | exact .there sl0 | exact .there sl1 | exact .there sl2 | exact .there sl3 | exact .there sl4 | exact .there sl5 | exact .there sl6 | exact .there sl7 | exact .there sl8 | exact .there sl9 | exact .there sl10 | exact .there sl11 | exact .there sl12) ?_; rfl), (by refine Ok.cellS h (by with_reducible first | exact sl0 | exact .there sl0 | exact .there sl1 | exact .there sl2 | exact .there sl3 | exact .there sl4 | exact .there sl5 | exact .there sl6 | exact .there sl7 | exact .there sl8 | exact .there sl9 | exact .there sl10 | exact .there sl11 | exact .there sl12) ?_; rfl)⟩, (by refine Ok.cellS h (by with_reducible first | exact sl0 | exact .there sl0 | exact .there sl1 | exact .there sl2 | exact .there sl3 | exact .there sl4 | exact .there sl5 | exact .there sl6 | exact .there sl7 | exact .there sl8 | exact .there sl9 | exact .there sl10 | exact .there sl11 | exact .there sl12) ?_; rfl), (by refine Ok.cellS h (by with_reducible first | exact sl0 | exact .there sl0 | exact .there sl1 | exact .there sl2 | exact .there sl3 | exact .there sl4 | exact .there sl5 | exact .there sl6 | exact .there sl7 | exact .there sl8 | exact .there sl9 | exact .there sl10 | exact .there sl11 | exact .there sl12) ?_; rfl), (by refine Ok.cellS h (by with_reducible first | exact sl0 | exact .there sl0 | exact .there sl1 | exact .there sl2 | exact .there sl3 | exact .there sl4 | exact .there sl5 | exact .there sl6 | exact .there sl7 | exact .there sl8 | exact .there sl9 | exact .there sl10 | exact .there sl11 | exact .there sl12) ?_; rfl), (by refine Ok.cellS h (by with_reducible first | exact sl0 | exact .there sl0 | exact .there sl1 | exact .there sl2 | exact .there sl3 | exact .there sl4 | exact .there sl5 | exact .there sl6 | exact .there sl7 | exact .there sl8 | exact .there sl9 | exact .there sl10 | exact .there sl11 | exact .there sl12) ?_; rfl), ?_⟩
      have h := ((h.emb (by repeat' (first | with_reducible exact Emb.same _ | exact Emb.nil _ | refine Emb.cons (by with_reducible first | exact sl0 | exact .there sl0 | exact .there sl1 | exact .there sl2 | exact .there sl3 | exact .there sl4 | exact .there sl5 | exact .there sl6 | exact .there sl7 | exact .there sl8 | exact .there sl9 | exact .there sl10 | exact .there sl11 | exact .there sl12) ?_ | refine Emb.skip ?_))) : Ok e (pts fb [.int .i64 0, .int .i64 0, .int .i64 0, .int .i64 0, .int .i64 0, .int .i64 0, .int .i64 0, .int .i64 0] :: pts k (kC A K) :: pts (A.ub (n - 1).toNat) (unC t u) :: pts t (tcC u) :: H :: kR A K (pts b3 [.int .i64 0, .int .i64 0, .int .i64 0] :: pts b1 [.int .i64 0, .int .i64 0, .int .i64 0, .int .i64 0, .int .i64 0, .int .i64 0, .int .i64 0, .int .i64 0] :: L)) _)
      refine st1.mk h (by simp) fun _ h => st1.mk h (by simp) fun _ h => st1.mk h (by simp) fun _ h => st1.mk h (by simp) fun _ h => st1.mk h (by simp) fun _ h => st1.mk h (by simp) fun _ h => st1.mk h (by simp) fun _ h => st1.mk h (by simp) fun w9 h => ?_
      have h : Ok e (pts fb [.int .i64 u.state, .int .i64 p, .int .i64 q, .int .i64 0, .int .i64 u.kind, .int .i64 u.obj, .int .i64 u.lc, .int .i64 u.lv] :: pts k (kC A K) :: pts (A.ub (n - 1).toNat) (unC t u) :: pts t (tcC u) :: H :: kR A K (pts b3 [.int .i64 0, .int .i64 0, .int .i64 0] :: pts b1 [.int .i64 0, .int .i64 0, .int .i64 0, .int .i64 0, .int .i64 0, .int .i64 0, .int .i64 0, .int .i64 0] :: L)) w9 := h
      refine nn.mk (ldI.mk (h.p1.cell rfl) ?_)
      refine jn.at (t := ()) (fun w' => Ok e (pts fb [.int .i64 (if n = K.who then 1 else u.state), .int .i64 p, .int .i64 q, .int .i64 0, .int .i64 u.kind, .int .i64 u.obj, .int .i64 u.lc, .int .i64 u.lv] :: pts k (kC A K) :: pts (A.ub (n - 1).toNat) (unC t u) :: pts t (tcC u) :: H :: kR A K (pts b3 [.int .i64 0, .int .i64 0, .int .i64 0] :: pts b1 [.int .i64 0, .int .i64 0, .int .i64 0, .int .i64 0, .int .i64 0, .int .i64 0, .int .i64 0, .int .i64 0] :: L)) w') (fun J hJ => cs.mk (fun h2 => ?_) (fun h2 => ?_)) (fun w10 h => ?_)
      · have h2 : n = K.who := by simpa using h2
        rw [if_pos h2] at hJ
        exact st1.mk h (by simp) fun w10 h => hJ w10 h
      · have h2 : ¬ n = K.who := by simpa using h2
        rw [if_neg h2] at hJ
        exact hJ w9 h
      refine dr.mk h fun w11 h => ldI.mk (h.cell rfl) (ldI.mk (h.cell rfl) (ldI.mk (h.cell rfl) (ldI.mk (h.cell rfl) (ldI.mk (h.cell rfl) (ldI.mk (h.cell rfl) (ldI.mk (h.cell rfl) (ldI.mk (h.cell rfl) ?_)))))))
      refine nn.mk (ldP.mk (h.p2.cell rfl) (nn.mk (ldI.mk (h.p3.cell rfl) (ldI.mk (h.p3.cell rfl) (ldI.mk (h.p3.cell rfl) ?_)))))
      have h := ((h.emb (by repeat' (first | with_reducible exact Emb.same _ | exact Emb.nil _ | refine Emb.cons (by with_reducible first | exact sl0 | exact .there sl0 | exact .there sl1 | exact .there sl2 | exact .there sl3 | exact .there sl4 | exact .there sl5 | exact .there sl6 | exact .there sl7 | exact .there sl8 | exact .there sl9 | exact .there sl10 | exact .there sl11 | exact .there sl12) ?_ | refine Emb.skip ?_))) : Ok e (pts b1 [.int .i64 0, .int .i64 0, .int .i64 0, .int .i64 0, .int .i64 0, .int .i64 0, .int .i64 0, .int .i64 0] :: pts b3 [.int .i64 0, .int .i64 0, .int .i64 0] :: pts t (tcC u) :: pts (A.ub (n - 1).toNat) (unC t u) :: pts k (kC A K) :: H :: kR A K L) _)
      refine st1.mk h (by simp) fun _ h => st1.mk h (by simp) fun _ h => st1.mk h (by simp) fun _ h => st1.mk h (by simp) fun _ h => st1.mk h (by simp) fun _ h => st1.mk h (by simp) fun _ h => st1.mk h (by simp) fun _ h => st1.mk h (by simp) fun w12 h => ?_
      refine ⟨⟨h.p2.cell rfl, h.p2.cell rfl, h.p2.cell rfl⟩, h.p3.cell rfl, ?_⟩
      refine st1.mk h.p1 (by simp) fun _ h => st1.mk h (by simp) fun _ h => st1.mk h (by simp) fun w13 h => ?_
      refine ldI.mk (h.p1.cell rfl) (ldI.mk (h.p1.cell rfl) (ldI.mk (h.p1.cell rfl) (ldI.mk (h.p1.cell rfl) (ldI.mk (h.p1.cell rfl) (ldI.mk (h.p1.cell rfl) (ldI.mk (h.p1.cell rfl) (ldI.mk (h.p1.cell rfl) ?_)))))))
      refine ldI.mk (h.cell rfl) (ldI.mk (h.cell rfl) (ldI.mk (h.cell rfl) (kk w13 ?_)))
      have h := back K u e L w13 ho rfl (h.emb (by repeat' (first | with_reducible exact Emb.same _ | exact Emb.nil _ | refine Emb.cons (by with_reducible first | exact sl0 | exact .there sl0 | exact .there sl1 | exact .there sl2 | exact .there sl3 | exact .there sl4 | exact .there sl5 | exact .there sl6 | exact .there sl7 | exact .there sl8 | exact .there sl9 | exact .there sl10 | exact .there sl11 | exact .there sl12) ?_ | refine Emb.skip ?_)))
      rw [setU_same hu] at h
      exact h
  · refine pri ((Ok.emb (h) (.cons (A := mmP A.lk K.mm) (by with_reducible first | exact sl0 | exact .there sl0 | exact .there sl1 | exact .there sl2 | exact .there sl3 | exact .there sl4 | exact .there sl5 | exact .there sl6 | exact .there sl7 | exact .there sl8 | exact .there sl9 | exact .there sl10 | exact .there sl11 | exact .there sl12) (.same _)))) ⟨⟨(by refine Ok.cellS h (by with_reducible first | exact sl0 | exact .there sl0 | exact .there sl1 | exact .there sl2 | exact .there sl3 | exact .there sl4 | exact .there sl5 | exact .there sl6 | exact .there sl7 | exact .there sl8 | exact .there sl9 | exact .there sl10 | exact .there sl11 | exact .there sl12) ?_; rfl), (by refine Ok.cellS h (by with_reducible first | exact sl0 | exact .there sl0 | exact .there sl1 | exact .there sl2 | exact .there sl3 | exact .there sl4 | exact .there sl5 | exact .there sl6 | exact .there sl7 | exact .there sl8 | exact .there sl9 | exact .there sl10 | exact .there sl11 | exact .there sl12) ?_; rfl)⟩, (by refine Ok.cellS h (by with_reducible first | exact sl0 | exact .there sl0 | exact .there sl1 | exact .there sl2 | exact .there sl3 | exact .there sl4 | exact .there sl5 | exact .there sl6 | exact .there sl7 | exact .there sl8 | exact .there sl9 | exact .there sl10 | exact .there sl11 | exact .there sl12) ?_; rfl), (by refine Ok.cellS h (by with_reducible first | exact sl0 | exact .there sl0 | exact .there sl1 | exact .there sl2 | exact .there sl3 | exact .there sl4 | exact .there sl5 | exact .there sl6 | exact .there sl7 | exact .there sl8 | exact .there sl9 | exact .there sl10 | exact .there sl11 | exact .there sl12) ?_; rfl), (by refine Ok.cellS h (by with_reducible first | exact sl0 | exact .there sl0 | exact .there sl1 | exact .there sl2 | exact .there sl3 | exact .there sl4 | exact .there sl5 | exact .there sl6 | exact .there sl7 | exact .there sl8 | exact .there sl9 | exact .there sl10 | exact .there sl11 | exact .there sl12) ?_; rfl), (by refine Ok.cellS h (by with_reducible first | exact sl0 | exact .there sl0 | exact .there sl1 | exact .there sl2 | exact .there sl3 | exact .there sl4 | exact .there sl5 | exact .there sl6 | exact .there sl7 | exact .there sl8 | exact .there sl9 | exact .there sl10 | exact .there sl11 | exact .there sl12) ?_; rfl), (by refine Ok.cellS h (by with_reducible first | exact sl0 | exact .there sl0 | exact .there sl1 | exact .there sl2 | exact .there sl3 | exact .there sl4 | exact .there sl5 | exact .there sl6 | exact .there sl7 | exact .there sl8 | exact .there sl9 | exact .there sl10 | exact .there sl11 | exact .there sl12) ?_; rfl), ?_⟩
    refine bas ((Ok.emb (h) (.cons (A := mmP A.lk K.mm) (by with_reducible first | exact sl0 | exact .there sl0 | exact .there sl1 | exact .there sl2 | exact .there sl3 | exact .there sl4 | exact .there sl5 | exact .there sl6 | exact .there sl7 | exact .there sl8 | exact .there sl9 | exact .there sl10 | exact .there sl11 | exact .there sl12) (.same _)))) ⟨⟨(by refine Ok.cellS h (by with_reducible first | exact sl0 | exact .there sl0 | exact .there sl1 | exact .there sl2 | exact .there sl3 | exact .there sl4 | exact .there sl5 | exact .there sl6 | exact .there sl7 | exact .there sl8 | exact .there sl9 | exact .there sl10 | exact .there sl11 | exact .there sl12) ?_; rfl), (by refine Ok.cellS h (by with_reducible first | exact sl0 | exact .there sl0 | exact .there sl1 | exact .there sl2 | exact .there sl3 | exact .there sl4 | exact .there sl5 | exact .there sl6 | exact .there sl7 | exact .there sl8 | exact .there sl9 | exact .there sl10 | exact .there sl11 | exact .there sl12) ?_; rfl)⟩, (by refine Ok.cellS h (by with_reducible first | exact sl0 | exact .there sl0 | exact .there sl1 | exact .there sl2 | exact .there sl3 | exact .there sl4 | exact .there sl5 | exact .there sl6 | exact .there sl7 | exact .there sl8 | exact .there sl9 | exact .there sl10 | exact .there sl11 | exact .there sl12) ?_; rfl), (by refine Ok.cellS h (by with_reducible first | exact sl0 | exact .there sl0 | exact .there sl1 | exact .there sl2 | exact .there sl3 | exact .there sl4 | exact .there sl5 | exact .there sl6 | exact .there sl7 | exact .there sl8 | exact .there sl9 | exact .there sl10 | exact .there sl11 | exact .there sl12) ?_; rfl), (by refine Ok.cellS h (by with_reducible first | exact sl0 | exact .there sl0 | exact .there sl1 | exact .there sl2 | exact .there sl3 | exact .there sl4 | exact .there sl5 | exact .there sl6 | exact .there sl7 | exact .there sl8 | exact .there sl9 | exact .there sl10 | exact .there sl11 | exact .there sl12) ?_; rfl), (by refine Ok.cellS h (by with_reducible first | exact sl0 | exact .there sl0 | exact .there sl1 | exact .there sl2 | exact .there sl3 | exact .there sl4 | exact .there sl5 | exact .there sl6 | exact .there sl7 | exact .there sl8 | exact .there sl9 | exact .there sl10 | exact .there sl11 | exact .there sl12) ?_; rfl), ?_⟩
    have h := ((h.emb (by repeat' (first | with_reducible exact Emb.same _ | exact Emb.nil _ | refine Emb.cons (by with_reducible first | exact sl0 | exact .there sl0 | exact .there sl1 | exact .there sl2 | exact .there sl3 | exact .there sl4 | exact .there sl5 | exact .there sl6 | exact .there sl7 | exact .there sl8 | exact .there sl9 | exact .there sl10 | exact .there sl11 | exact .there sl12) ?_ | refine Emb.skip ?_))) : Ok e (pts fb [.int .i64 0, .int .i64 0, .int .i64 0, .int .i64 0, .int .i64 0, .int .i64 0, .int .i64 0, .int .i64 0] :: pts k (kC A K) :: pts (A.ub (n - 1).toNat) (unC t u) :: pts t (tcC u) :: H :: kR A K (pts b3 [.int .i64 0, .int .i64 0, .int .i64 0] :: pts b1 [.int .i64 0, .int .i64 0, .int .i64 0, .int .i64 0, .int .i64 0, .int .i64 0, .int .i64 0, .int .i64 0] :: L)) _)
    refine st1.mk h (by simp) fun _ h => st1.mk h (by simp) fun _ h => st1.mk h (by simp) fun _ h => st1.mk h (by simp) fun _ h => st1.mk h (by simp) fun _ h => st1.mk h (by simp) fun _ h => st1.mk h (by simp) fun _ h => st1.mk h (by simp) fun w9 h => ?_
    have h : Ok e (pts fb [.int .i64 u.state, .int .i64 p, .int .i64 q, .int .i64 0, .int .i64 u.kind, .int .i64 u.obj, .int .i64 u.lc, .int .i64 u.lv] :: pts k (kC A K) :: pts (A.ub (n - 1).toNat) (unC t u) :: pts t (tcC u) :: H :: kR A K (pts b3 [.int .i64 0, .int .i64 0, .int .i64 0] :: pts b1 [.int .i64 0, .int .i64 0, .int .i64 0, .int .i64 0, .int .i64 0, .int .i64 0, .int .i64 0, .int .i64 0] :: L)) w9 := h
    refine nn.mk (ldI.mk (h.p1.cell rfl) ?_)
    refine jn.at (t := ()) (fun w' => Ok e (pts fb [.int .i64 (if n = K.who then 1 else u.state), .int .i64 p, .int .i64 q, .int .i64 0, .int .i64 u.kind, .int .i64 u.obj, .int .i64 u.lc, .int .i64 u.lv] :: pts k (kC A K) :: pts (A.ub (n - 1).toNat) (unC t u) :: pts t (tcC u) :: H :: kR A K (pts b3 [.int .i64 0, .int .i64 0, .int .i64 0] :: pts b1 [.int .i64 0, .int .i64 0, .int .i64 0, .int .i64 0, .int .i64 0, .int .i64 0, .int .i64 0, .int .i64 0] :: L)) w') (fun J hJ => cs.mk (fun h2 => ?_) (fun h2 => ?_)) (fun w10 h => ?_)
    · have h2 : n = K.who := by simpa using h2
      rw [if_pos h2] at hJ
      exact st1.mk h (by simp) fun w10 h => hJ w10 h
    · have h2 : ¬ n = K.who := by simpa using h2
      rw [if_neg h2] at hJ
      exact hJ w9 h
    refine dr.mk h fun w11 h => ldI.mk (h.cell rfl) (ldI.mk (h.cell rfl) (ldI.mk (h.cell rfl) (ldI.mk (h.cell rfl) (ldI.mk (h.cell rfl) (ldI.mk (h.cell rfl) (ldI.mk (h.cell rfl) (ldI.mk (h.cell rfl) ?_)))))))
    refine nn.mk (ldP.mk (h.p2.cell rfl) (nn.mk (ldI.mk (h.p3.cell rfl) (ldI.mk (h.p3.cell rfl) (ldI.mk (h.p3.cell rfl) ?_)))))
    have h := ((h.emb (by repeat' (first | with_reducible exact Emb.same _ | exact Emb.nil _ | refine Emb.cons (by with_reducible first | exact sl0 | exact .there sl0 | exact .there sl1 | exact .there sl2 | exact .there sl3 | exact .there sl4 | exact .there sl5 | exact .there sl6 | exact .there sl7 | exact .there sl8 | exact .there sl9 | exact .there sl10 | exact .there sl11 | exact .there sl12) ?_ | refine Emb.skip ?_))) : Ok e (pts b1 [.int .i64 0, .int .i64 0, .int .i64 0, .int .i64 0, .int .i64 0, .int .i64 0, .int .i64 0, .int .i64 0] :: pts b3 [.int .i64 0, .int .i64 0, .int .i64 0] :: pts t (tcC u) :: pts (A.ub (n - 1).toNat) (unC t u) :: pts k (kC A K) :: H :: kR A K L) _)
    refine st1.mk h (by simp) fun _ h => st1.mk h (by simp) fun _ h => st1.mk h (by simp) fun _ h => st1.mk h (by simp) fun _ h => st1.mk h (by simp) fun _ h => st1.mk h (by simp) fun _ h => st1.mk h (by simp) fun _ h => st1.mk h (by simp) fun w12 h => ?_
    refine ⟨⟨h.p2.cell rfl, h.p2.cell rfl, h.p2.cell rfl⟩, h.p3.cell rfl, ?_⟩
    refine st1.mk h.p1 (by simp) fun _ h => st1.mk h (by simp) fun _ h => st1.mk h (by simp) fun w13 h => ?_
    refine ldI.mk (h.p1.cell rfl) (ldI.mk (h.p1.cell rfl) (ldI.mk (h.p1.cell rfl) (ldI.mk (h.p1.cell rfl) (ldI.mk (h.p1.cell rfl) (ldI.mk (h.p1.cell rfl) (ldI.mk (h.p1.cell rfl) (ldI.mk (h.p1.cell rfl) ?_)))))))
    refine ldI.mk (h.cell rfl) (ldI.mk (h.cell rfl) (ldI.mk (h.cell rfl) (kk w13 ?_)))
    have h := back K u e L w13 ho rfl (h.emb (by repeat' (first | with_reducible exact Emb.same _ | exact Emb.nil _ | refine Emb.cons (by with_reducible first | exact sl0 | exact .there sl0 | exact .there sl1 | exact .there sl2 | exact .there sl3 | exact .there sl4 | exact .there sl5 | exact .there sl6 | exact .there sl7 | exact .there sl8 | exact .there sl9 | exact .there sl10 | exact .there sl11 | exact .there sl12) ?_ | refine Emb.skip ?_)))
    rw [setU_same hu] at h
    exact h

end Go.Proofs.YtenonfkfoedfmaaGreatDoor.B


/- Contracts of the package calls; what a call is told. -/
namespace Go.Proofs.YtenonfkfoedfmaaGreatDoor.B
open Go
set_option linter.unusedVariables false

/-! ### the rows of the table -/
abbrev rowC (x : ByteArray × Int × Int) : List Value := [.string x.1, .int .i64 x.2.1, .int .i64 x.2.2]

theorem rowC_len (x : ByteArray × Int × Int) : (rowC x).length = 3 := rfl

theorem rowC_one (x : ByteArray × Int × Int) : ∀ v ∈ rowC x, v.oneCell' = true := by
  intro v hv
  simp only [rowC, List.mem_cons, List.not_mem_nil, or_false] at hv
  rcases hv with rfl | rfl | rfl <;> rfl

def unflat : List Value → List (ByteArray × Int × Int)
  | .string g :: .int _ a :: .int _ k :: r => (g, a, k) :: unflat r
  | _ => []

/-- how many arguments, and of which kind, a call is -/
def akL : List (Int × Int) := [(0, 0), (1, 1), (1, 3), (1, 1), (0, 4), (1, 1), (2, 1), (1, 1), (1, 1), (1, 3), (0, 1), (0, 3), (0, 2), (1, 2), (1, 1), (1, 3), (1, 1), (1, 1), (1, 3), (1, 1), (1, 1), (1, 1), (1, 2),
  (1, 1), (1, 3), (1, 2), (1, 1), (2, 2), (2, 1), (2, 3), (2, 1), (3, 2), (3, 1), (4, 2), (2, 2), (2, 1), (2, 3), (3, 2), (2, 1), (2, 3), (1, 2), (1, 1), (2, 2), (1, 2), (1, 1), (2, 2), (1, 1),
  (1, 2), (1, 1), (2, 2), (2, 1), (1, 1), (0, 1), (1, 1), (1, 1), (2, 1), (1, 1), (0, 4), (0, 4), (0, 1), (0, 1), (0, 0), (0, 0), (0, 0), (0, 0)]

/-- the table is so -/
def tabOk (t : List (ByteArray × Int × Int)) : Bool := (t.map (·.2) == akL) && (t.drop 1).all fun x => decide (0 < x.1.size)

theorem tab_get {t : List (ByteArray × Int × Int)} (h : tabOk t = true) {n : Nat} {a k : Int} (hn : akL[n]? = some (a, k)) (h0 : 0 < n) : ∃ g, t[n]? = some (g, a, k) ∧ 0 < g.size := by
  unfold tabOk at h
  simp only [Bool.and_eq_true, beq_iff_eq, List.all_eq_true, decide_eq_true_eq] at h
  have h1 : (t.map (·.2))[n]? = some (a, k) := by rw [h.1]; exact hn
  rw [List.getElem?_map] at h1
  obtain ⟨⟨g, a', k'⟩, hx, he⟩ := Option.map_eq_some_iff.1 h1
  cases he
  refine ⟨g, hx, h.2 (g, a, k) ?_⟩
  refine List.mem_of_getElem? (i := n - 1) ?_
  rw [List.getElem?_drop, show 1 + (n - 1) = n by omega]
  exact hx

theorem size_ne {g : ByteArray} (h : 0 < g.size) : (!(g.toList == (bs []).toList)) = true := by
  have h1 : g.toList ≠ (bs []).toList := by
    intro e
    have h2 : g.toList.length = (bs []).toList.length := congrArg List.length e
    rw [ByteArray.toList_eq, ByteArray.toList_eq] at h2
    have h3 : g.data.toList.length = g.size := rfl
    have h4 : ((bs []).data.toList).length = 0 := rfl
    omega
  simpa using h1

theorem table_calls {e w L R} (h : Ok e L w) (k : ∀ t s w', tabOk t = true → s.len = 65 → Ok e (slc 3 s (flat rowC t) :: L) w' → R [vS s] w') : sh167 R w := by
  unfold sh167
  refine al.mk h fun b w1 h => ?_
  have conv : ∀ (cs : List Value), Ok e (pts b cs :: L) w1 → cs = flat rowC (unflat cs) → tabOk (unflat cs) = true → R [vS ⟨some ⟨b, 0, none⟩, 65, 65⟩] w1 := by
    intro cs h e1 e2
    refine k (unflat cs) _ w1 e2 rfl ?_
    rw [← e1]
    refine h.slcNew (n := 65) ?_ (by rw [e1]; exact flat_one rowC_one)
    have hl : (unflat cs).length = 65 := by
      unfold tabOk at e2
      simp only [Bool.and_eq_true, beq_iff_eq] at e2
      have := congrArg List.length e2.1
      rw [List.length_map] at this
      rw [this]; rfl
    rw [e1, flat_len rowC_len, hl]
  exact conv _ h (by kernel_rfl) (by kernel_rfl)

theorem of_calls {e w L R} {n : Nat} {a kd : Int} (h : Ok e L w) (hn : akL[n]? = some (a, kd)) (h0 : 0 < n)
    (k : ∀ g w', 0 < g.size → Ok e L w' → R [.agg #[.string g, .int .i64 a, .int .i64 kd]] w') : sh87 (n : Int) R w := by
  unfold sh87
  have hn65 : n < 65 := (List.getElem?_eq_some_iff.1 hn).1
  refine al.mk h fun b w1 h => ?_
  refine call167 (table_calls h fun t s w2 ht hs h => ⟨(s, ()), rfl, ?_⟩)
  obtain ⟨g, hg, hgs⟩ := tab_get ht hn h0
  refine jn.bool false (fun J hJ => cs.no (by simp; omega) ?_) (cs.no rfl ?_)
  · rw [decide_eq_false (by dsimp only; omega)]
    exact hJ
  refine ix_flat rowC_len (by decide) h (by omega) (by have := (List.getElem?_eq_some_iff.1 hg).1; omega) fun b2 o2 x hx _ _ hc => ?_
  rw [Int.toNat_natCast, hg] at hx
  cases hx
  refine ⟨g, hc 0 _ rfl _ ⟨_, h⟩, ldI.mk (hc 1 _ rfl _ ⟨_, h⟩) (ldI.mk (hc 2 _ rfl _ ⟨_, h⟩) ?_)⟩
  refine st1.mk h.p1 (by simp) fun w3 h => st1.mk h (by simp) fun w4 h => st1.mk h (by simp) fun w5 h => ?_
  exact ⟨g, h.cell rfl, ldI.mk (h.cell rfl) (ldI.mk (h.cell rfl) (k g w5 hgs h.drop.drop))⟩

theorem Known_calls {e w L R} {n : Nat} {a kd : Int} (h : Ok e L w) (hn : akL[n]? = some (a, kd)) (h0 : 0 < n) (k : ∀ w', Ok e L w' → R [.bool true] w') : sh76 (n : Int) R w := by
  unfold sh76
  refine call87 (of_calls h hn h0 fun g w1 hg h => ⟨((g, a, kd, ()), ()), rfl, ?_⟩)
  dsimp only
  rw [size_ne hg]
  exact k w1 h

theorem Arity_calls {e w L R} {n : Nat} {a kd : Int} (h : Ok e L w) (hn : akL[n]? = some (a, kd)) (h0 : 0 < n) (k : ∀ w', Ok e L w' → R [.int .i64 a] w') : sh213 (n : Int) R w := by
  unfold sh213
  exact call87 (of_calls h hn h0 fun g w1 hg h => ⟨((g, a, kd, ()), ()), rfl, k w1 h⟩)

theorem Kind_calls {e w L R} {n : Nat} {a kd x0 x1 x2 x3 : Int} (h : Ok e L w) (hn : akL[n]? = some (a, kd)) (h0 : 0 < n) (k : ∀ w', Ok e L w' → R [.int .i64 kd] w') : sh42 ((n : Int), x0, x1, x2, x3, ()) R w := by
  unfold sh42
  refine al.mk h fun b w1 h => ldI.mk (h.cell rfl) ?_
  exact call87 (of_calls h hn h0 fun g w2 hg h => ⟨((g, a, kd, ()), ()), rfl, k w2 h.drop⟩)

theorem slT_i64 : SlT Pg 39 1 := .of (by kernel_rfl)

theorem copy4 (v : Value) (xs : List Int) (hl : xs.length ≤ 4) : ([v, .int .i64 0, .int .i64 0, .int .i64 0, .int .i64 0] : List Value).take (0 + 1) ++ ints xs ++ ([v, .int .i64 0, .int .i64 0, .int .i64 0, .int .i64 0] : List Value).drop (0 + 1 + (ints xs).length) =
    [v, .int .i64 (xs[0]?.getD 0), .int .i64 (xs[1]?.getD 0), .int .i64 (xs[2]?.getD 0), .int .i64 (xs[3]?.getD 0)] := by
  rcases xs with _ | ⟨x0, _ | ⟨x1, _ | ⟨x2, _ | ⟨x3, _ | ⟨x4, r⟩⟩⟩⟩⟩
  · rfl
  · rfl
  · rfl
  · rfl
  · rfl
  · simp at hl

theorem Make_calls {e w L s R} {fn : Int} {xs : List Int} (h : Ok e (slc 1 s (ints xs) :: L) w) (hl : xs.length ≤ 4)
    (k : ∀ w', Ok e L w' → R [.agg #[.int .i64 fn, .int .i64 (xs[0]?.getD 0), .int .i64 (xs[1]?.getD 0), .int .i64 (xs[2]?.getD 0), .int .i64 (xs[3]?.getD 0)]] w') : sh52 fn s R w := by
  unfold sh52
  have hs : xs.length = s.len := by have := h.slc_len; rw [ints_len] at this; omega
  refine al.mk h fun b w1 h => al.mk h fun c w2 h => ?_
  refine st1.mk h (by simp) fun w3 h => st1.mk h (by simp) fun w4 h => st1.mk h (by simp) fun w5 h => st1.mk h (by simp) fun w6 h => st1.mk h (by simp) fun w7 h => ?_
  have h : Ok e (pts c [.int .i64 fn, .int .i64 0, .int .i64 0, .int .i64 0, .int .i64 0] :: pts b [.int .i64 0, .int .i64 0, .int .i64 0, .int .i64 0, .int .i64 0] :: slc 1 s (ints xs) :: L) w7 := h
  refine ef.copy (b := c) (o := 0 + 1) (n := s.len) (us := ints xs) slT_i64 h rfl (by show s.len = Nat.min s.len 4; exact (Nat.min_eq_left (by omega)).symm) (by rw [ints_len, hs]; omega) (fun ha => ?_) (fun a ha => h.p2.slc_cells ha) (ints_one xs) (by rw [ints_len]; simp; omega) fun w8 h => ?_
  · rcases h.p2.slcE.2.2.2 with ⟨_, h0, _⟩ | ⟨b2, post, h0, _⟩
    · have := h.p2.slcE.2.2.1
      exact List.eq_nil_of_length_eq_zero (by rw [ints_len]; omega)
    · rw [h0] at ha; cases ha
  rw [copy4 _ xs hl] at h
  refine ldI.mk (h.cell rfl) (ldI.mk (h.cell rfl) (ldI.mk (h.cell rfl) (ldI.mk (h.cell rfl) (ldI.mk (h.cell rfl) ?_))))
  refine st1.mk h.p1 (by simp) fun w9 h => st1.mk h (by simp) fun w10 h => st1.mk h (by simp) fun w11 h => st1.mk h (by simp) fun w12 h => st1.mk h (by simp) fun w13 h => ?_
  exact ldI.mk (h.cell rfl) (ldI.mk (h.cell rfl) (ldI.mk (h.cell rfl) (ldI.mk (h.cell rfl) (ldI.mk (h.cell rfl) (k w13 h.drop.drop.drop)))))

/-- what a call is told: a code alone -/
theorem say_code {e w L R} {c : Int} {s : Sl} (h : Ok e L w) (hs : s.len = 0) (k : ∀ w', Ok e L w' → R [.agg #[.int .i64 c, .int .i64 0]] w') : sh77 c s R w := by
  unfold sh77
  refine al.mk h fun b w1 h => al.mk h fun d w2 h => st1.mk h (by simp) fun w3 h => st1.mk h (by simp) fun w4 h => ?_
  refine lp.mk (fun t w5 => @Eq Int t.1 0 ∧ Ok e (pts d [.int .i64 c, .int .i64 0] :: pts b [.int .i64 0, .int .i64 0] :: L) w5) (fun _ _ => 0) ⟨rfl, h⟩ ?_
  rintro ⟨(t : Int), _⟩ w5 ⟨(rfl : t = 0), h⟩
  refine cs.no (by rw [hs]; rfl) (cs.mk (fun h1 => ?_) (fun h1 => ?_))
  · refine st1.mk h (by simp) fun w6 h => ldI.mk (h.cell rfl) (ldI.mk (h.cell rfl) (st1.mk h.p1 (by simp) fun w7 h => st1.mk h (by simp) fun w8 h => ?_))
    exact ldI.mk (h.cell rfl) (ldI.mk (h.cell rfl) (k w8 h.drop.drop))
  · refine ldI.mk (h.cell rfl) (ldI.mk (h.cell rfl) (st1.mk h.p1 (by simp) fun w7 h => st1.mk h (by simp) fun w8 h => ?_))
    exact ldI.mk (h.cell rfl) (ldI.mk (h.cell rfl) (k w8 h.drop.drop))

end Go.Proofs.YtenonfkfoedfmaaGreatDoor.B

