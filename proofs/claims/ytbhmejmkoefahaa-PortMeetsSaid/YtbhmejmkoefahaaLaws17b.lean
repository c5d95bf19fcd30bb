/- Laws of layer 17: who meets whom. -/
import Derived.Test.YtbhmejmkoefahaaLaws17
namespace Go.Proofs.Ytbhmejmkoefahaa.B
open Go
set_option linter.unusedVariables false

/-- callers, one behind the other -/
def cmL (i : Nat) : List (Int × Int) := (List.range i).map fun j => (((j + 1 : Nat) : Int), (1 : Int))

theorem cmL_ids {i : Nat} {t : Int} : t ∈ ids (cmL i) ↔ 1 ≤ t ∧ t ≤ i := by
  simp only [ids, cmL, List.map_map, List.mem_map, List.mem_range, Function.comp]
  constructor
  · rintro ⟨j, hj, rfl⟩; omega
  · rintro ⟨h1, h2⟩; exact ⟨t.toNat - 1, by omega, by omega⟩

theorem cmL_len {i : Nat} : (cmL i).length = i := by simp [cmL]

theorem cmL_get {i j : Nat} (h : j < i) : (cmL i)[j]? = some (((j + 1 : Nat) : Int), 1) := by simp [cmL, h]

theorem cmL_put {i : Nat} : putL false (cmL i) (((i + 1 : Nat) : Int), 1) = cmL (i + 1) := by
  unfold putL putK
  simp only [Bool.false_eq_true, if_false]
  rw [List.take_length, List.drop_length, List.append_nil]
  simp [cmL, List.range_succ]

theorem cmL_ok {i : Nat} (h : i ≤ 16) : okL (cmL i) := by
  refine ⟨?_, fun t ht => by have := cmL_ids.1 ht; omega⟩
  simp only [ids, cmL, List.map_map]
  refine List.pairwise_map.2 (List.nodup_range.imp fun {a b} hab => ?_)
  simp only [Function.comp]
  omega

theorem call_m {i : Nat} {g : Int → Int} {s : Int → List UInt8} {bits : Int} {l : List UInt8} (hi : i < 16) (hb : bits ≠ 0) (hl : l.length ≤ 8) :
    (⟨cmL i, [], g, s, [], 0⟩ : PP).call false 8 ((i + 1 : Nat) : Int) 1 bits l = ((0, 0, [], false, 0), ⟨cmL (i + 1), [], updI g ((i + 1 : Nat) : Int) bits, updI s ((i + 1 : Nat) : Int) l, [], 0⟩) := by
  have hg : goodT ((i + 1 : Nat) : Int) 1 := by unfold goodT; omega
  have hn : ((i + 1 : Nat) : Int) ∉ ids (cmL i) := fun h => by have := cmL_ids.1 h; omega
  have hin : (⟨cmL i, [], g, s, [], 0⟩ : PP).inP ((i + 1 : Nat) : Int) = false := by
    unfold PP.inP
    rw [decide_eq_false (fun h => hn (atI_pos.1 h)), decide_eq_false (fun h => by have := atI_pos.1 h; simp at this), show idxL (fun x => x.2.1 == ((i + 1 : Nat) : Int)) [] = -1 from rfl]
    rfl
  unfold PP.call
  rw [if_neg (by
    intro h
    rcases h with h | h | h
    · exact hb h
    · omega
    · exact h hg), if_neg (by rw [hin]; decide)]
  dsimp only [meetL, List.find?_nil]
  rw [addL_good hg hn]
  dsimp only
  rw [cmL_put]

theorem and_bytes (x y : UInt8) : (bAnd .u32 (x.toNat : Int) (y.toNat : Int) != 0) = (bAnd .u8 (x.toNat : Int) (y.toNat : Int) != 0) := by
  have hx := x.toNat_lt
  have hy := y.toNat_lt
  have h1 : bAnd .u32 (x.toNat : Int) (y.toNat : Int) = ((x.toNat &&& y.toNat : Nat) : Int) := by
    have e1 : (BitVec.ofInt IntKind.u32.bits (x.toNat : Int)).toNat = x.toNat := by simp only [IntKind.bits, BitVec.toNat_ofInt]; omega
    have e2 : (BitVec.ofInt IntKind.u32.bits (y.toNat : Int)).toNat = y.toNat := by simp only [IntKind.bits, BitVec.toNat_ofInt]; omega
    have hle : x.toNat &&& y.toNat ≤ x.toNat := Nat.and_le_left
    unfold bAnd
    rw [BitVec.toNat_and, e1, e2]
    exact IntWalk.u32_in _ ⟨by omega, by omega⟩
  have h2 : bAnd .u8 (x.toNat : Int) (y.toNat : Int) = ((x.toNat &&& y.toNat : Nat) : Int) := by
    have e1 : (BitVec.ofInt IntKind.u8.bits (x.toNat : Int)).toNat = x.toNat := by simp only [IntKind.bits, BitVec.toNat_ofInt]; omega
    have e2 : (BitVec.ofInt IntKind.u8.bits (y.toNat : Int)).toNat = y.toNat := by simp only [IntKind.bits, BitVec.toNat_ofInt]; omega
    have hle : x.toNat &&& y.toNat ≤ x.toNat := Nat.and_le_left
    unfold bAnd
    rw [BitVec.toNat_and, e1, e2]
    exact IntWalk.u8_in _ ⟨by omega, by omega⟩
  rw [h1, h2]

/-- what the first one that fits is, of those that were looked at -/
def firstM (l : List UInt8) (y : UInt8) (i : Nat) (f : Int) : Prop :=
  (f = 0 ∧ ∀ j, j < i → ∀ x, l[j]? = some x → (bAnd .u8 (x.toNat : Int) (y.toNat : Int) != 0) = false) ∨
  ∃ j x, j < i ∧ f = ((j + 1 : Nat) : Int) ∧ l[j]? = some x ∧ (bAnd .u8 (x.toNat : Int) (y.toNat : Int) != 0) = true ∧ ∀ m, m < j → ∀ x, l[m]? = some x → (bAnd .u8 (x.toNat : Int) (y.toNat : Int) != 0) = false

theorem firstM_step {l : List UInt8} {x y : UInt8} {i : Nat} {f : Int} (h : firstM l y i f) (hx : l[i]? = some x) :
    firstM l y (i + 1) (if (f == 0 && (bAnd .u8 (x.toNat : Int) (y.toNat : Int) != 0)) = true then ((i + 1 : Nat) : Int) else f) := by
  rcases h with ⟨rfl, h⟩ | ⟨j, z, hj, rfl, hz, hm, hb⟩
  · by_cases hm : (bAnd .u8 (x.toNat : Int) (y.toNat : Int) != 0) = true
    · rw [if_pos (by simp [hm])]
      exact .inr ⟨i, x, Nat.lt_succ_self _, rfl, hx, hm, h⟩
    · rw [if_neg (by simp only [beq_self_eq_true, Bool.true_and]; exact hm)]
      refine .inl ⟨rfl, fun j hj z hz => ?_⟩
      rcases Nat.lt_or_ge j i with h1 | h1
      · exact h j h1 z hz
      · have : j = i := by omega
        subst this
        rw [hx] at hz
        cases hz
        simpa using hm
  · rw [if_neg (by
      have : (((j + 1 : Nat) : Int) == 0) = false := by rw [beq_eq_false_iff_ne]; omega
      rw [this]; simp)]
    exact .inr ⟨j, z, by omega, rfl, hz, hm, hb⟩

set_option maxHeartbeats 4000000 in
theorem PortMeets_walk {e : World} {a0 : Sl} {a1 : Int} {xs : List Int} (ha : ArgI .u8 e a0 xs) (hw1 : (Lit.int .u8 a1).wf = true) : sh5 a0 a1 (LawEnd e) e := by
  unfold sh5
  obtain ⟨l, rfl, r⟩ := argI_b ha
  obtain ⟨y, rfl⟩ : ∃ c : UInt8, a1 = (c.toNat : Int) := by
    have := wf_u8 hw1
    refine ⟨UInt8.ofNat a1.toNat, ?_⟩
    rw [UInt8.toNat_ofNat']; omega
  have hl := r.len
  refine call7 (known_17 (Ok.start e) fun w1 h => ⟨(true, ()), enc_b rfl, ?_⟩)
  refine cs.no rfl ?_
  refine jn.g (a0.len ≤ 15 ∧ (y.toNat : Int) ≠ 0) (fun J hJ => cs.mk (fun h1 => hJ true (fun h => by cases h)) (fun h1 => hJ _ fun h2 => ?_)) fun c1 hc1 => ?_
  · have := of_decide_eq_false h1
    have h2 : (y.toNat : Int) ≠ 0 := by simpa using h2
    exact ⟨by omega, h2⟩
  refine cs.mk (fun _ => ⟨rfl, h⟩) (fun h1 => ?_)
  obtain ⟨g1, g2⟩ := hc1 h1
  clear hc1 h1
  have wy : IntKind.u32.wrap (y.toNat : Int) = (y.toNat : Int) := IntWalk.u32_in _ ⟨by omega, by have := y.toNat_lt; omega⟩
  refine call8 (New_por h (fun h0 => absurd (by decide) h0) fun _ b w2 h => ⟨(some ⟨b, 0, none⟩, (0 : Int), ()), rfl, ?_⟩)
  let gs : Nat → PP → Prop := fun i q => ∃ g s, q = ⟨cmL i, [], g, s, [], 0⟩ ∧ ∀ j x, j < i → l[j]? = some x → g ((j + 1 : Nat) : Int) = (x.toNat : Int) ∧ s ((j + 1 : Nat) : Int) = [x]
  let I : TK [kI, kI] → World → Prop := fun t w' => ∃ (i : Nat) (q : PP), t.2.1 = (i : Int) ∧ i ≤ a0.len ∧ firstM l y i t.1 ∧ gs i q ∧ Ok e [portP b false 8 q, old e] w'
  refine lp.mk I (fun t _ => a0.len - t.2.1.toNat) ⟨0, pp0, rfl, Nat.zero_le _, .inl ⟨rfl, fun j hj => absurd hj (Nat.not_lt_zero _)⟩, ⟨_, _, rfl, fun j x hj => absurd hj (Nat.not_lt_zero _)⟩, h⟩ ?_
  clear h
  rintro ⟨(f : Int), (i' : Int), _⟩ w3 ⟨i, q, hi, hi1, hf, ⟨g, s, rfl, hgs⟩, h⟩
  dsimp only at hi hf
  subst hi
  have o0 : PPo 0 (⟨cmL i, [], g, s, [], 0⟩ : PP) := pps_ok (cmL_ok (by omega)) (fun j hj => by
    have hj := cmL_ids.1 hj
    obtain ⟨x, hx⟩ : ∃ x, l[j.toNat - 1]? = some x := ⟨_, List.getElem?_eq_getElem (by omega)⟩
    have := (hgs (j.toNat - 1) x (by omega) hx).2
    rw [show ((j.toNat - 1 + 1 : Nat) : Int) = j by omega] at this
    rw [this]; simp) (Nat.le_refl _) ⟨Int.le_refl _, Int.le_refl _⟩
  refine cs.mk (fun hlt => ?_) (fun hge => ?_)
  · have hlt : i < a0.len := by have := of_decide_eq_true hlt; dsimp only at this; omega
    obtain ⟨x, hx⟩ : ∃ x, l[i]? = some x := ⟨_, List.getElem?_eq_getElem (by omega)⟩
    have hx8 := x.toNat_lt
    have ixo : ∀ {w' : World} {L' : List SP} {F : Int → Prop}, Ok e (old e :: L') w' → F (x.toNat : Int) → ix a0 (i : Int) 1 fun b o => ldI w' .u8 b o F := fun h hF =>
      ix_rdb r (Int.natCast_nonneg _) (by omega) fun b1 o1 y' hy' hcell => ldI.mk (hcell _ _ h) (by
        rw [Int.toNat_natCast, hx] at hy'
        cases hy'
        exact hF)
    refine ixo (Ok.emb (h) (.cons (A := old e) (by with_reducible first | exact sl0 | exact .there sl0 | exact .there sl1 | exact .there sl2 | exact .there sl3 | exact .there sl4 | exact .there sl5 | exact .there sl6 | exact .there sl7 | exact .there sl8 | exact .there sl9 | exact .there sl10 | exact .there sl11 | exact .there sl12) (.same _))) ?_
    refine cs.mk (fun _ => ⟨rfl, (h.emb (by repeat' (first | with_reducible exact Emb.same _ | exact Emb.nil _ | refine Emb.cons (by with_reducible first | exact sl0 | exact .there sl0 | exact .there sl1 | exact .there sl2 | exact .there sl3 | exact .there sl4 | exact .there sl5 | exact .there sl6 | exact .there sl7 | exact .there sl8 | exact .there sl9 | exact .there sl10 | exact .there sl11 | exact .there sl12) ?_ | refine Emb.skip ?_)))⟩) (fun hnz => ?_)
    have hnz : (x.toNat : Int) ≠ 0 := by simpa using hnz
    refine dr.mk h fun w4 h => ?_
    refine ix_rdb r (Int.natCast_nonneg _) (by dsimp only; omega) fun b1 o1 y1 hy1 hc1 => ldI.mk (hc1 _ _ (Ok.emb (h) (.cons (A := old e) (by with_reducible first | exact sl0 | exact .there sl0 | exact .there sl1 | exact .there sl2 | exact .there sl3 | exact .there sl4 | exact .there sl5 | exact .there sl6 | exact .there sl7 | exact .there sl8 | exact .there sl9 | exact .there sl10 | exact .there sl11 | exact .there sl12) (.same _)))) ?_
    dsimp only at hy1
    rw [Int.toNat_natCast, hx] at hy1
    cases hy1
    refine ix_rdb r (Int.natCast_nonneg _) (by dsimp only; omega) fun b2 o2 y2 hy2 hc2 => ldI.mk (hc2 _ _ (Ok.emb (h) (.cons (A := old e) (by with_reducible first | exact sl0 | exact .there sl0 | exact .there sl1 | exact .there sl2 | exact .there sl3 | exact .there sl4 | exact .there sl5 | exact .there sl6 | exact .there sl7 | exact .there sl8 | exact .there sl9 | exact .there sl10 | exact .there sl11 | exact .there sl12) (.same _)))) ?_
    dsimp only at hy2
    rw [Int.toNat_natCast, hx] at hy2
    cases hy2
    have wx : IntKind.u32.wrap (x.toNat : Int) = (x.toNat : Int) := IntWalk.u32_in _ ⟨by omega, by omega⟩
    have hw : w64 ((i : Int) + 1) = ((i + 1 : Nat) : Int) := by rw [w64_in (by omega) (by omega)]; rfl
    dsimp only
    rw [wx, hw]
    have hcall := call_m (i := i) (g := g) (s := s) (bits := (x.toNat : Int)) (l := [x]) (by omega) hnz (by simp)
    have J10 : ∀ (f' : Int) (w' : World), f' = (if (f == 0 && (bAnd .u8 (x.toNat : Int) (y.toNat : Int) != 0)) = true then ((i + 1 : Nat) : Int) else f) → Ok e [portP b false 8 ⟨cmL (i + 1), [], updI g ((i + 1 : Nat) : Int) (x.toNat : Int), updI s ((i + 1 : Nat) : Int) [x], [], 0⟩, old e] w' →
        I (f', ((i + 1 : Nat) : Int), ()) w' ∧ a0.len - Int.toNat ((i + 1 : Nat) : Int) < a0.len - Int.toNat (i : Int) := fun f' w' hf' h => by
      refine ⟨⟨i + 1, _, rfl, hlt, ?_, ⟨_, _, rfl, fun j z hj hz => ?_⟩, h⟩, by omega⟩
      · dsimp only; rw [hf']; exact firstM_step hf hx
      · rcases Nat.lt_or_ge j i with h1 | h1
        · have hne : ((j + 1 : Nat) : Int) ≠ ((i + 1 : Nat) : Int) := by omega
          rw [updI_other hne, updI_other hne]
          exact hgs j z h1 hz
        · have : j = i := by omega
          subst this
          rw [hx] at hz
          cases hz
          rw [updI_same, updI_same]
          exact ⟨rfl, rfl⟩
    have tail : ∀ {w' : World} {J : TK [kI, kI] → World → Prop}, Ok e [portP b false 8 ⟨cmL (i + 1), [], updI g ((i + 1 : Nat) : Int) (x.toNat : Int), updI s ((i + 1 : Nat) : Int) [x], [], 0⟩, old e] w' →
        (∀ f' w', f' = (if (f == 0 && (bAnd .u8 (x.toNat : Int) (y.toNat : Int) != 0)) = true then ((i + 1 : Nat) : Int) else f) → Ok e [portP b false 8 ⟨cmL (i + 1), [], updI g ((i + 1 : Nat) : Int) (x.toNat : Int), updI s ((i + 1 : Nat) : Int) [x], [], 0⟩, old e] w' → J (f', ((i + 1 : Nat) : Int), ()) w') →
        jn [kB] w' (fun (t38 : Bool × Unit) w39 => cs t38.1 (J (((i + 1 : Nat) : Int), ((i + 1 : Nat) : Int), ()) w39) (J (f, ((i + 1 : Nat) : Int), ()) w39)) fun J37 w40 =>
          cs ((f : Int) == (0 : Int)) (ix a0 (i : Int) 1 fun b41 o42 => ldI w40 .u8 b41 o42 fun n43 => J37 ((bAnd .u8 n43 (y.toNat : Int) : Int) != (0 : Int), ()) w40) (J37 (false, ()) w40) := fun {w' J} h hJ => by
      refine jn.bool (f == 0 && (bAnd .u8 (x.toNat : Int) (y.toNat : Int) != 0)) (fun J1 hJ1 => cs.mk (fun h1 => ?_) (fun h1 => ?_)) ?_
      · rw [h1, Bool.true_and] at hJ1
        exact ixo (Ok.emb (h) (.cons (A := old e) (by with_reducible first | exact sl0 | exact .there sl0 | exact .there sl1 | exact .there sl2 | exact .there sl3 | exact .there sl4 | exact .there sl5 | exact .there sl6 | exact .there sl7 | exact .there sl8 | exact .there sl9 | exact .there sl10 | exact .there sl11 | exact .there sl12) (.same _))) hJ1
      · rw [h1, Bool.false_and] at hJ1
        exact hJ1
      · refine cs.mk (fun h1 => hJ _ _ (by rw [if_pos h1]) h) (fun h1 => hJ _ _ (by rw [if_neg (fun h2 => by dsimp only at h1; rw [h1] at h2; cases h2)]) h)
    have cl1 : ∀ {w' : World} {b' : Nat} {L' : List SP} {K : TK [.a [(.i .i64), (.i .i64), .s, .b], kI] → World → Prop}, Ok e (pts b' [.int .u8 (x.toNat : Int)] :: portP b false 8 ⟨cmL i, [], g, s, [], 0⟩ :: L') w' →
        (∀ y' w'', Ok e (portP b false 8 ⟨cmL (i + 1), [], updI g ((i + 1 : Nat) : Int) (x.toNat : Int), updI s ((i + 1 : Nat) : Int) [x], [], 0⟩ :: L') w'' → K (((0 : Int), (0 : Int), y', false, ()), (0 : Int), ()) w'') →
        cl Pg 9 [.pointer (some ⟨b, 0, none⟩), .int .i64 ((i + 1 : Nat) : Int), .int .i64 1, .int .u32 (x.toNat : Int), vS ⟨some ⟨b', 0, none⟩, 1, 1⟩] [.a [(.i .i64), (.i .i64), .s, .b], kI] w' K := fun {w' b' L' K} h hK => by
      have h : Ok e (pts b' (by8 [x]) :: portP b false 8 ⟨cmL i, [], g, s, [], 0⟩ :: L') w' := h
      have h := (slc_new8 (n := 1) h rfl).p1
      refine call9 (Call_por h (rdb_rd h.p1) o0 (by decide) (by decide) fun y' w5 h => ⟨(((0 : Int), (0 : Int), y', false, ()), (0 : Int), ()), by rw [hcall]; rfl, ?_⟩)
      rw [hcall] at h
      exact hK y' _ h.drop.p1.drop
    refine ⟨?_, ?_⟩
    · refine al.mk h fun b3 w5 h => ⟨hc1 _ _ (Ok.emb (h) (.cons (A := old e) (by with_reducible first | exact sl0 | exact .there sl0 | exact .there sl1 | exact .there sl2 | exact .there sl3 | exact .there sl4 | exact .there sl5 | exact .there sl6 | exact .there sl7 | exact .there sl8 | exact .there sl9 | exact .there sl10 | exact .there sl11 | exact .there sl12) (.same _))), ?_, ?_⟩
      · refine cl1 h fun y' w6 h => ?_
        refine al.mk h fun b4 w7 h => ⟨hc2 _ _ (Ok.emb (h) (.cons (A := old e) (by with_reducible first | exact sl0 | exact .there sl0 | exact .there sl1 | exact .there sl2 | exact .there sl3 | exact .there sl4 | exact .there sl5 | exact .there sl6 | exact .there sl7 | exact .there sl8 | exact .there sl9 | exact .there sl10 | exact .there sl11 | exact .there sl12) (.same _))), hc1 _ _ (Ok.emb (h) (.cons (A := old e) (by with_reducible first | exact sl0 | exact .there sl0 | exact .there sl1 | exact .there sl2 | exact .there sl3 | exact .there sl4 | exact .there sl5 | exact .there sl6 | exact .there sl7 | exact .there sl8 | exact .there sl9 | exact .there sl10 | exact .there sl11 | exact .there sl12) (.same _))), ?_⟩
        (repeat (first | with_reducible refine dr.mk h fun _ h => ?_ | with_reducible refine nn.mk ?_ | ((first | with_reducible apply ldI.mk | with_reducible apply ldB.mk | with_reducible apply ldP.mk | with_reducible apply ldS.mk | with_reducible apply ldM.mk | with_reducible apply ldF.mk | with_reducible apply ldG.mk); (· exact (by refine Ok.cellS h (by with_reducible first | exact sl0 | exact .there sl0 | exact .there sl1 | exact .there sl2 | exact .there sl3 | exact .there sl4 | exact .there sl5 | exact .there sl6 | exact .there sl7 | exact .there sl8 | exact .there sl9 | exact .there sl10 | exact .there sl11 | exact .there sl12) ?_; rfl))) | (refine st1.mk (Ok.bring h (by with_reducible first | exact sl0 | exact .there sl0 | exact .there sl1 | exact .there sl2 | exact .there sl3 | exact .there sl4 | exact .there sl5 | exact .there sl6 | exact .there sl7 | exact .there sl8 | exact .there sl9 | exact .there sl10 | exact .there sl11 | exact .there sl12)) (by simp) fun _ h => ?_; dsimp only [List.set] at h)))
        refine jn.bool false (fun J hJ => cs.no rfl hJ) ?_
        refine cs.no rfl ?_
        exact tail (J := fun t' w' => I t' w' ∧ a0.len - t'.2.1.toNat < a0.len - Int.toNat (i : Int)) (h.emb (by repeat' (first | with_reducible exact Emb.same _ | exact Emb.nil _ | refine Emb.cons (by with_reducible first | exact sl0 | exact .there sl0 | exact .there sl1 | exact .there sl2 | exact .there sl3 | exact .there sl4 | exact .there sl5 | exact .there sl6 | exact .there sl7 | exact .there sl8 | exact .there sl9 | exact .there sl10 | exact .there sl11 | exact .there sl12) ?_ | refine Emb.skip ?_))) J10
      · refine al.mk h fun b4 w6 h => ⟨hc2 _ _ (Ok.emb (h) (.cons (A := old e) (by with_reducible first | exact sl0 | exact .there sl0 | exact .there sl1 | exact .there sl2 | exact .there sl3 | exact .there sl4 | exact .there sl5 | exact .there sl6 | exact .there sl7 | exact .there sl8 | exact .there sl9 | exact .there sl10 | exact .there sl11 | exact .there sl12) (.same _))), hc1 _ _ (Ok.emb (h) (.cons (A := old e) (by with_reducible first | exact sl0 | exact .there sl0 | exact .there sl1 | exact .there sl2 | exact .there sl3 | exact .there sl4 | exact .there sl5 | exact .there sl6 | exact .there sl7 | exact .there sl8 | exact .there sl9 | exact .there sl10 | exact .there sl11 | exact .there sl12) (.same _))), ?_⟩
        have h := (Ok.emb (h) (.cons (A := pts b3 _) (by with_reducible first | exact sl0 | exact .there sl0 | exact .there sl1 | exact .there sl2 | exact .there sl3 | exact .there sl4 | exact .there sl5 | exact .there sl6 | exact .there sl7 | exact .there sl8 | exact .there sl9 | exact .there sl10 | exact .there sl11 | exact .there sl12) (.cons (A := portP b _ _ _) (by with_reducible first | exact sl0 | exact .there sl0 | exact .there sl1 | exact .there sl2 | exact .there sl3 | exact .there sl4 | exact .there sl5 | exact .there sl6 | exact .there sl7 | exact .there sl8 | exact .there sl9 | exact .there sl10 | exact .there sl11 | exact .there sl12) (.same _))))
        refine cl1 h fun y' w7 h => ?_
        have h := (Ok.emb (h) (.cons (A := pts b4 _) (by with_reducible first | exact sl0 | exact .there sl0 | exact .there sl1 | exact .there sl2 | exact .there sl3 | exact .there sl4 | exact .there sl5 | exact .there sl6 | exact .there sl7 | exact .there sl8 | exact .there sl9 | exact .there sl10 | exact .there sl11 | exact .there sl12) (.same _)))
        (repeat (first | with_reducible refine dr.mk h fun _ h => ?_ | with_reducible refine nn.mk ?_ | ((first | with_reducible apply ldI.mk | with_reducible apply ldB.mk | with_reducible apply ldP.mk | with_reducible apply ldS.mk | with_reducible apply ldM.mk | with_reducible apply ldF.mk | with_reducible apply ldG.mk); (· exact (by refine Ok.cellS h (by with_reducible first | exact sl0 | exact .there sl0 | exact .there sl1 | exact .there sl2 | exact .there sl3 | exact .there sl4 | exact .there sl5 | exact .there sl6 | exact .there sl7 | exact .there sl8 | exact .there sl9 | exact .there sl10 | exact .there sl11 | exact .there sl12) ?_; rfl))) | (refine st1.mk (Ok.bring h (by with_reducible first | exact sl0 | exact .there sl0 | exact .there sl1 | exact .there sl2 | exact .there sl3 | exact .there sl4 | exact .there sl5 | exact .there sl6 | exact .there sl7 | exact .there sl8 | exact .there sl9 | exact .there sl10 | exact .there sl11 | exact .there sl12)) (by simp) fun _ h => ?_; dsimp only [List.set] at h)))
        refine jn.bool false (fun J hJ => cs.no rfl hJ) ?_
        refine cs.no rfl ?_
        exact tail (J := fun t' w' => I t' w' ∧ a0.len - t'.2.1.toNat < a0.len - Int.toNat (i : Int)) (h.emb (by repeat' (first | with_reducible exact Emb.same _ | exact Emb.nil _ | refine Emb.cons (by with_reducible first | exact sl0 | exact .there sl0 | exact .there sl1 | exact .there sl2 | exact .there sl3 | exact .there sl4 | exact .there sl5 | exact .there sl6 | exact .there sl7 | exact .there sl8 | exact .there sl9 | exact .there sl10 | exact .there sl11 | exact .there sl12) ?_ | refine Emb.skip ?_))) J10
    · refine al.mk h fun b4 w5 h => ⟨hc2 _ _ (Ok.emb (h) (.cons (A := old e) (by with_reducible first | exact sl0 | exact .there sl0 | exact .there sl1 | exact .there sl2 | exact .there sl3 | exact .there sl4 | exact .there sl5 | exact .there sl6 | exact .there sl7 | exact .there sl8 | exact .there sl9 | exact .there sl10 | exact .there sl11 | exact .there sl12) (.same _))), hc1 _ _ (Ok.emb (h) (.cons (A := old e) (by with_reducible first | exact sl0 | exact .there sl0 | exact .there sl1 | exact .there sl2 | exact .there sl3 | exact .there sl4 | exact .there sl5 | exact .there sl6 | exact .there sl7 | exact .there sl8 | exact .there sl9 | exact .there sl10 | exact .there sl11 | exact .there sl12) (.same _))), ?_⟩
      refine al.mk h fun b3 w6 h => ⟨hc1 _ _ (Ok.emb (h) (.cons (A := old e) (by with_reducible first | exact sl0 | exact .there sl0 | exact .there sl1 | exact .there sl2 | exact .there sl3 | exact .there sl4 | exact .there sl5 | exact .there sl6 | exact .there sl7 | exact .there sl8 | exact .there sl9 | exact .there sl10 | exact .there sl11 | exact .there sl12) (.same _))), ?_⟩
      have h := (Ok.emb (h) (.cons (A := pts b3 _) (by with_reducible first | exact sl0 | exact .there sl0 | exact .there sl1 | exact .there sl2 | exact .there sl3 | exact .there sl4 | exact .there sl5 | exact .there sl6 | exact .there sl7 | exact .there sl8 | exact .there sl9 | exact .there sl10 | exact .there sl11 | exact .there sl12) (.cons (A := portP b _ _ _) (by with_reducible first | exact sl0 | exact .there sl0 | exact .there sl1 | exact .there sl2 | exact .there sl3 | exact .there sl4 | exact .there sl5 | exact .there sl6 | exact .there sl7 | exact .there sl8 | exact .there sl9 | exact .there sl10 | exact .there sl11 | exact .there sl12) (.same _))))
      refine cl1 h fun y' w7 h => ?_
      have h := (Ok.emb (h) (.cons (A := pts b4 _) (by with_reducible first | exact sl0 | exact .there sl0 | exact .there sl1 | exact .there sl2 | exact .there sl3 | exact .there sl4 | exact .there sl5 | exact .there sl6 | exact .there sl7 | exact .there sl8 | exact .there sl9 | exact .there sl10 | exact .there sl11 | exact .there sl12) (.same _)))
      (repeat (first | with_reducible refine dr.mk h fun _ h => ?_ | with_reducible refine nn.mk ?_ | ((first | with_reducible apply ldI.mk | with_reducible apply ldB.mk | with_reducible apply ldP.mk | with_reducible apply ldS.mk | with_reducible apply ldM.mk | with_reducible apply ldF.mk | with_reducible apply ldG.mk); (· exact (by refine Ok.cellS h (by with_reducible first | exact sl0 | exact .there sl0 | exact .there sl1 | exact .there sl2 | exact .there sl3 | exact .there sl4 | exact .there sl5 | exact .there sl6 | exact .there sl7 | exact .there sl8 | exact .there sl9 | exact .there sl10 | exact .there sl11 | exact .there sl12) ?_; rfl))) | (refine st1.mk (Ok.bring h (by with_reducible first | exact sl0 | exact .there sl0 | exact .there sl1 | exact .there sl2 | exact .there sl3 | exact .there sl4 | exact .there sl5 | exact .there sl6 | exact .there sl7 | exact .there sl8 | exact .there sl9 | exact .there sl10 | exact .there sl11 | exact .there sl12)) (by simp) fun _ h => ?_; dsimp only [List.set] at h)))
      refine jn.bool false (fun J hJ => cs.no rfl hJ) ?_
      refine cs.no rfl ?_
      exact tail (J := fun t' w' => I t' w' ∧ a0.len - t'.2.1.toNat < a0.len - Int.toNat (i : Int)) (h.emb (by repeat' (first | with_reducible exact Emb.same _ | exact Emb.nil _ | refine Emb.cons (by with_reducible first | exact sl0 | exact .there sl0 | exact .there sl1 | exact .there sl2 | exact .there sl3 | exact .there sl4 | exact .there sl5 | exact .there sl6 | exact .there sl7 | exact .there sl8 | exact .there sl9 | exact .there sl10 | exact .there sl11 | exact .there sl12) ?_ | refine Emb.skip ?_))) J10
  · have hge : ¬ i < a0.len := by have := of_decide_eq_false hge; dsimp only at this; omega
    have hin : i = a0.len := by omega
    dsimp only
    rw [wy]
    have hgood : goodT 16 1 := by unfold goodT; decide
    have hni : (16 : Int) ∉ ids (cmL i) := fun h => by have := cmL_ids.1 h; omega
    have hinP : (⟨cmL i, [], g, s, [], 0⟩ : PP).inP 16 = false := by
      unfold PP.inP
      rw [decide_eq_false (fun h => hni (atI_pos.1 h)), decide_eq_false (fun h => by have := atI_pos.1 h; simp at this), show idxL (fun x => x.2.1 == 16) [] = -1 from rfl]
      rfl
    have hget : ∀ (j : Nat) z, (cmL i)[j]? = some z → ∃ x, l[j]? = some x ∧ z.1 = ((j + 1 : Nat) : Int) ∧ z.2 = 1 ∧ g z.1 = (x.toNat : Int) ∧ s z.1 = [x] := fun j z hz => by
      have hlt := (List.getElem?_eq_some_iff.1 hz).1
      rw [cmL_len] at hlt
      rw [cmL_get hlt] at hz
      cases hz
      obtain ⟨x, hx⟩ : ∃ x, l[j]? = some x := ⟨_, List.getElem?_eq_getElem (by omega)⟩
      obtain ⟨h1, h2⟩ := hgs j x hlt hx
      exact ⟨x, hx, rfl, rfl, h1, h2⟩
    rcases hf with ⟨rfl, hno⟩ | ⟨j, x, hj, rfl, hx, hm, hb⟩
    · have hme : meetL g (y.toNat : Int) (cmL i) = none := meetL_none fun j z hz => by
        obtain ⟨x, hx, h1, h2, h3, h4⟩ := hget j z hz
        rw [h3, and_bytes]
        exact hno j (by have := (List.getElem?_eq_some_iff.1 hx).1; omega) x hx
      have hacc : (⟨cmL i, [], g, s, [], 0⟩ : PP).accept 16 1 (y.toNat : Int) = ((0, 0, [], false, 0), ⟨cmL i, [(16, 1)], updI g 16 (y.toNat : Int), s, [], 0⟩) := by
        unfold PP.accept
        rw [if_neg (fun h => h.elim g2 (fun h => h hgood)), if_neg (by rw [hinP]; decide)]
        dsimp only
        rw [hme, addL_good hgood (by simp)]
        rfl
      have o1 := accept_ok (t := 16) (pri := 1) (bits := (y.toNat : Int)) o0
      refine call10 (Accept_por h o0 (by decide) fun y2 w4 h => ⟨(((0 : Int), (0 : Int), y2, false, ()), (0 : Int), ()), by rw [hacc]; rfl, ?_⟩)
      rw [hacc] at h o1
      refine al.mk h fun b2 w5 h => ?_
      (repeat (first | with_reducible refine dr.mk h fun _ h => ?_ | with_reducible refine nn.mk ?_ | ((first | with_reducible apply ldI.mk | with_reducible apply ldB.mk | with_reducible apply ldP.mk | with_reducible apply ldS.mk | with_reducible apply ldM.mk | with_reducible apply ldF.mk | with_reducible apply ldG.mk); (· exact (by refine Ok.cellS h (by with_reducible first | exact sl0 | exact .there sl0 | exact .there sl1 | exact .there sl2 | exact .there sl3 | exact .there sl4 | exact .there sl5 | exact .there sl6 | exact .there sl7 | exact .there sl8 | exact .there sl9 | exact .there sl10 | exact .there sl11 | exact .there sl12) ?_; rfl))) | (refine st1.mk (Ok.bring h (by with_reducible first | exact sl0 | exact .there sl0 | exact .there sl1 | exact .there sl2 | exact .there sl3 | exact .there sl4 | exact .there sl5 | exact .there sl6 | exact .there sl7 | exact .there sl8 | exact .there sl9 | exact .there sl10 | exact .there sl11 | exact .there sl12)) (by simp) fun _ h => ?_; dsimp only [List.set] at h)))
      refine jn.bool false (fun J hJ => cs.no rfl ?_) ?_
      · refine ldB.mk (x := false) (by refine Ok.cellS h (by with_reducible first | exact sl0 | exact .there sl0 | exact .there sl1 | exact .there sl2 | exact .there sl3 | exact .there sl4 | exact .there sl5 | exact .there sl6 | exact .there sl7 | exact .there sl8 | exact .there sl9 | exact .there sl10 | exact .there sl11 | exact .there sl12) ?_; rfl) ?_
        exact hJ
      refine cs.no rfl (ldB.mk (x := false) (by refine Ok.cellS h (by with_reducible first | exact sl0 | exact .there sl0 | exact .there sl1 | exact .there sl2 | exact .there sl3 | exact .there sl4 | exact .there sl5 | exact .there sl6 | exact .there sl7 | exact .there sl8 | exact .there sl9 | exact .there sl10 | exact .there sl11 | exact .there sl12) ?_; rfl) (cs.yes rfl ?_))
      refine call14 (Acceptors_por (Ok.emb (h) (.cons (A := portP b _ _ _) (by with_reducible first | exact sl0 | exact .there sl0 | exact .there sl1 | exact .there sl2 | exact .there sl3 | exact .there sl4 | exact .there sl5 | exact .there sl6 | exact .there sl7 | exact .there sl8 | exact .there sl9 | exact .there sl10 | exact .there sl11 | exact .there sl12) (.same _))) o1 fun s2 w6 hs h => ⟨(s2, ()), rfl, ?_⟩)
      have hs : s2.len = 1 := hs
      refine jn.at (true, ()) (fun w' => Ok e [old e] w') (fun J hJ => cs.yes (by dsimp only; rw [hs]; rfl) ?_) (fun w7 h => ⟨rfl, h⟩)
      refine call15 (Callers_por (Ok.emb (h) (.cons (A := portP b _ _ _) (by with_reducible first | exact sl0 | exact .there sl0 | exact .there sl1 | exact .there sl2 | exact .there sl3 | exact .there sl4 | exact .there sl5 | exact .there sl6 | exact .there sl7 | exact .there sl8 | exact .there sl9 | exact .there sl10 | exact .there sl11 | exact .there sl12) (.same _))) o1 fun s3 w7 hs3 h => ⟨(s3, ()), rfl, ?_⟩)
      have hs3 : s3.len = a0.len := by rw [hs3]; exact cmL_len.trans hin
      have := hJ _ (h.emb (by repeat' (first | with_reducible exact Emb.same _ | exact Emb.nil _ | refine Emb.cons (by with_reducible first | exact sl0 | exact .there sl0 | exact .there sl1 | exact .there sl2 | exact .there sl3 | exact .there sl4 | exact .there sl5 | exact .there sl6 | exact .there sl7 | exact .there sl8 | exact .there sl9 | exact .there sl10 | exact .there sl11 | exact .there sl12) ?_ | refine Emb.skip ?_)))
      rw [hs3, beq_self_eq_true]
      exact this
    · have hzj := cmL_get hj
      obtain ⟨x', hx', h1, h2, h3, h4⟩ := hget j _ hzj
      rw [hx] at hx'
      cases hx'
      dsimp only at h3 h4
      have hme : meetL g (y.toNat : Int) (cmL i) = some (((j + 1 : Nat) : Int), 1) := meetL_some hzj (by rw [h3, and_bytes]; exact hm) fun m hmj z hz => by
        obtain ⟨x2, hx2, q1, q2, q3, q4⟩ := hget m z hz
        rw [q3, and_bytes]
        exact hb m hmj x2 hx2
      have hacc : (⟨cmL i, [], g, s, [], 0⟩ : PP).accept 16 1 (y.toNat : Int) = ((1, ((j + 1 : Nat) : Int), [x], true, 0), ⟨rmL (cmL i) ((j + 1 : Nat) : Int), [], g, s, [(1, ((j + 1 : Nat) : Int), 1)], 1⟩) := by
        unfold PP.accept
        rw [if_neg (fun h => h.elim g2 (fun h => h hgood)), if_neg (by rw [hinP]; decide)]
        dsimp only
        rw [hme]
        dsimp only
        rw [h4]
        rfl
      have o1 := accept_ok (t := 16) (pri := 1) (bits := (y.toNat : Int)) o0
      have hrl : (rmL (cmL i) ((j + 1 : Nat) : Int)).length = i - 1 := by
        obtain ⟨p, hp1, hp2⟩ := rmL_perm (l := cmL i) (id := ((j + 1 : Nat) : Int)) (atI_pos.2 (cmL_ids.2 ⟨by omega, by omega⟩))
        have := hp2.length_eq
        rw [cmL_len, List.length_cons] at this
        omega
      refine call10 (Accept_por h o0 (by decide) fun y2 w4 h => ⟨(((1 : Int), ((j + 1 : Nat) : Int), y2, true, ()), (0 : Int), ()), by rw [hacc]; rfl, ?_⟩)
      rw [hacc] at h o1
      refine al.mk h fun b2 w5 h => ?_
      (repeat (first | with_reducible refine dr.mk h fun _ h => ?_ | with_reducible refine nn.mk ?_ | ((first | with_reducible apply ldI.mk | with_reducible apply ldB.mk | with_reducible apply ldP.mk | with_reducible apply ldS.mk | with_reducible apply ldM.mk | with_reducible apply ldF.mk | with_reducible apply ldG.mk); (· exact (by refine Ok.cellS h (by with_reducible first | exact sl0 | exact .there sl0 | exact .there sl1 | exact .there sl2 | exact .there sl3 | exact .there sl4 | exact .there sl5 | exact .there sl6 | exact .there sl7 | exact .there sl8 | exact .there sl9 | exact .there sl10 | exact .there sl11 | exact .there sl12) ?_; rfl))) | (refine st1.mk (Ok.bring h (by with_reducible first | exact sl0 | exact .there sl0 | exact .there sl1 | exact .there sl2 | exact .there sl3 | exact .there sl4 | exact .there sl5 | exact .there sl6 | exact .there sl7 | exact .there sl8 | exact .there sl9 | exact .there sl10 | exact .there sl11 | exact .there sl12)) (by simp) fun _ h => ?_; dsimp only [List.set] at h)))
      refine jn.bool false (fun J hJ => cs.no rfl ?_) ?_
      · refine ldB.mk (x := true) (by refine Ok.cellS h (by with_reducible first | exact sl0 | exact .there sl0 | exact .there sl1 | exact .there sl2 | exact .there sl3 | exact .there sl4 | exact .there sl5 | exact .there sl6 | exact .there sl7 | exact .there sl8 | exact .there sl9 | exact .there sl10 | exact .there sl11 | exact .there sl12) ?_; rfl) ?_
        rw [decide_eq_true (by omega)]
        exact hJ
      refine cs.no rfl (ldB.mk (x := true) (by refine Ok.cellS h (by with_reducible first | exact sl0 | exact .there sl0 | exact .there sl1 | exact .there sl2 | exact .there sl3 | exact .there sl4 | exact .there sl5 | exact .there sl6 | exact .there sl7 | exact .there sl8 | exact .there sl9 | exact .there sl10 | exact .there sl11 | exact .there sl12) ?_; rfl) (cs.no rfl ?_))
      refine dr.mk h fun w6 h => ?_
      refine jn.at (true, ()) (fun w' => Ok e [old e] w') (fun J hJ => ?_) (fun w7 h => ⟨rfl, h⟩)
      refine ldI.mk (x := ((j + 1 : Nat) : Int)) (by refine Ok.cellS h (by with_reducible first | exact sl0 | exact .there sl0 | exact .there sl1 | exact .there sl2 | exact .there sl3 | exact .there sl4 | exact .there sl5 | exact .there sl6 | exact .there sl7 | exact .there sl8 | exact .there sl9 | exact .there sl10 | exact .there sl11 | exact .there sl12) ?_; rfl) (cs.yes (beq_self_eq_true _) ?_)
      have hy2 := Ok.rdbR (Ok.emb (h) (.cons (A := rdb y2 _) (by with_reducible first | exact sl0 | exact .there sl0 | exact .there sl1 | exact .there sl2 | exact .there sl3 | exact .there sl4 | exact .there sl5 | exact .there sl6 | exact .there sl7 | exact .there sl8 | exact .there sl9 | exact .there sl10 | exact .there sl11 | exact .there sl12) (.same _)))
      have hy2 : y2.len = 1 := hy2.symm
      refine ldS.mk (x := y2) (by refine Ok.cellS h (by with_reducible first | exact sl0 | exact .there sl0 | exact .there sl1 | exact .there sl2 | exact .there sl3 | exact .there sl4 | exact .there sl5 | exact .there sl6 | exact .there sl7 | exact .there sl8 | exact .there sl9 | exact .there sl10 | exact .there sl11 | exact .there sl12) ?_; rfl) (cs.yes (by rw [hy2]; rfl) ?_)
      refine ldS.mk (x := y2) (by refine Ok.cellS h (by with_reducible first | exact sl0 | exact .there sl0 | exact .there sl1 | exact .there sl2 | exact .there sl3 | exact .there sl4 | exact .there sl5 | exact .there sl6 | exact .there sl7 | exact .there sl8 | exact .there sl9 | exact .there sl10 | exact .there sl11 | exact .there sl12) ?_; rfl) ?_
      refine ix_rdb (rdb_rd (Ok.emb (h) (.cons (A := rdb y2 _) (by with_reducible first | exact sl0 | exact .there sl0 | exact .there sl1 | exact .there sl2 | exact .there sl3 | exact .there sl4 | exact .there sl5 | exact .there sl6 | exact .there sl7 | exact .there sl8 | exact .there sl9 | exact .there sl10 | exact .there sl11 | exact .there sl12) (.same _)))) (by decide) (by omega) fun b3 o3 z hz hcell => ldI.mk (hcell _ _ (Ok.emb (h) (.cons (A := rdb y2 _) (by with_reducible first | exact sl0 | exact .there sl0 | exact .there sl1 | exact .there sl2 | exact .there sl3 | exact .there sl4 | exact .there sl5 | exact .there sl6 | exact .there sl7 | exact .there sl8 | exact .there sl9 | exact .there sl10 | exact .there sl11 | exact .there sl12) (.same _)))) ?_
      have hz : z = x := by cases hz; rfl
      subst hz
      have hw : w64 (((j + 1 : Nat) : Int) - 1) = (j : Int) := by rw [w64_in (by omega) (by omega)]; omega
      rw [hw]
      refine ix_rdb r (Int.natCast_nonneg _) (by omega) fun b4 o4 z2 hz2 hcell2 => ldI.mk (hcell2 _ _ (Ok.emb (h) (.cons (A := old e) (by with_reducible first | exact sl0 | exact .there sl0 | exact .there sl1 | exact .there sl2 | exact .there sl3 | exact .there sl4 | exact .there sl5 | exact .there sl6 | exact .there sl7 | exact .there sl8 | exact .there sl9 | exact .there sl10 | exact .there sl11 | exact .there sl12) (.same _)))) ?_
      rw [Int.toNat_natCast, hx] at hz2
      cases hz2
      refine cs.yes (beq_self_eq_true _) ?_
      refine call15 (Callers_por (Ok.emb (h) (.cons (A := portP b _ _ _) (by with_reducible first | exact sl0 | exact .there sl0 | exact .there sl1 | exact .there sl2 | exact .there sl3 | exact .there sl4 | exact .there sl5 | exact .there sl6 | exact .there sl7 | exact .there sl8 | exact .there sl9 | exact .there sl10 | exact .there sl11 | exact .there sl12) (.same _))) o1 fun s3 w7 hs3 h => ⟨(s3, ()), rfl, ?_⟩)
      have hs3 : s3.len = i - 1 := by rw [hs3]; exact hrl
      refine cs.yes (by dsimp only; rw [hs3, w64_in (by omega) (by omega), beq_iff_eq]; omega) ?_
      refine call12 (Open_por (Ok.emb (h) (.cons (A := portP b _ _ _) (by with_reducible first | exact sl0 | exact .there sl0 | exact .there sl1 | exact .there sl2 | exact .there sl3 | exact .there sl4 | exact .there sl5 | exact .there sl6 | exact .there sl7 | exact .there sl8 | exact .there sl9 | exact .there sl10 | exact .there sl11 | exact .there sl12) (.same _))) o1 (by decide) fun s4 w8 hs4 h => ⟨(s4, ()), rfl, ?_⟩)
      have hs4 : s4.len = 1 := hs4
      dsimp only
      rw [hs4]
      exact hJ _ (h.emb (by repeat' (first | with_reducible exact Emb.same _ | exact Emb.nil _ | refine Emb.cons (by with_reducible first | exact sl0 | exact .there sl0 | exact .there sl1 | exact .there sl2 | exact .there sl3 | exact .there sl4 | exact .there sl5 | exact .there sl6 | exact .there sl7 | exact .there sl8 | exact .there sl9 | exact .there sl10 | exact .there sl11 | exact .there sl12) ?_ | refine Emb.skip ?_)))

end Go.Proofs.Ytbhmejmkoefahaa.B
