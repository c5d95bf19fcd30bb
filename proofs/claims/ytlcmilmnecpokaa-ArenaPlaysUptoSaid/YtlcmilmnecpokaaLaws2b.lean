/- Laws of layer 2: words, parts. -/
import Derived.Test.YtlcmilmnecpokaaLaws2
namespace Go.Proofs.Ytlcmilmnecpokaa.B
open Go
set_option linter.unusedVariables false

/-- words, one behind the other -/
def flatW (r : List Int) : List UInt8 := r.flatMap wB

theorem flatW_cons {x : Int} {r : List Int} : flatW (x :: r) = wB x ++ flatW r := by simp [flatW]

theorem flatW_len : ∀ {r : List Int}, (flatW r).length = 4 * r.length
  | [] => rfl
  | x :: r => by rw [flatW_cons, List.length_append, wB_len, flatW_len, List.length_cons]; omega

theorem drop_wB {x : Int} {l : List UInt8} {k : Nat} : (wB x ++ l).drop (4 * (k + 1)) = l.drop (4 * k) := by
  rw [show 4 * (k + 1) = (wB x).length + 4 * k by rw [wB_len]; omega, List.drop_append, List.drop_of_length_le (by omega), List.nil_append]
  congr 1; omega

theorem take_wB {x : Int} {l : List UInt8} {k : Nat} : (wB x ++ l).take (4 * (k + 1)) = wB x ++ l.take (4 * k) := by
  rw [show 4 * (k + 1) = (wB x).length + 4 * k by rw [wB_len]; omega, List.take_length_add_append]

theorem flatW_get : ∀ {r : List Int} {k : Nat} {x : Int}, r[k]? = some x → ((flatW r).drop (4 * k)).take 4 = wB x
  | y :: r, 0, x, h => by
    cases h
    rw [flatW_cons, Nat.mul_zero, List.drop_zero, List.take_append_of_le_length (by rw [wB_len]; omega), List.take_of_length_le (by rw [wB_len]; omega)]
  | y :: r, k + 1, x, h => by
    rw [flatW_cons, drop_wB]
    exact flatW_get (by simpa using h)

theorem flatW_set : ∀ {r : List Int} {k : Nat} {x : Int}, k < r.length → wrA (flatW r) (4 * k) (wB x) = flatW (r.set k x)
  | y :: r, 0, x, h => by
    rw [List.set_cons_zero, flatW_cons, flatW_cons]
    unfold wrA
    rw [Nat.mul_zero, List.take_zero, List.nil_append, Nat.zero_add, wB_len, List.drop_append_of_le_length (by rw [wB_len]; omega), List.drop_of_length_le (by rw [wB_len]; omega), List.nil_append]
  | y :: r, k + 1, x, h => by
    have ih := flatW_set (r := r) (k := k) (x := x) (by simpa using h)
    rw [List.set_cons_succ, flatW_cons, flatW_cons, ← ih]
    unfold wrA
    rw [take_wB, wB_len, show 4 * (k + 1) + 4 = 4 * (k + 1 + 1) by omega, drop_wB, show 4 * (k + 1) = 4 * k + 4 by omega]
    simp

theorem flatW_rep : ∀ n : Nat, flatW (List.replicate n 0) = List.replicate (4 * n) 0
  | 0 => rfl
  | n + 1 => by
    rw [List.replicate_succ, flatW_cons, flatW_rep n, show 4 * (n + 1) = 4 * n + 1 + 1 + 1 + 1 by omega]
    simp only [List.replicate_succ]
    rfl

def us32 (r : List Int) : List Value := r.map (Value.int .u32)

theorem us32_rep : us32 (List.replicate 256 0) = List.replicate 256 (.int .u32 0) := by unfold us32; rw [List.map_replicate]

theorem us32_set {r : List Int} {k : Nat} {x : Int} : (us32 r).set k (.int .u32 x) = us32 (r.set k x) := by simp [us32, List.map_set]

set_option maxRecDepth 8000 in
set_option maxHeartbeats 4000000 in
theorem ArenaWords_walk {e : World} {a0 a1 : Sl} {xs ws : List Int} (ha : ArgI .u8 e a0 xs) (hb : ArgI .u32 e a1 ws) : sh4 a0 a1 (LawEnd e) e := by
  unfold sh4
  obtain ⟨l, rfl, r⟩ := argI_b ha
  have rw1 := rd_arg hb
  have hl := r.len
  have hlw := hb.len
  refine call8 (known_2 (Ok.start e) fun w1 h => ⟨(true, ()), enc_b rfl, ?_⟩)
  refine cs.no rfl ?_
  refine jn.g (a0.len ≤ 100 ∧ a0.len ≤ a1.len) (fun J hJ => cs.mk (fun h1 => hJ true (fun h => by cases h)) (fun h1 => hJ _ fun h2 => ?_)) fun c1 hc1 => ?_
  · have := of_decide_eq_false h1; have := of_decide_eq_false h2; omega
  refine cs.mk (fun _ => ⟨rfl, h⟩) (fun h1 => ?_)
  obtain ⟨g1, g2⟩ := hc1 h1
  clear hc1 h1
  refine call9 (New_arena h (fun h0 => absurd (by decide) h0) fun _ b w2 h => ⟨(some ⟨b, 0, none⟩, (0 : Int), ()), rfl, ?_⟩)
  have e0 : List.replicate (1024 : Int).toNat (0 : UInt8) = flatW (List.replicate 256 0) := (flatW_rep 256).symm
  rw [e0] at h
  refine al.mk h fun b9 w3 h => ?_
  have h : Ok e (pts b9 (List.replicate 256 (.int .u32 0)) :: arenaP b 0 (flatW (List.replicate 256 0)) :: [old e]) w3 := h
  rw [← us32_rep] at h
  refine lp.mk (fun t w' => ∃ i : Nat, ∃ m : List Int, ∃ c, t.1 = (i : Int) ∧ i ≤ a0.len ∧ m.length = 256 ∧ (∀ x ∈ m, 0 ≤ x ∧ x ≤ 4294967295) ∧ Ok e [pts b9 (us32 m), arenaP b c (flatW m), old e] w') (fun t _ => a0.len - t.1.toNat)
    ⟨0, List.replicate 256 0, 0, rfl, Nat.zero_le _, List.length_replicate, fun x hx => by rw [List.eq_of_mem_replicate hx]; decide, h⟩ ?_
  clear h e0
  rintro ⟨(i' : Int), _⟩ w4 ⟨i, m, c, hi, hi1, hm, hx, h⟩
  dsimp only at hi
  subst hi
  refine cs.mk (fun hlt => ?_) (fun hge => ?_)
  · have hlt : i < a0.len := by have := of_decide_eq_true hlt; dsimp only at this; omega
    refine dr.mk h fun w5 h => ?_
    obtain ⟨y, hy⟩ : ∃ y, l[i]? = some y := ⟨_, List.getElem?_eq_getElem (by omega)⟩
    obtain ⟨z, hz⟩ : ∃ z, ws[i]? = some z := ⟨_, List.getElem?_eq_getElem (by omega)⟩
    have hzb := wf_u32 (hb.wf z (List.mem_of_getElem? hz))
    have hyb := u8_lt y
    refine ix_rdb r (Int.natCast_nonneg _) (by dsimp only; omega) fun b1 o1 y' hy' hcell => ldI.mk (hcell _ _ (Ok.emb (h) (.cons (A := old e) (by with_reducible first | exact sl0 | exact .there sl0 | exact .there sl1 | exact .there sl2 | exact .there sl3 | exact .there sl4 | exact .there sl5 | exact .there sl6 | exact .there sl7 | exact .there sl8 | exact .there sl9 | exact .there sl10 | exact .there sl11 | exact .there sl12) (.same _)))) ?_
    dsimp only at hy'
    rw [Int.toNat_natCast, hy] at hy'
    cases hy'
    refine ix_rd rw1 (Int.natCast_nonneg _) (by dsimp only; omega) fun b2 o2 z' hz' hcell2 => ldI.mk (hcell2 _ _ (Ok.emb (h) (.cons (A := old e) (by with_reducible first | exact sl0 | exact .there sl0 | exact .there sl1 | exact .there sl2 | exact .there sl3 | exact .there sl4 | exact .there sl5 | exact .there sl6 | exact .there sl7 | exact .there sl8 | exact .there sl9 | exact .there sl10 | exact .there sl11 | exact .there sl12) (.same _)))) ?_
    dsimp only at hz'
    rw [Int.toNat_natCast, hz] at hz'
    cases hz'
    have hw1 : w64 (4 * w64 (y.toNat : Int)) = ((4 * y.toNat : Nat) : Int) := by
      rw [w64_in (x := (y.toNat : Int)) (by omega) (by omega), w64_in (by omega) (by omega)]; omega
    rw [hw1]
    have hmf := flatW_len (r := m)
    refine call13 (PutWord_arena h.p1 (by omega) hzb.1 (fun h0 => absurd (by unfold inA; omega) h0) fun _ _ w6 h => ⟨((0 : Int), ()), rfl, ?_⟩)
    rw [Int.toNat_natCast, flatW_set (by omega)] at h
    refine cs.no rfl ?_
    refine dr.mk h fun w7 h => ?_
    clear hcell hcell2
    refine ix_rdb r (Int.natCast_nonneg _) (by dsimp only; omega) fun b1 o1 y' hy' hcell => ldI.mk (hcell _ _ (Ok.emb (h) (.cons (A := old e) (by with_reducible first | exact sl0 | exact .there sl0 | exact .there sl1 | exact .there sl2 | exact .there sl3 | exact .there sl4 | exact .there sl5 | exact .there sl6 | exact .there sl7 | exact .there sl8 | exact .there sl9 | exact .there sl10 | exact .there sl11 | exact .there sl12) (.same _)))) ?_
    dsimp only at hy'
    rw [Int.toNat_natCast, hy] at hy'
    cases hy'
    refine ix_rd rw1 (Int.natCast_nonneg _) (by dsimp only; omega) fun b2 o2 z' hz' hcell2 => ldI.mk (hcell2 _ _ (Ok.emb (h) (.cons (A := old e) (by with_reducible first | exact sl0 | exact .there sl0 | exact .there sl1 | exact .there sl2 | exact .there sl3 | exact .there sl4 | exact .there sl5 | exact .there sl6 | exact .there sl7 | exact .there sl8 | exact .there sl9 | exact .there sl10 | exact .there sl11 | exact .there sl12) (.same _)))) ?_
    dsimp only at hz'
    rw [Int.toNat_natCast, hz] at hz'
    cases hz'
    refine ⟨Int.natCast_nonneg _, by omega, ?_⟩
    refine st1.mk h.p1 (by simp only [us32, List.length_map]; omega) fun w8 h => ?_
    rw [Int.toNat_natCast, Nat.mul_one, Nat.zero_add, us32_set] at h
    have hw : w64 ((i : Int) + 1) = ((i + 1 : Nat) : Int) := by rw [w64_in (by omega) (by omega)]; rfl
    dsimp only
    rw [hw]
    refine ⟨⟨i + 1, m.set y.toNat z, _, rfl, hlt, by rw [List.length_set]; exact hm, fun x hx' => ?_, h⟩, ?_⟩
    · rcases List.mem_or_eq_of_mem_set hx' with h1 | h1
      · exact hx x h1
      · rw [h1]; exact hzb
    · show a0.len - Int.toNat ((i + 1 : Nat) : Int) < a0.len - Int.toNat (i : Int)
      omega
  clear hi1 hge
  refine lp.mk (fun t w' => ∃ i : Nat, ∃ c, t.1 = (i : Int) ∧ i ≤ 256 ∧ Ok e [pts b9 (us32 m), arenaP b c (flatW m), old e] w') (fun t _ => 256 - t.1.toNat) ⟨0, c, rfl, Nat.zero_le _, h⟩ ?_
  clear h
  rintro ⟨(i' : Int), _⟩ w5 ⟨i, c, hi, hi1, h⟩
  dsimp only at hi
  subst hi
  refine cs.mk (fun hlt => ?_) (fun hge => ⟨rfl, (h.emb (by repeat' (first | with_reducible exact Emb.same _ | exact Emb.nil _ | refine Emb.cons (by with_reducible first | exact sl0 | exact .there sl0 | exact .there sl1 | exact .there sl2 | exact .there sl3 | exact .there sl4 | exact .there sl5 | exact .there sl6 | exact .there sl7 | exact .there sl8 | exact .there sl9 | exact .there sl10 | exact .there sl11 | exact .there sl12) ?_ | refine Emb.skip ?_)))⟩)
  have hlt : i < 256 := by have := of_decide_eq_true hlt; dsimp only at this; omega
  obtain ⟨z, hz⟩ : ∃ z, m[i]? = some z := ⟨_, List.getElem?_eq_getElem (by omega)⟩
  have hzb := hx z (List.mem_of_getElem? hz)
  have hw1 : w64 (4 * (i : Int)) = ((4 * i : Nat) : Int) := by rw [w64_in (by omega) (by omega)]; omega
  have hmf := flatW_len (r := m)
  dsimp only
  rw [hw1]
  refine call14 (Word_arena h.p1 (by omega) (fun h0 => absurd (by unfold inA; omega) h0) fun _ _ w6 h => ⟨(z, (0 : Int), ()), ?_, ?_⟩)
  · rw [Int.toNat_natCast, flatW_get hz, wordOf_wB hzb.1 hzb.2]; rfl
  refine call12 (Read_arena h (by omega) (fun h0 => absurd (by unfold inA; omega) h0) fun _ s w7 hs h => ⟨(s, (0 : Int), ()), rfl, ?_⟩)
  rw [Int.toNat_natCast, show (4 : Int).toNat = 4 from rfl, flatW_get hz] at h
  have hr := slc_rdB h
  have hs : s.len = 4 := hs
  obtain ⟨y0, hy0, hv0⟩ := wB_get (x := z) (i := 0) hzb.1 (by decide)
  obtain ⟨y3, hy3, hv3⟩ := wB_get (x := z) (i := 3) hzb.1 (by decide)
  refine jn.bool false (fun J hJ => cs.no rfl ?_) ?_
  · refine ⟨Int.natCast_nonneg _, by omega, ?_⟩
    refine ldI.mk (Ok.cellS h (by with_reducible first | exact sl0 | exact .there sl0 | exact .there sl1 | exact .there sl2 | exact .there sl3 | exact .there sl4 | exact .there sl5 | exact .there sl6 | exact .there sl7 | exact .there sl8 | exact .there sl9 | exact .there sl10 | exact .there sl11 | exact .there sl12) (v := .int .u32 z) (by simp [us32, hz])) ?_
    rw [bne_self_eq_false]
    exact hJ
  refine jn.bool false (fun J hJ => cs.no rfl ?_) ?_
  · dsimp only
    rw [hs]
    exact hJ
  refine jn.bool false (fun J hJ => cs.no rfl ?_) ?_
  · refine ix_rdb hr (by decide) (by dsimp only; omega) fun b1 o1 y' hy' hcell => ldI.mk (hcell _ _ h) ?_
    have : y' = y0 := by have h2 := hy'.symm.trans hy0; cases h2; rfl
    subst this
    rw [hv0, show Int.fdiv z (2 ^ (8 * 0)) = z by simp, bne_self_eq_false]
    exact hJ
  refine jn.bool false (fun J hJ => cs.no rfl ?_) ?_
  · refine ix_rdb hr (by decide) (by dsimp only; omega) fun b1 o1 y' hy' hcell => ldI.mk (hcell _ _ h) ?_
    have : y' = y3 := by have h2 := hy'.symm.trans hy3; cases h2; rfl
    subst this
    rw [hv3, bne_self_eq_false]
    exact hJ
  refine cs.no rfl ?_
  have hw : w64 ((i : Int) + 1) = ((i + 1 : Nat) : Int) := by rw [w64_in (by omega) (by omega)]; rfl
  rw [hw]
  refine ⟨⟨i + 1, _, rfl, hlt, (h.emb (by repeat' (first | with_reducible exact Emb.same _ | exact Emb.nil _ | refine Emb.cons (by with_reducible first | exact sl0 | exact .there sl0 | exact .there sl1 | exact .there sl2 | exact .there sl3 | exact .there sl4 | exact .there sl5 | exact .there sl6 | exact .there sl7 | exact .there sl8 | exact .there sl9 | exact .there sl10 | exact .there sl11 | exact .there sl12) ?_ | refine Emb.skip ?_)))⟩, ?_⟩
  show 256 - Int.toNat ((i + 1 : Nat) : Int) < 256 - Int.toNat (i : Int)
  omega

/-- slices of bytes that came in -/
theorem vals_p {e : World} : ∀ {vs : List Value}, (∀ u ∈ vs, (Fk.s (.i .u8)).at e u) → ∃ (ss : List Sl) (pss : List (List UInt8)), vs = ss.map vS ∧ pss.length = ss.length ∧ ∀ (i : Nat) s l, ss[i]? = some s → pss[i]? = some l → RdB e (old e) s l
  | [], _ => ⟨[], [], rfl, rfl, fun i s l h => by simp at h⟩
  | v :: vs, hv => by
    obtain ⟨ss, pss, rfl, hl, hr⟩ := vals_p fun u hu => hv u (List.mem_cons_of_mem _ hu)
    obtain ⟨s, l, rfl, hs⟩ := fk_b (hv v (List.mem_cons_self ..))
    refine ⟨s :: ss, l :: pss, rfl, by simp [hl], fun i s' l' h1 h2 => ?_⟩
    cases i with
    | zero => cases h1; cases h2; exact hs
    | succ i => exact hr i s' l' (by simpa using h1) (by simpa using h2)

theorem argS_p {e : World} {s : Sl} {vs : List Value} (ha : ArgS 1 e s vs) (hv : ∀ u ∈ vs, (Fk.s (.i .u8)).at e u) : ∃ pss, RdP e (old e) s pss := by
  obtain ⟨ss, pss, rfl, hl, hr⟩ := vals_p hv
  have hlen := ha.len
  rw [List.length_map, Nat.mul_one] at hlen
  refine ⟨pss, by omega, fun i l hi => ?_⟩
  have hlt := (List.getElem?_eq_some_iff.1 hi).1
  obtain ⟨x, hx⟩ : ∃ x, ss[i]? = some x := ⟨_, List.getElem?_eq_getElem (by omega)⟩
  obtain ⟨b, o, ha1, hb, hc⟩ := ha.cell i (vS x) (by rw [List.getElem?_map, hx]; rfl)
  exact ⟨b, o, x, ha1, fun L w hw => by rw [hw.old_cell (a := ⟨b, o + i, none⟩) hb]; exact hc, hr i x l hx hi⟩

theorem argF_p {e : World} {s : Sl} {vs : List Value} (ha : ArgF [.s (.i .u8)] e s vs) : ∃ pss, RdP e (old e) s pss := by
  refine argS_p ha.1 fun u hu => ?_
  obtain ⟨i, hi, rfl⟩ := List.getElem_of_mem hu
  have hlen := ha.1.len
  obtain ⟨u, h1, h2⟩ := ha.2 i (by simp at hlen; omega) 0 _ rfl
  rw [show i * [Fk.s (.i .u8)].length + 0 = i by simp, List.getElem?_eq_getElem hi] at h1
  cases h1
  exact h2

theorem wrA_take {m l : List UInt8} {a : Nat} (h : a + l.length ≤ m.length) : ((wrA m a l).take (a + l.length)).drop a = l := by
  rw [List.drop_take, show a + l.length - a = l.length by omega, wrA_back h]

set_option maxHeartbeats 4000000 in
theorem ArenaParts_walk {e : World} {a0 : Sl} {a1 : Int} {vs : List Value} (ha : ArgF [.s (.i .u8)] e a0 vs) (_ : (Lit.int .i64 a1).wf = true) : sh3 a0 a1 (LawEnd e) e := by
  unfold sh3
  obtain ⟨pss, r⟩ := argF_p ha
  have hl := r.len
  refine call8 (known_2 (Ok.start e) fun w1 h => ⟨(true, ()), enc_b rfl, ?_⟩)
  refine cs.no rfl ?_
  refine jn.g (a0.len ≤ 20 ∧ 0 ≤ a1) (fun J hJ => cs.mk (fun h1 => hJ true (fun h => by cases h)) (fun h1 => hJ _ fun h2 => ?_)) fun c1 hc1 => ?_
  · have := of_decide_eq_false h1; have := of_decide_eq_false h2; omega
  refine jn.g (a0.len ≤ 20 ∧ 0 ≤ a1 ∧ a1 ≤ 500) (fun J hJ => cs.mk (fun h1 => hJ true (fun h => by cases h)) (fun h1 => hJ _ fun h2 => ?_)) fun c2 hc2 => ?_
  · have := hc1 h1; have := of_decide_eq_false h2; omega
  refine cs.mk (fun _ => ⟨rfl, h⟩) (fun h1 => ?_)
  obtain ⟨g1, g2, g3⟩ := hc2 h1
  clear hc1 hc2 h1
  obtain ⟨at0, rfl⟩ := Int.eq_ofNat_of_zero_le g2
  refine lp.mk (fun t w' => ∃ i : Nat, t.2.1 = (i : Int) ∧ i ≤ pss.length ∧ t.1.len = (pss.take i).flatten.length ∧ (pss.take i).flatten.length ≤ 100 * i ∧ Ok e [slc 1 t.1 (by8 (pss.take i).flatten), old e] w') (fun t _ => pss.length - t.2.1.toNat)
    ⟨0, rfl, Nat.zero_le _, rfl, Nat.zero_le _, h.slcNil 1⟩ ?_
  clear h
  rintro ⟨(t : Sl), (i' : Int), _⟩ w4 ⟨i, hi, hi1, ht, hb, h⟩
  dsimp only at hi ht h
  subst hi
  refine cs.mk (fun hlt => ?_) (fun hge => ?_)
  · have hlt : i < pss.length := by have := of_decide_eq_true hlt; dsimp only at this; omega
    obtain ⟨l, hl1⟩ : ∃ l, pss[i]? = some l := ⟨_, List.getElem?_eq_getElem hlt⟩
    refine ix_rdp r hl1 fun b1 o1 x hc hr => ldS.mk (hc _ _ h.p1) ?_
    refine cs.mk (fun _ => ⟨rfl, h.drop⟩) (fun h2 => ?_)
    have h2 := of_decide_eq_false h2
    have hl100 : l.length ≤ 100 := by have := hr.len; omega
    clear hr hc h2
    refine ix_rdp r hl1 fun b1 o1 x hc hr => ldS.mk (hc _ _ h.p1) ?_
    have hx := hr.len
    have e2 : (pss.take (i + 1)).flatten = (pss.take i).flatten ++ l := by
      rw [List.take_add_one, hl1, List.flatten_append]; simp
    refine ef.append slT_b (by decide) h (by rw [by8_len]; omega) (fun ha => by rw [hr.none ha]; rfl) (fun a ha => hr.cells h.p1 ha) by8_one (by simp only; omega) fun s' w2 hl2 h => ?_
    rw [← by8_append, ← e2] at h
    have hw : w64 ((i : Int) + 1) = ((i + 1 : Nat) : Int) := by rw [w64_in (by omega) (by omega)]; rfl
    dsimp only at hl2 ⊢
    rw [hw]
    refine ⟨⟨i + 1, rfl, hlt, ?_, ?_, h⟩, ?_⟩
    · rw [e2, List.length_append]; omega
    · rw [e2, List.length_append]; omega
    · show pss.length - Int.toNat ((i + 1 : Nat) : Int) < pss.length - Int.toNat (i : Int)
      omega
  have hge : ¬ i < pss.length := by have := of_decide_eq_false hge; dsimp only at this; omega
  have e3 : pss.take i = pss := List.take_of_length_le (by omega)
  rw [e3] at h ht hb
  generalize hA : pss.flatten = A at *
  have hAl : A.length ≤ 2000 := by omega
  have hm : ((List.replicate (2500 : Int).toNat 0 : List UInt8)).length = 2500 := List.length_replicate
  refine call9 (New_arena h (fun h0 => absurd (by decide) h0) fun _ b1 w5 h => ⟨(some ⟨b1, 0, none⟩, (0 : Int), ()), rfl, ?_⟩)
  refine call9 (New_arena h (fun h0 => absurd (by decide) h0) fun _ b2 w6 h => ⟨(some ⟨b2, 0, none⟩, (0 : Int), ()), rfl, ?_⟩)
  have h := (Ok.emb (h) (.cons (A := arenaP b1 _ _) (by with_reducible first | exact sl0 | exact .there sl0 | exact .there sl1 | exact .there sl2 | exact .there sl3 | exact .there sl4 | exact .there sl5 | exact .there sl6 | exact .there sl7 | exact .there sl8 | exact .there sl9 | exact .there sl10 | exact .there sl11 | exact .there sl12) (.cons (A := old e) (by with_reducible first | exact sl0 | exact .there sl0 | exact .there sl1 | exact .there sl2 | exact .there sl3 | exact .there sl4 | exact .there sl5 | exact .there sl6 | exact .there sl7 | exact .there sl8 | exact .there sl9 | exact .there sl10 | exact .there sl11 | exact .there sl12) (.same _))))
  refine call10 (Write_arena h (by omega) r (by omega) (by rw [hA]; omega) (fun h0 => absurd (by rw [hA]; unfold inA; omega) h0) fun _ w7 h => ⟨((0 : Int), ()), rfl, ?_⟩)
  rw [hA, Int.toNat_natCast] at h
  refine al.mk h fun b3 w8 h => ?_
  have h := (Ok.emb (h) (.cons (A := pts b3 _) (by with_reducible first | exact sl0 | exact .there sl0 | exact .there sl1 | exact .there sl2 | exact .there sl3 | exact .there sl4 | exact .there sl5 | exact .there sl6 | exact .there sl7 | exact .there sl8 | exact .there sl9 | exact .there sl10 | exact .there sl11 | exact .there sl12) (.cons (A := slc 1 t _) (by with_reducible first | exact sl0 | exact .there sl0 | exact .there sl1 | exact .there sl2 | exact .there sl3 | exact .there sl4 | exact .there sl5 | exact .there sl6 | exact .there sl7 | exact .there sl8 | exact .there sl9 | exact .there sl10 | exact .there sl11 | exact .there sl12) (.same _))))
  have hrt := slc_rdB h.p1
  obtain ⟨h, rp⟩ := pack_one (b := b3) h hrt
  have hfl : [A].flatten = A := by simp
  have h := (Ok.emb (h) (.cons (A := arenaP b2 _ _) (by with_reducible first | exact sl0 | exact .there sl0 | exact .there sl1 | exact .there sl2 | exact .there sl3 | exact .there sl4 | exact .there sl5 | exact .there sl6 | exact .there sl7 | exact .there sl8 | exact .there sl9 | exact .there sl10 | exact .there sl11 | exact .there sl12) (.cons (A := oksH _) (by with_reducible first | exact sl0 | exact .there sl0 | exact .there sl1 | exact .there sl2 | exact .there sl3 | exact .there sl4 | exact .there sl5 | exact .there sl6 | exact .there sl7 | exact .there sl8 | exact .there sl9 | exact .there sl10 | exact .there sl11 | exact .there sl12) (.same _))))
  refine call10 (Write_arena h (by omega) rp (by simp) (by rw [hfl]; omega) (fun h0 => absurd (by rw [hfl]; unfold inA; omega) h0) fun _ w9 h => ⟨((0 : Int), ()), rfl, ?_⟩)
  rw [hfl, Int.toNat_natCast] at h
  have h := (unpack2 h.p1).drop
  have hm2 : (wrA (List.replicate (2500 : Int).toNat 0) at0 A).length = 2500 := by rw [wrA_len (by omega)]; exact hm
  refine jn.bool false (fun J hJ => cs.no rfl hJ) ?_
  refine jn.bool false (fun J hJ => cs.no rfl ?_) ?_
  · refine call11 (Cost_arena (Ok.emb (h) (.cons (A := arenaP b1 _ _) (by with_reducible first | exact sl0 | exact .there sl0 | exact .there sl1 | exact .there sl2 | exact .there sl3 | exact .there sl4 | exact .there sl5 | exact .there sl6 | exact .there sl7 | exact .there sl8 | exact .there sl9 | exact .there sl10 | exact .there sl11 | exact .there sl12) (.same _))) ⟨((w64 (0 + (A.length : Int)) : Int), ()), rfl, ?_⟩)
    refine call11 (Cost_arena (Ok.emb (h) (.cons (A := arenaP b2 _ _) (by with_reducible first | exact sl0 | exact .there sl0 | exact .there sl1 | exact .there sl2 | exact .there sl3 | exact .there sl4 | exact .there sl5 | exact .there sl6 | exact .there sl7 | exact .there sl8 | exact .there sl9 | exact .there sl10 | exact .there sl11 | exact .there sl12) (.same _))) ⟨((w64 (0 + (A.length : Int)) : Int), ()), rfl, ?_⟩)
    rw [bne_self_eq_false]
    exact hJ
  refine jn.bool false (fun J hJ => cs.no rfl ?_) ?_
  · refine call11 (Cost_arena (Ok.emb (h) (.cons (A := arenaP b1 _ _) (by with_reducible first | exact sl0 | exact .there sl0 | exact .there sl1 | exact .there sl2 | exact .there sl3 | exact .there sl4 | exact .there sl5 | exact .there sl6 | exact .there sl7 | exact .there sl8 | exact .there sl9 | exact .there sl10 | exact .there sl11 | exact .there sl12) (.same _))) ⟨((w64 (0 + (A.length : Int)) : Int), ()), rfl, ?_⟩)
    dsimp only
    rw [w64_in (by omega) (by omega), ht, Int.zero_add, bne_self_eq_false]
    exact hJ
  refine cs.no rfl ?_
  have ed : ∀ m : List UInt8, m.length = 2500 → (m.drop (0 : Int).toNat).take (2500 : Int).toNat = m := fun m hm => by
    rw [show (0 : Int).toNat = 0 from rfl, List.drop_zero, List.take_of_length_le (by omega)]
  refine call12 (Read_arena (Ok.emb (h) (.cons (A := arenaP b1 _ _) (by with_reducible first | exact sl0 | exact .there sl0 | exact .there sl1 | exact .there sl2 | exact .there sl3 | exact .there sl4 | exact .there sl5 | exact .there sl6 | exact .there sl7 | exact .there sl8 | exact .there sl9 | exact .there sl10 | exact .there sl11 | exact .there sl12) (.same _))) (by omega) (fun h0 => absurd (by unfold inA; omega) h0) fun _ s1 w10 hs1 h => ⟨(s1, (0 : Int), ()), rfl, ?_⟩)
  rw [ed _ hm2] at h
  refine call12 (Read_arena (Ok.emb (h) (.cons (A := arenaP b2 _ _) (by with_reducible first | exact sl0 | exact .there sl0 | exact .there sl1 | exact .there sl2 | exact .there sl3 | exact .there sl4 | exact .there sl5 | exact .there sl6 | exact .there sl7 | exact .there sl8 | exact .there sl9 | exact .there sl10 | exact .there sl11 | exact .there sl12) (.same _))) (by omega) (fun h0 => absurd (by unfold inA; omega) h0) fun _ s2 w11 hs2 h => ⟨(s2, (0 : Int), ()), rfl, ?_⟩)
  rw [ed _ hm2] at h
  refine dr.mk h fun w12 h => ?_
  refine jn.bool true (fun J hJ => ?_) ⟨rfl, (h.emb (by repeat' (first | with_reducible exact Emb.same _ | exact Emb.nil _ | refine Emb.cons (by with_reducible first | exact sl0 | exact .there sl0 | exact .there sl1 | exact .there sl2 | exact .there sl3 | exact .there sl4 | exact .there sl5 | exact .there sl6 | exact .there sl7 | exact .there sl8 | exact .there sl9 | exact .there sl10 | exact .there sl11 | exact .there sl12) ?_ | refine Emb.skip ?_)))⟩
  have h := (Ok.emb (h) (.cons (A := slc 1 s1 _) (by with_reducible first | exact sl0 | exact .there sl0 | exact .there sl1 | exact .there sl2 | exact .there sl3 | exact .there sl4 | exact .there sl5 | exact .there sl6 | exact .there sl7 | exact .there sl8 | exact .there sl9 | exact .there sl10 | exact .there sl11 | exact .there sl12) (.same _)))
  refine tx.mkS bsT h ?_
  refine tx.mkS bsT (Ok.emb (h) (.cons (A := slc 1 s2 _) (by with_reducible first | exact sl0 | exact .there sl0 | exact .there sl1 | exact .there sl2 | exact .there sl3 | exact .there sl4 | exact .there sl5 | exact .there sl6 | exact .there sl7 | exact .there sl8 | exact .there sl9 | exact .there sl10 | exact .there sl11 | exact .there sl12) (.same _))) ?_
  refine cs.yes (str_eq _) ?_
  have hw : w64 ((at0 : Int) + (t.len : Int)) = ((at0 + A.length : Nat) : Int) := by rw [w64_in (by omega) (by omega)]; omega
  dsimp only
  rw [hw]
  have hs1 : s1.len = 2500 := hs1
  refine sb_both h (by omega) (by omega) (by omega) fun x hsub hr => ?_
  rw [Int.toNat_natCast, Int.toNat_natCast, wrA_take (by omega)] at hr
  refine tx.mk bsT h hr ?_
  refine tx.mkS bsT (Ok.emb (h) (.cons (A := slc 1 t _) (by with_reducible first | exact sl0 | exact .there sl0 | exact .there sl1 | exact .there sl2 | exact .there sl3 | exact .there sl4 | exact .there sl5 | exact .there sl6 | exact .there sl7 | exact .there sl8 | exact .there sl9 | exact .there sl10 | exact .there sl11 | exact .there sl12) (.same _))) ?_
  rw [str_eq]
  exact hJ

end Go.Proofs.Ytlcmilmnecpokaa.B
