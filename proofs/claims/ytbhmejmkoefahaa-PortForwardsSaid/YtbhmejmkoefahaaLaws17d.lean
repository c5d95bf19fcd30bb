/- Laws of layer 17: PortForwards. -/
import Derived.Test.YtbhmejmkoefahaaLaws17
namespace Go.Proofs.Ytbhmejmkoefahaa.B
open Go
set_option linter.unusedVariables false

theorem slT_port : SlT Pg 40 1 := .of (by kernel_rfl)

theorem ix_v1 {e w L s vs} {i : Int} {f} (h : Ok e (slc 1 s vs :: L) w) (h0 : 0 ≤ i) (h1 : i < s.len) (k : ∀ b o v, vs[i.toNat]? = some v → (∀ w', (∃ L', Ok e (slc 1 s vs :: L') w') → w'.cell? ⟨b, o, none⟩ = some v) → f b o) : ix s i 1 f := by
  obtain ⟨hl, hv, hc, hcase⟩ := h.slcE
  rcases hcase with ⟨ha, hcap, hL⟩ | ⟨b, post, ha, hp, hk⟩
  · omega
  · have hlt : i.toNat < vs.length := by omega
    refine ⟨b, 0, ha, h0, h1, k b _ _ (List.getElem?_eq_getElem hlt) ?_⟩
    rintro w' ⟨L', h'⟩
    have := h'.slc_cells ha (i.toNat * 1) vs[i.toNat] (by rw [Nat.mul_one]; exact List.getElem?_eq_getElem hlt)
    rw [add_off] at this
    exact this

def ptrs (bl : List Nat) : List Value := bl.map fun b => .pointer (some ⟨b, 0, none⟩)
def pz (b : Nat) : SP := portP b false 20 pp0

/-- a port with the caller 1, its message l -/
def pcl (l : List UInt8) : PP := ⟨[(1, 4)], [], updI (fun _ => 0) 1 1, updI (fun _ => []) 1 l, [], 0⟩
def pac (l : List UInt8) : PP := ⟨[], [], updI (fun _ => 0) 1 1, updI (fun _ => []) 1 l, [(1, 1, 4)], 1⟩
def pen (l : List UInt8) : PP := ⟨[], [], updI (fun _ => 0) 1 1, updI (fun _ => []) 1 l, [], 1⟩

theorem pcl_call {l : List UInt8} (hl : (l.length : Int) ≤ 20) : pp0.call false 20 1 4 1 l = ((0, 0, [], false, 0), pcl l) := call_1 hl (by decide)
theorem pcl_acc {l : List UInt8} : (pcl l).accept 2 1 1 = ((1, 1, l, true, 0), pac l) := accept_1
theorem pac_reply {l : List UInt8} : (pac l).reply 20 1 0 = ((1, 0), pen l) := reply_1 (by decide)
theorem pac_fwd {l l' : List UInt8} (hl : (l'.length : Int) ≤ 20) : (pac l).fwd pp0 false 20 1 1 l' = ((0, 0, [], false, 0), pen l, pcl l') := by
  have e1 : (pac l).fi 1 = 0 := fi_1
  have e2 : (pac l).oAt 1 = (1, 1, 4) := by
    unfold PP.oAt
    rw [e1]
    rfl
  unfold PP.fwd
  rw [e1, if_neg (by decide), if_neg (by omega), e2]
  rw [if_neg (by
    have : pp0.inP 1 = false := rfl
    rw [this]; decide), pcl_call hl]
  rfl

theorem pcl_ok {l : List UInt8} (hl : l.length ≤ 20) : PPo 8 (pcl l) := pps_ok okL_1 (fun j hj => by simp at hj; subst hj; rw [updI_same]; omega) (by simp) ⟨by decide, by decide⟩
theorem pac_ok {l : List UInt8} : PPo 8 (pac l) := pps_ok okL_nil (fun j hj => by simp at hj) (by simp) ⟨by decide, by decide⟩
theorem pen_ok {l : List UInt8} : PPo 8 (pen l) := pps_ok okL_nil (fun j hj => by simp at hj) (by simp) ⟨by decide, by decide⟩

theorem ptrs_get {bl : List Nat} {i : Nat} {v : Value} (h : (ptrs bl)[i]? = some v) : ∃ b, bl[i]? = some b ∧ v = .pointer (some ⟨b, 0, none⟩) := by
  unfold ptrs at h
  rw [List.getElem?_map] at h
  cases hb : bl[i]? with
  | none => rw [hb] at h; simp at h
  | some b => rw [hb] at h; exact ⟨b, rfl, by simpa using h.symm⟩

theorem pz_drop {bl : List Nat} {i b : Nat} (h : bl[i]? = some b) : (bl.drop i).map pz = pz b :: (bl.drop (i + 1)).map pz := by
  obtain ⟨hl, hb⟩ := List.getElem?_eq_some_iff.1 h
  rw [List.drop_eq_getElem_cons hl, hb]
  rfl

set_option maxHeartbeats 8000000 in
theorem PortForwards_walk {e : World} {a0 : Sl} {vs : List Value} (ha : ArgF [.s (.i .u8)] e a0 vs) : sh4 a0 (LawEnd e) e := by
  unfold sh4
  refine call7 (known_17 (Ok.start e) fun w1 h => ⟨(true, ()), enc_b rfl, ?_⟩)
  refine cs.no rfl ?_
  refine jn.g (0 < a0.len ∧ a0.len ≤ 8) (fun J hJ => cs.mk (fun h1 => hJ true (fun h => by cases h)) (fun h1 => hJ _ fun h2 => ?_)) fun c1 hc1 => ?_
  · have := of_decide_eq_false h2
    have := ne_of_beq_false h1
    omega
  refine cs.mk (fun _ => ⟨rfl, h⟩) (fun h1 => ?_)
  obtain ⟨g1, g2⟩ := hc1 h1
  clear hc1 h1
  have hm : ∀ i, i < a0.len → ∃ x l, vs[i]? = some (vS x) ∧ RdB e (old e) x l := by
    intro i hi
    obtain ⟨v, hv, hf⟩ := ha.2 i hi 0 _ rfl
    obtain ⟨x, l, rfl, r⟩ := fk_b hf
    exact ⟨x, l, by simpa using hv, r⟩
  have hix : ∀ (i : Nat) (x : Sl) (f : Nat → Nat → Prop), i < a0.len → vs[i]? = some (vS x) → (∀ b o, (∀ w', (∃ L', Ok e (old e :: L') w') → w'.cell? ⟨b, o, none⟩ = some (vS x)) → f b o) → ix a0 (i : Int) 1 f := by
    intro i x f hi hv k
    exact ix_args ha.1 (by decide) (Int.natCast_nonneg _) (by omega) fun b o hh => k b o (fun w' hw => hh 0 _ (by decide) (by simpa using hv) w' hw)
  refine lp.mk (fun t w' => ∃ (i : Nat) (bl : List Nat), t.2.1 = (i : Int) ∧ i ≤ a0.len ∧ bl.length = i ∧ t.1.len = i ∧ (∀ j, j < i → ∀ x, vs[j]? = some (vS x) → x.len ≤ 20) ∧ Ok e (slc 1 t.1 (ptrs bl) :: old e :: bl.map pz) w') (fun t _ => a0.len - t.2.1.toNat)
    ⟨0, [], rfl, Nat.zero_le _, rfl, rfl, fun j hj => absurd hj (Nat.not_lt_zero _), h.slcNil 1⟩ ?_
  clear h
  rintro ⟨(t : Sl), (i' : Int), _⟩ w2 ⟨i, bl, hi, hi1, hbl, ht, hx, h⟩
  dsimp only at hi ht h
  subst hi
  refine cs.mk (fun hlt => ?_) (fun hge => ?_)
  · have hlt : i < a0.len := by have := of_decide_eq_true hlt; dsimp only at this; omega
    obtain ⟨x, l, hv, r⟩ := hm i hlt
    refine hix i x _ hlt hv fun bb oo hc => ldS.mk (hc _ ⟨_, h.p1⟩) ?_
    refine cs.mk (fun _ => ⟨rfl, h.p1.only⟩) (fun h20 => ?_)
    have h20 : x.len ≤ 20 := by have := of_decide_eq_false h20; omega
    refine call8 (New_por h (fun h0 => absurd (by decide) h0) fun _ b w3 h => ⟨(some ⟨b, 0, none⟩, (0 : Int), ()), rfl, ?_⟩)
    refine al.mk h fun b4 w4 h => ?_
    have h := (Ok.emb (h) (.cons (A := pts b4 _) (by with_reducible first | exact sl0 | exact .there sl0 | exact .there sl1 | exact .there sl2 | exact .there sl3 | exact .there sl4 | exact .there sl5 | exact .there sl6 | exact .there sl7 | exact .there sl8 | exact .there sl9 | exact .there sl10 | exact .there sl11 | exact .there sl12) (.cons (A := slc 1 t _) (by with_reducible first | exact sl0 | exact .there sl0 | exact .there sl1 | exact .there sl2 | exact .there sl3 | exact .there sl4 | exact .there sl5 | exact .there sl6 | exact .there sl7 | exact .there sl8 | exact .there sl9 | exact .there sl10 | exact .there sl11 | exact .there sl12) (.same _))))
    refine ef.append1 (us := [.pointer (some ⟨b, 0, none⟩)]) slT_port (by decide) h rfl (by simp [Value.oneCell']) (by dsimp only; omega) fun s' w5 hl2 h => ?_
    have hw : w64 ((i : Int) + 1) = ((i + 1 : Nat) : Int) := by rw [w64_in (by omega) (by omega)]; rfl
    dsimp only at hl2 ⊢
    rw [hw]
    have e1 : ptrs bl ++ [.pointer (some ⟨b, 0, none⟩)] = ptrs (bl ++ [b]) := by simp [ptrs]
    rw [e1] at h
    refine ⟨⟨i + 1, bl ++ [b], rfl, hlt, by simp [hbl], by show s'.len = _; omega, fun j hj x' hx' => ?_, ?_⟩, ?_⟩
    · by_cases hji : j < i
      · exact hx j hji x' hx'
      · obtain rfl : j = i := by omega
        rw [hv] at hx'
        obtain rfl : x = x' := by
          have := Option.some.inj hx'
          cases x; cases x'; simp [vS] at this; obtain ⟨rfl, rfl, rfl⟩ := this; rfl
        exact h20
    · rw [List.map_append]
      exact h.perm (List.Perm.cons _ (List.perm_append_comm (l₁ := [pz b]) (l₂ := old e :: bl.map pz)))
    · show a0.len - Int.toNat ((i + 1 : Nat) : Int) < a0.len - Int.toNat (i : Int)
      omega
  have hin : i = a0.len := by have := of_decide_eq_false hge; dsimp only at this; omega
  have hxa : ∀ j, j < a0.len → ∃ x l, vs[j]? = some (vS x) ∧ RdB e (old e) x l ∧ x.len ≤ 20 ∧ l.length ≤ 20 := by
    intro j hj
    obtain ⟨x, l, hv, r⟩ := hm j hj
    have h1 := hx j (by omega) x hv
    have h2 := r.len
    exact ⟨x, l, hv, r, h1, by omega⟩
  have hbn : bl.length = a0.len := by omega
  have htn : t.len = a0.len := by omega
  clear hge hx hi1 ht hbl hin
  obtain ⟨x0, l0, hv0, r0, hx0, hl0⟩ := hxa 0 g1
  refine dr.mk h fun w3 h => ?_
  refine ix_v1 h (Int.le_refl _) (by first | omega | (dsimp only; omega)) fun bp op v hvp hcp => ?_
  obtain ⟨b0, hb0, rfl⟩ := ptrs_get hvp
  replace hb0 : bl[0]? = some b0 := hb0
  refine ldP.mk (hcp _ ⟨_, h⟩) ?_
  refine hix 0 x0 _ g1 hv0 fun bb oo hc => ldS.mk (hc _ ⟨_, h.p1⟩) ?_
  have e0 : bl.map pz = portP b0 false 20 pp0 :: (bl.drop 1).map pz := by
    have := pz_drop hb0
    rwa [List.drop_zero] at this
  rw [e0] at h
  have hl0' : (l0.length : Int) ≤ 20 := by omega
  refine ⟨?fa, ?fb⟩
  case' fa =>
    refine call9 (Call_por (Ok.emb (h) (.cons (A := portP b0 _ _ _) (by with_reducible first | exact sl0 | exact .there sl0 | exact .there sl1 | exact .there sl2 | exact .there sl3 | exact .there sl4 | exact .there sl5 | exact .there sl6 | exact .there sl7 | exact .there sl8 | exact .there sl9 | exact .there sl10 | exact .there sl11 | exact .there sl12) (.cons (A := old e) (by with_reducible first | exact sl0 | exact .there sl0 | exact .there sl1 | exact .there sl2 | exact .there sl3 | exact .there sl4 | exact .there sl5 | exact .there sl6 | exact .there sl7 | exact .there sl8 | exact .there sl9 | exact .there sl10 | exact .there sl11 | exact .there sl12) (.same _)))) r0 pp0_ok (by decide) (by decide) fun y w6 h => ⟨(((0 : Int), (0 : Int), y, false, ()), (0 : Int), ()), by rw [pcl_call hl0']; rfl, ?_⟩)
    rw [pcl_call hl0'] at h
    refine al.mk h fun bm w7 h => ?_
    have h := (Ok.emb (h) (.cons (A := slc 1 t _) (by with_reducible first | exact sl0 | exact .there sl0 | exact .there sl1 | exact .there sl2 | exact .there sl3 | exact .there sl4 | exact .there sl5 | exact .there sl6 | exact .there sl7 | exact .there sl8 | exact .there sl9 | exact .there sl10 | exact .there sl11 | exact .there sl12) (.cons (A := old e) (by with_reducible first | exact sl0 | exact .there sl0 | exact .there sl1 | exact .there sl2 | exact .there sl3 | exact .there sl4 | exact .there sl5 | exact .there sl6 | exact .there sl7 | exact .there sl8 | exact .there sl9 | exact .there sl10 | exact .there sl11 | exact .there sl12) (.same _))))
    refine ⟨hc _ ⟨_, h.p1⟩, hcp _ ⟨_, h⟩, ?_⟩
  case' fb =>
    refine al.mk h fun bm w6 h => ?_
    have h := (Ok.emb (h) (.cons (A := slc 1 t _) (by with_reducible first | exact sl0 | exact .there sl0 | exact .there sl1 | exact .there sl2 | exact .there sl3 | exact .there sl4 | exact .there sl5 | exact .there sl6 | exact .there sl7 | exact .there sl8 | exact .there sl9 | exact .there sl10 | exact .there sl11 | exact .there sl12) (.cons (A := old e) (by with_reducible first | exact sl0 | exact .there sl0 | exact .there sl1 | exact .there sl2 | exact .there sl3 | exact .there sl4 | exact .there sl5 | exact .there sl6 | exact .there sl7 | exact .there sl8 | exact .there sl9 | exact .there sl10 | exact .there sl11 | exact .there sl12) (.same _))))
    refine ⟨hc _ ⟨_, h.p1⟩, hcp _ ⟨_, h⟩, ?_⟩
    refine call9 (Call_por (Ok.emb (h) (.cons (A := portP b0 _ _ _) (by with_reducible first | exact sl0 | exact .there sl0 | exact .there sl1 | exact .there sl2 | exact .there sl3 | exact .there sl4 | exact .there sl5 | exact .there sl6 | exact .there sl7 | exact .there sl8 | exact .there sl9 | exact .there sl10 | exact .there sl11 | exact .there sl12) (.cons (A := old e) (by with_reducible first | exact sl0 | exact .there sl0 | exact .there sl1 | exact .there sl2 | exact .there sl3 | exact .there sl4 | exact .there sl5 | exact .there sl6 | exact .there sl7 | exact .there sl8 | exact .there sl9 | exact .there sl10 | exact .there sl11 | exact .there sl12) (.same _)))) r0 pp0_ok (by decide) (by decide) fun y w7 h => ⟨(((0 : Int), (0 : Int), y, false, ()), (0 : Int), ()), by rw [pcl_call hl0']; rfl, ?_⟩)
    rw [pcl_call hl0'] at h
  all_goals
    have h := (Ok.emb (h) (.cons (A := pts bm _) (by with_reducible first | exact sl0 | exact .there sl0 | exact .there sl1 | exact .there sl2 | exact .there sl3 | exact .there sl4 | exact .there sl5 | exact .there sl6 | exact .there sl7 | exact .there sl8 | exact .there sl9 | exact .there sl10 | exact .there sl11 | exact .there sl12) (.same _)))
    (repeat (first | with_reducible refine dr.mk h fun _ h => ?_ | with_reducible refine nn.mk ?_ | ((first | with_reducible apply ldI.mk | with_reducible apply ldB.mk | with_reducible apply ldP.mk | with_reducible apply ldS.mk | with_reducible apply ldM.mk | with_reducible apply ldF.mk | with_reducible apply ldG.mk); (· exact (by refine Ok.cellS h (by with_reducible first | exact sl0 | exact .there sl0 | exact .there sl1 | exact .there sl2 | exact .there sl3 | exact .there sl4 | exact .there sl5 | exact .there sl6 | exact .there sl7 | exact .there sl8 | exact .there sl9 | exact .there sl10 | exact .there sl11 | exact .there sl12) ?_; rfl))) | (refine st1.mk (Ok.bring h (by with_reducible first | exact sl0 | exact .there sl0 | exact .there sl1 | exact .there sl2 | exact .there sl3 | exact .there sl4 | exact .there sl5 | exact .there sl6 | exact .there sl7 | exact .there sl8 | exact .there sl9 | exact .there sl10 | exact .there sl11 | exact .there sl12)) (by simp) fun _ h => ?_; dsimp only [List.set] at h)))
    have h := ((Ok.emb (h) (.cons (A := rdb y _) (by with_reducible first | exact sl0 | exact .there sl0 | exact .there sl1 | exact .there sl2 | exact .there sl3 | exact .there sl4 | exact .there sl5 | exact .there sl6 | exact .there sl7 | exact .there sl8 | exact .there sl9 | exact .there sl10 | exact .there sl11 | exact .there sl12) (.cons (A := pts bm _) (by with_reducible first | exact sl0 | exact .there sl0 | exact .there sl1 | exact .there sl2 | exact .there sl3 | exact .there sl4 | exact .there sl5 | exact .there sl6 | exact .there sl7 | exact .there sl8 | exact .there sl9 | exact .there sl10 | exact .there sl11 | exact .there sl12) (.cons (A := slc 1 t _) (by with_reducible first | exact sl0 | exact .there sl0 | exact .there sl1 | exact .there sl2 | exact .there sl3 | exact .there sl4 | exact .there sl5 | exact .there sl6 | exact .there sl7 | exact .there sl8 | exact .there sl9 | exact .there sl10 | exact .there sl11 | exact .there sl12) (.cons (A := portP b0 _ _ _) (by with_reducible first | exact sl0 | exact .there sl0 | exact .there sl1 | exact .there sl2 | exact .there sl3 | exact .there sl4 | exact .there sl5 | exact .there sl6 | exact .there sl7 | exact .there sl8 | exact .there sl9 | exact .there sl10 | exact .there sl11 | exact .there sl12) (.cons (A := old e) (by with_reducible first | exact sl0 | exact .there sl0 | exact .there sl1 | exact .there sl2 | exact .there sl3 | exact .there sl4 | exact .there sl5 | exact .there sl6 | exact .there sl7 | exact .there sl8 | exact .there sl9 | exact .there sl10 | exact .there sl11 | exact .there sl12) (.same _)))))))).drop.drop
    refine jn.bool false (fun J hJ => cs.no rfl hJ) ?_
    refine cs.no rfl ?_
    clear hcp hc e0 hvp
    refine lp.mk (fun t1 w' => ∃ (i b : Nat) (x : Sl) (l : List UInt8), t1.1 = (i : Int) ∧ i < a0.len ∧ bl[i]? = some b ∧ vs[i]? = some (vS x) ∧ RdB e (old e) x l ∧ l.length ≤ 20 ∧ Ok e (slc 1 t (ptrs bl) :: portP b false 20 (pcl l) :: old e :: (bl.drop (i + 1)).map pz) w') (fun t1 _ => a0.len - t1.1.toNat)
      ⟨0, b0, x0, l0, rfl, g1, hb0, hv0, r0, hl0, h⟩ ?_
    clear h
    rintro ⟨(j' : Int), _⟩ w8 ⟨j, b, x, l, hj, hj1, hb, hv, r, hl, h⟩
    dsimp only at hj
    subst hj
    have hxl := r.len
    refine cs.yes (by simpa using hj1) ?_
    refine ix_v1 h (Int.natCast_nonneg _) (by first | omega | (dsimp only; omega)) fun bp op v hvp hcp => ?_
    obtain ⟨b', hb', rfl⟩ := ptrs_get hvp
    rw [Int.toNat_natCast, hb] at hb'
    cases hb'
    refine ldP.mk (hcp _ ⟨_, h⟩) ?_
    refine call10 (Accept_por (Ok.emb (h) (.cons (A := portP b _ _ _) (by with_reducible first | exact sl0 | exact .there sl0 | exact .there sl1 | exact .there sl2 | exact .there sl3 | exact .there sl4 | exact .there sl5 | exact .there sl6 | exact .there sl7 | exact .there sl8 | exact .there sl9 | exact .there sl10 | exact .there sl11 | exact .there sl12) (.same _))) (pcl_ok hl) (by decide) fun y w9 h => ⟨(((1 : Int), (1 : Int), y, true, ()), (0 : Int), ()), by rw [pcl_acc]; rfl, ?_⟩)
    rw [pcl_acc] at h
    dsimp only at h
    refine al.mk h fun bm w10 h => ?_
    (repeat (first | with_reducible refine dr.mk h fun _ h => ?_ | with_reducible refine nn.mk ?_ | ((first | with_reducible apply ldI.mk | with_reducible apply ldB.mk | with_reducible apply ldP.mk | with_reducible apply ldS.mk | with_reducible apply ldM.mk | with_reducible apply ldF.mk | with_reducible apply ldG.mk); (· exact (by refine Ok.cellS h (by with_reducible first | exact sl0 | exact .there sl0 | exact .there sl1 | exact .there sl2 | exact .there sl3 | exact .there sl4 | exact .there sl5 | exact .there sl6 | exact .there sl7 | exact .there sl8 | exact .there sl9 | exact .there sl10 | exact .there sl11 | exact .there sl12) ?_; rfl))) | (refine st1.mk (Ok.bring h (by with_reducible first | exact sl0 | exact .there sl0 | exact .there sl1 | exact .there sl2 | exact .there sl3 | exact .there sl4 | exact .there sl5 | exact .there sl6 | exact .there sl7 | exact .there sl8 | exact .there sl9 | exact .there sl10 | exact .there sl11 | exact .there sl12)) (by simp) fun _ h => ?_; dsimp only [List.set] at h)))
    refine jn.at (false, ()) (fun w' => Ok e (slc 1 t (ptrs bl) :: old e :: pts bm [.int .i64 1, .int .i64 1, vS y, .bool true] :: portP b false 20 (pac l) :: (bl.drop (j + 1)).map pz) w') (fun J hJ => ?_) (fun w12 h => ?_)
    · refine ldB.mk (x := true) (by refine Ok.cellS h (by with_reducible first | exact sl0 | exact .there sl0 | exact .there sl1 | exact .there sl2 | exact .there sl3 | exact .there sl4 | exact .there sl5 | exact .there sl6 | exact .there sl7 | exact .there sl8 | exact .there sl9 | exact .there sl10 | exact .there sl11 | exact .there sl12) ?_; rfl) (cs.no rfl (ldI.mk (x := 1) (by refine Ok.cellS h (by with_reducible first | exact sl0 | exact .there sl0 | exact .there sl1 | exact .there sl2 | exact .there sl3 | exact .there sl4 | exact .there sl5 | exact .there sl6 | exact .there sl7 | exact .there sl8 | exact .there sl9 | exact .there sl10 | exact .there sl11 | exact .there sl12) ?_; rfl) (cs.no rfl (ldS.mk (x := y) (by refine Ok.cellS h (by with_reducible first | exact sl0 | exact .there sl0 | exact .there sl1 | exact .there sl2 | exact .there sl3 | exact .there sl4 | exact .there sl5 | exact .there sl6 | exact .there sl7 | exact .there sl8 | exact .there sl9 | exact .there sl10 | exact .there sl11 | exact .there sl12) ?_; rfl) (tx.mkR bsT (Ok.emb (h) (.cons (A := rdb y _) (by with_reducible first | exact sl0 | exact .there sl0 | exact .there sl1 | exact .there sl2 | exact .there sl3 | exact .there sl4 | exact .there sl5 | exact .there sl6 | exact .there sl7 | exact .there sl8 | exact .there sl9 | exact .there sl10 | exact .there sl11 | exact .there sl12) (.same _))) ?_)))))
      refine hix j x _ hj1 hv fun bb oo hc => ldS.mk (hc _ ⟨_, (Ok.emb (h) (.cons (A := old e) (by with_reducible first | exact sl0 | exact .there sl0 | exact .there sl1 | exact .there sl2 | exact .there sl3 | exact .there sl4 | exact .there sl5 | exact .there sl6 | exact .there sl7 | exact .there sl8 | exact .there sl9 | exact .there sl10 | exact .there sl11 | exact .there sl12) (.same _)))⟩) ?_
      refine tx.mk bsT (Ok.emb (h) (.cons (A := old e) (by with_reducible first | exact sl0 | exact .there sl0 | exact .there sl1 | exact .there sl2 | exact .there sl3 | exact .there sl4 | exact .there sl5 | exact .there sl6 | exact .there sl7 | exact .there sl8 | exact .there sl9 | exact .there sl10 | exact .there sl11 | exact .there sl12) (.same _))) r ?_
      rw [str_eq]
      exact cs.no rfl (hJ _ ((Ok.emb (h) (.cons (A := rdb y _) (by with_reducible first | exact sl0 | exact .there sl0 | exact .there sl1 | exact .there sl2 | exact .there sl3 | exact .there sl4 | exact .there sl5 | exact .there sl6 | exact .there sl7 | exact .there sl8 | exact .there sl9 | exact .there sl10 | exact .there sl11 | exact .there sl12) (.cons (A := slc 1 t _) (by with_reducible first | exact sl0 | exact .there sl0 | exact .there sl1 | exact .there sl2 | exact .there sl3 | exact .there sl4 | exact .there sl5 | exact .there sl6 | exact .there sl7 | exact .there sl8 | exact .there sl9 | exact .there sl10 | exact .there sl11 | exact .there sl12) (.cons (A := old e) (by with_reducible first | exact sl0 | exact .there sl0 | exact .there sl1 | exact .there sl2 | exact .there sl3 | exact .there sl4 | exact .there sl5 | exact .there sl6 | exact .there sl7 | exact .there sl8 | exact .there sl9 | exact .there sl10 | exact .there sl11 | exact .there sl12) (.cons (A := pts bm _) (by with_reducible first | exact sl0 | exact .there sl0 | exact .there sl1 | exact .there sl2 | exact .there sl3 | exact .there sl4 | exact .there sl5 | exact .there sl6 | exact .there sl7 | exact .there sl8 | exact .there sl9 | exact .there sl10 | exact .there sl11 | exact .there sl12) (.cons (A := portP b _ _ _) (by with_reducible first | exact sl0 | exact .there sl0 | exact .there sl1 | exact .there sl2 | exact .there sl3 | exact .there sl4 | exact .there sl5 | exact .there sl6 | exact .there sl7 | exact .there sl8 | exact .there sl9 | exact .there sl10 | exact .there sl11 | exact .there sl12) (.same _)))))))).drop)
    refine cs.no rfl ?_
    have hw : w64 ((j : Int) + 1) = ((j + 1 : Nat) : Int) := by rw [w64_in (by omega) (by omega)]; rfl
    refine cs.mk (fun hlast => ?_) (fun hlast => ?_)
    · refine dr.mk h fun w13 h => ?_
      refine ix_v1 h (Int.natCast_nonneg _) (by first | omega | (dsimp only; omega)) fun bq oq v hvq hcq => ?_
      obtain ⟨b', hb', rfl⟩ := ptrs_get hvq
      rw [Int.toNat_natCast, hb] at hb'
      cases hb'
      refine ldP.mk (hcq _ ⟨_, h⟩) (ldI.mk (x := 1) (by refine Ok.cellS h (by with_reducible first | exact sl0 | exact .there sl0 | exact .there sl1 | exact .there sl2 | exact .there sl3 | exact .there sl4 | exact .there sl5 | exact .there sl6 | exact .there sl7 | exact .there sl8 | exact .there sl9 | exact .there sl10 | exact .there sl11 | exact .there sl12) ?_; rfl) ?_)
      refine call11 (a2 := ⟨none, 0, 0⟩) (Reply_por (Ok.emb (h) (.cons (A := portP b _ _ _) (by with_reducible first | exact sl0 | exact .there sl0 | exact .there sl1 | exact .there sl2 | exact .there sl3 | exact .there sl4 | exact .there sl5 | exact .there sl6 | exact .there sl7 | exact .there sl8 | exact .there sl9 | exact .there sl10 | exact .there sl11 | exact .there sl12) (.same _))) pac_ok (by decide) fun w14 h => ⟨((1 : Int), (0 : Int), ()), by rw [pac_reply]; rfl, ?_⟩)
      refine jn.bool true (fun J hJ => cs.yes rfl hJ) ?_
      exact ⟨rfl, ((Ok.emb (h) (.cons (A := old e) (by with_reducible first | exact sl0 | exact .there sl0 | exact .there sl1 | exact .there sl2 | exact .there sl3 | exact .there sl4 | exact .there sl5 | exact .there sl6 | exact .there sl7 | exact .there sl8 | exact .there sl9 | exact .there sl10 | exact .there sl11 | exact .there sl12) (.same _)))).only⟩
    · have hlast : j + 1 < a0.len := by
        have := ne_of_beq_false hlast
        dsimp only at this
        rw [hw] at this
        omega
      obtain ⟨b2, hb2⟩ : ∃ b2, bl[j + 1]? = some b2 := ⟨_, List.getElem?_eq_getElem (by omega)⟩
      obtain ⟨x2, l2, hv2, r2, hx2, hl2⟩ := hxa (j + 1) hlast
      have hl2' : (l2.length : Int) ≤ 20 := by omega
      rw [pz_drop hb2] at h
      refine dr.mk h fun w13 h => ?_
      refine ix_v1 h (Int.natCast_nonneg _) (by first | omega | (dsimp only; omega)) fun bq oq v hvq hcq => ?_
      obtain ⟨b', hb', rfl⟩ := ptrs_get hvq
      rw [Int.toNat_natCast, hb] at hb'
      cases hb'
      refine ldP.mk (hcq _ ⟨_, h⟩) (ldI.mk (x := 1) (by refine Ok.cellS h (by with_reducible first | exact sl0 | exact .there sl0 | exact .there sl1 | exact .there sl2 | exact .there sl3 | exact .there sl4 | exact .there sl5 | exact .there sl6 | exact .there sl7 | exact .there sl8 | exact .there sl9 | exact .there sl10 | exact .there sl11 | exact .there sl12) ?_; rfl) ?_)
      dsimp only
      rw [hw]
      refine ix_v1 h (Int.natCast_nonneg _) (by first | omega | (dsimp only; omega)) fun bs os v hvs hcs => ?_
      obtain ⟨b', hb', rfl⟩ := ptrs_get hvs
      rw [Int.toNat_natCast, hb2] at hb'
      cases hb'
      refine ldP.mk (hcs _ ⟨_, h⟩) ?_
      refine hix (j + 1) x2 _ hlast hv2 fun bu ou hcu => ldS.mk (hcu _ ⟨_, h.p1⟩) ?_
      have h : Ok e (slc 1 t (ptrs bl) :: old e :: pts bm [.int .i64 1, .int .i64 1, vS y, .bool true] :: portP b false 20 (pac l) :: portP b2 false 20 pp0 :: (bl.drop (j + 1 + 1)).map pz) _ := h
      refine ⟨?_, ?_⟩
      all_goals
        first
          | (refine call13 (Forward_other (Ok.emb (h) (.cons (A := portP b _ _ _) (by with_reducible first | exact sl0 | exact .there sl0 | exact .there sl1 | exact .there sl2 | exact .there sl3 | exact .there sl4 | exact .there sl5 | exact .there sl6 | exact .there sl7 | exact .there sl8 | exact .there sl9 | exact .there sl10 | exact .there sl11 | exact .there sl12) (.cons (A := portP b2 _ _ _) (by with_reducible first | exact sl0 | exact .there sl0 | exact .there sl1 | exact .there sl2 | exact .there sl3 | exact .there sl4 | exact .there sl5 | exact .there sl6 | exact .there sl7 | exact .there sl8 | exact .there sl9 | exact .there sl10 | exact .there sl11 | exact .there sl12) (.cons (A := old e) (by with_reducible first | exact sl0 | exact .there sl0 | exact .there sl1 | exact .there sl2 | exact .there sl3 | exact .there sl4 | exact .there sl5 | exact .there sl6 | exact .there sl7 | exact .there sl8 | exact .there sl9 | exact .there sl10 | exact .there sl11 | exact .there sl12) (.same _))))) r2 pac_ok (pp0_ok.mono (Nat.zero_le _)) (by decide) (by decide) fun y3 w14 h => ⟨(((0 : Int), (0 : Int), y3, false, ()), (0 : Int), ()), by rw [pac_fwd hl2']; rfl, ?_⟩)
             rw [pac_fwd hl2'] at h
             dsimp only at h
             refine al.mk h fun bn w15 h => ?_
             have h := (Ok.emb (h) (.cons (A := slc 1 t _) (by with_reducible first | exact sl0 | exact .there sl0 | exact .there sl1 | exact .there sl2 | exact .there sl3 | exact .there sl4 | exact .there sl5 | exact .there sl6 | exact .there sl7 | exact .there sl8 | exact .there sl9 | exact .there sl10 | exact .there sl11 | exact .there sl12) (.cons (A := old e) (by with_reducible first | exact sl0 | exact .there sl0 | exact .there sl1 | exact .there sl2 | exact .there sl3 | exact .there sl4 | exact .there sl5 | exact .there sl6 | exact .there sl7 | exact .there sl8 | exact .there sl9 | exact .there sl10 | exact .there sl11 | exact .there sl12) (.same _))))
             refine ⟨hcu _ ⟨_, h.p1⟩, hcs _ ⟨_, h⟩, (by refine Ok.cellS h (by with_reducible first | exact sl0 | exact .there sl0 | exact .there sl1 | exact .there sl2 | exact .there sl3 | exact .there sl4 | exact .there sl5 | exact .there sl6 | exact .there sl7 | exact .there sl8 | exact .there sl9 | exact .there sl10 | exact .there sl11 | exact .there sl12) ?_; rfl), hcq _ ⟨_, h⟩, ?_⟩
             have h := (Ok.emb (h) (.cons (A := pts bn _) (by with_reducible first | exact sl0 | exact .there sl0 | exact .there sl1 | exact .there sl2 | exact .there sl3 | exact .there sl4 | exact .there sl5 | exact .there sl6 | exact .there sl7 | exact .there sl8 | exact .there sl9 | exact .there sl10 | exact .there sl11 | exact .there sl12) (.cons (A := rdb y3 _) (by with_reducible first | exact sl0 | exact .there sl0 | exact .there sl1 | exact .there sl2 | exact .there sl3 | exact .there sl4 | exact .there sl5 | exact .there sl6 | exact .there sl7 | exact .there sl8 | exact .there sl9 | exact .there sl10 | exact .there sl11 | exact .there sl12) (.same _))))
             (repeat (first | with_reducible refine dr.mk h fun _ h => ?_ | with_reducible refine nn.mk ?_ | ((first | with_reducible apply ldI.mk | with_reducible apply ldB.mk | with_reducible apply ldP.mk | with_reducible apply ldS.mk | with_reducible apply ldM.mk | with_reducible apply ldF.mk | with_reducible apply ldG.mk); (· exact (by refine Ok.cellS h (by with_reducible first | exact sl0 | exact .there sl0 | exact .there sl1 | exact .there sl2 | exact .there sl3 | exact .there sl4 | exact .there sl5 | exact .there sl6 | exact .there sl7 | exact .there sl8 | exact .there sl9 | exact .there sl10 | exact .there sl11 | exact .there sl12) ?_; rfl))) | (refine st1.mk (Ok.bring h (by with_reducible first | exact sl0 | exact .there sl0 | exact .there sl1 | exact .there sl2 | exact .there sl3 | exact .there sl4 | exact .there sl5 | exact .there sl6 | exact .there sl7 | exact .there sl8 | exact .there sl9 | exact .there sl10 | exact .there sl11 | exact .there sl12)) (by simp) fun _ h => ?_; dsimp only [List.set] at h))))
          | (refine al.mk h fun bn w14 h => ?_
             have h := (Ok.emb (h) (.cons (A := slc 1 t _) (by with_reducible first | exact sl0 | exact .there sl0 | exact .there sl1 | exact .there sl2 | exact .there sl3 | exact .there sl4 | exact .there sl5 | exact .there sl6 | exact .there sl7 | exact .there sl8 | exact .there sl9 | exact .there sl10 | exact .there sl11 | exact .there sl12) (.cons (A := old e) (by with_reducible first | exact sl0 | exact .there sl0 | exact .there sl1 | exact .there sl2 | exact .there sl3 | exact .there sl4 | exact .there sl5 | exact .there sl6 | exact .there sl7 | exact .there sl8 | exact .there sl9 | exact .there sl10 | exact .there sl11 | exact .there sl12) (.same _))))
             refine ⟨hcu _ ⟨_, h.p1⟩, hcs _ ⟨_, h⟩, (by refine Ok.cellS h (by with_reducible first | exact sl0 | exact .there sl0 | exact .there sl1 | exact .there sl2 | exact .there sl3 | exact .there sl4 | exact .there sl5 | exact .there sl6 | exact .there sl7 | exact .there sl8 | exact .there sl9 | exact .there sl10 | exact .there sl11 | exact .there sl12) ?_; rfl), hcq _ ⟨_, h⟩, ?_⟩
             refine call13 (Forward_other (Ok.emb (h) (.cons (A := portP b _ _ _) (by with_reducible first | exact sl0 | exact .there sl0 | exact .there sl1 | exact .there sl2 | exact .there sl3 | exact .there sl4 | exact .there sl5 | exact .there sl6 | exact .there sl7 | exact .there sl8 | exact .there sl9 | exact .there sl10 | exact .there sl11 | exact .there sl12) (.cons (A := portP b2 _ _ _) (by with_reducible first | exact sl0 | exact .there sl0 | exact .there sl1 | exact .there sl2 | exact .there sl3 | exact .there sl4 | exact .there sl5 | exact .there sl6 | exact .there sl7 | exact .there sl8 | exact .there sl9 | exact .there sl10 | exact .there sl11 | exact .there sl12) (.cons (A := old e) (by with_reducible first | exact sl0 | exact .there sl0 | exact .there sl1 | exact .there sl2 | exact .there sl3 | exact .there sl4 | exact .there sl5 | exact .there sl6 | exact .there sl7 | exact .there sl8 | exact .there sl9 | exact .there sl10 | exact .there sl11 | exact .there sl12) (.same _))))) r2 pac_ok (pp0_ok.mono (Nat.zero_le _)) (by decide) (by decide) fun y3 w15 h => ⟨(((0 : Int), (0 : Int), y3, false, ()), (0 : Int), ()), by rw [pac_fwd hl2']; rfl, ?_⟩)
             rw [pac_fwd hl2'] at h
             dsimp only at h
             have h := (Ok.emb (h) (.cons (A := pts bn _) (by with_reducible first | exact sl0 | exact .there sl0 | exact .there sl1 | exact .there sl2 | exact .there sl3 | exact .there sl4 | exact .there sl5 | exact .there sl6 | exact .there sl7 | exact .there sl8 | exact .there sl9 | exact .there sl10 | exact .there sl11 | exact .there sl12) (.cons (A := rdb y3 _) (by with_reducible first | exact sl0 | exact .there sl0 | exact .there sl1 | exact .there sl2 | exact .there sl3 | exact .there sl4 | exact .there sl5 | exact .there sl6 | exact .there sl7 | exact .there sl8 | exact .there sl9 | exact .there sl10 | exact .there sl11 | exact .there sl12) (.same _))))
             (repeat (first | with_reducible refine dr.mk h fun _ h => ?_ | with_reducible refine nn.mk ?_ | ((first | with_reducible apply ldI.mk | with_reducible apply ldB.mk | with_reducible apply ldP.mk | with_reducible apply ldS.mk | with_reducible apply ldM.mk | with_reducible apply ldF.mk | with_reducible apply ldG.mk); (· exact (by refine Ok.cellS h (by with_reducible first | exact sl0 | exact .there sl0 | exact .there sl1 | exact .there sl2 | exact .there sl3 | exact .there sl4 | exact .there sl5 | exact .there sl6 | exact .there sl7 | exact .there sl8 | exact .there sl9 | exact .there sl10 | exact .there sl11 | exact .there sl12) ?_; rfl))) | (refine st1.mk (Ok.bring h (by with_reducible first | exact sl0 | exact .there sl0 | exact .there sl1 | exact .there sl2 | exact .there sl3 | exact .there sl4 | exact .there sl5 | exact .there sl6 | exact .there sl7 | exact .there sl8 | exact .there sl9 | exact .there sl10 | exact .there sl11 | exact .there sl12)) (by simp) fun _ h => ?_; dsimp only [List.set] at h))))
        dsimp only
        refine jn.bool false (fun J hJ => cs.no rfl hJ) ?_
        refine jn.at (false, ()) (fun w' => Ok e (slc 1 t (ptrs bl) :: portP b2 false 20 (pcl l2) :: old e :: (bl.drop (j + 1 + 1)).map pz) w') (fun J hJ => cs.no rfl ?_) (fun w16 h => ?_)
        · have h := ((Ok.emb (h) (.cons (A := pts bn _) (by with_reducible first | exact sl0 | exact .there sl0 | exact .there sl1 | exact .there sl2 | exact .there sl3 | exact .there sl4 | exact .there sl5 | exact .there sl6 | exact .there sl7 | exact .there sl8 | exact .there sl9 | exact .there sl10 | exact .there sl11 | exact .there sl12) (.cons (A := rdb y3 _) (by with_reducible first | exact sl0 | exact .there sl0 | exact .there sl1 | exact .there sl2 | exact .there sl3 | exact .there sl4 | exact .there sl5 | exact .there sl6 | exact .there sl7 | exact .there sl8 | exact .there sl9 | exact .there sl10 | exact .there sl11 | exact .there sl12) (.cons (A := pts bm _) (by with_reducible first | exact sl0 | exact .there sl0 | exact .there sl1 | exact .there sl2 | exact .there sl3 | exact .there sl4 | exact .there sl5 | exact .there sl6 | exact .there sl7 | exact .there sl8 | exact .there sl9 | exact .there sl10 | exact .there sl11 | exact .there sl12) (.cons (A := slc 1 t _) (by with_reducible first | exact sl0 | exact .there sl0 | exact .there sl1 | exact .there sl2 | exact .there sl3 | exact .there sl4 | exact .there sl5 | exact .there sl6 | exact .there sl7 | exact .there sl8 | exact .there sl9 | exact .there sl10 | exact .there sl11 | exact .there sl12) (.same _))))))).drop.drop.drop
          refine ix_v1 h (Int.natCast_nonneg _) (by first | omega | (dsimp only; omega)) fun br or v hvr hcr => ?_
          obtain ⟨b', hb', rfl⟩ := ptrs_get hvr
          rw [Int.toNat_natCast, hb] at hb'
          cases hb'
          refine ldP.mk (hcr _ ⟨_, h⟩) ?_
          refine call12 (Open_por (Ok.emb (h) (.cons (A := portP b _ _ _) (by with_reducible first | exact sl0 | exact .there sl0 | exact .there sl1 | exact .there sl2 | exact .there sl3 | exact .there sl4 | exact .there sl5 | exact .there sl6 | exact .there sl7 | exact .there sl8 | exact .there sl9 | exact .there sl10 | exact .there sl11 | exact .there sl12) (.same _))) pen_ok (by decide) fun s w17 hs h => ⟨(s, ()), rfl, ?_⟩)
          have hs : s.len = 0 := hs
          dsimp only
          rw [hs]
          exact hJ _ ((Ok.emb (h) (.cons (A := slc 1 s _) (by with_reducible first | exact sl0 | exact .there sl0 | exact .there sl1 | exact .there sl2 | exact .there sl3 | exact .there sl4 | exact .there sl5 | exact .there sl6 | exact .there sl7 | exact .there sl8 | exact .there sl9 | exact .there sl10 | exact .there sl11 | exact .there sl12) (.cons (A := portP b _ _ _) (by with_reducible first | exact sl0 | exact .there sl0 | exact .there sl1 | exact .there sl2 | exact .there sl3 | exact .there sl4 | exact .there sl5 | exact .there sl6 | exact .there sl7 | exact .there sl8 | exact .there sl9 | exact .there sl10 | exact .there sl11 | exact .there sl12) (.cons (A := slc 1 t _) (by with_reducible first | exact sl0 | exact .there sl0 | exact .there sl1 | exact .there sl2 | exact .there sl3 | exact .there sl4 | exact .there sl5 | exact .there sl6 | exact .there sl7 | exact .there sl8 | exact .there sl9 | exact .there sl10 | exact .there sl11 | exact .there sl12) (.cons (A := portP b2 _ _ _) (by with_reducible first | exact sl0 | exact .there sl0 | exact .there sl1 | exact .there sl2 | exact .there sl3 | exact .there sl4 | exact .there sl5 | exact .there sl6 | exact .there sl7 | exact .there sl8 | exact .there sl9 | exact .there sl10 | exact .there sl11 | exact .there sl12) (.cons (A := old e) (by with_reducible first | exact sl0 | exact .there sl0 | exact .there sl1 | exact .there sl2 | exact .there sl3 | exact .there sl4 | exact .there sl5 | exact .there sl6 | exact .there sl7 | exact .there sl8 | exact .there sl9 | exact .there sl10 | exact .there sl11 | exact .there sl12) (.same _)))))))).drop.drop
        refine cs.no rfl ?_
        refine ⟨⟨j + 1, b2, x2, l2, rfl, hlast, hb2, hv2, r2, hl2, h⟩, ?_⟩
        show a0.len - Int.toNat ((j + 1 : Nat) : Int) < a0.len - Int.toNat (j : Int)
        omega

end Go.Proofs.Ytbhmejmkoefahaa.B
