/- What every law's proof wants: arguments that came in, and the step from a shallow program to the call. -/
import Derived.Test.YtjamgdepbjipdaaSep
namespace Go.Proofs.Ytjamgdepbjipdaa.B
open Go
theorem enc_i {a b : Int} (h : a = b) : encK [kI] (a, ()) = [.int .i64 b] := by rw [h]; rfl
theorem enc_b {a b : Bool} (h : a = b) : encK [kB] (a, ()) = [.bool b] := by rw [h]; rfl
/-- a slice of whole numbers that came in -/
structure ArgI (k : IntKind) (e : World) (s : Sl) (xs : List Int) : Prop where
  len : xs.length = s.len
  cell : ∀ i x, xs[i]? = some x → ∃ b o, s.a = some ⟨b, o, none⟩ ∧ b < e.heap.size ∧ e.cell? ⟨b, o + i, none⟩ = some (.int k x)
  wf : ∀ x ∈ xs, (Lit.int k x).wf = true
  cap : s.len ≤ s.cap
/-- a slice of elements of 'sz' cells that came in -/
structure ArgS (sz : Nat) (e : World) (s : Sl) (vs : List Value) : Prop where
  len : vs.length = s.len * sz
  cell : ∀ i x, vs[i]? = some x → ∃ b o, s.a = some ⟨b, o, none⟩ ∧ b < e.heap.size ∧ e.cell? ⟨b, o + i, none⟩ = some x
  cap : s.len ≤ s.cap
/-- a slice of whole numbers that may be read as long as a part of the memory stays -/
def Rd (e : World) (A : SP) (k : IntKind) (s : Sl) (xs : List Int) : Prop :=
  xs.length = s.len ∧ ∀ (i : Nat) (x : Int), xs[i]? = some x → ∃ b o, s.a = some ⟨b, o, none⟩ ∧ ∀ L w, Ok e (A :: L) w → w.cell? ⟨b, o + i, none⟩ = some (.int k x)
theorem rd_arg {k : IntKind} {e : World} {s : Sl} {xs : List Int} (h : ArgI k e s xs) : Rd e (old e) k s xs := by
  refine ⟨h.len, fun i x hx => ?_⟩
  obtain ⟨b, o, ha, hb, hc⟩ := h.cell i x hx
  exact ⟨b, o, ha, fun L w hw => by rw [hw.old_cell (a := ⟨b, o + i, none⟩) hb]; exact hc⟩
theorem rd_slc {k : IntKind} {e : World} {L : List SP} {w : World} {s : Sl} {xs : List Int} (h : Ok e (slc 1 s (xs.map (Value.int k)) :: L) w) : Rd e (slc 1 s (xs.map (Value.int k))) k s xs := by
  obtain ⟨hl, hv, hc, hcase⟩ := h.slcE
  rw [List.length_map, Nat.mul_one] at hl
  refine ⟨hl, fun i x hx => ?_⟩
  have hlt := (List.getElem?_eq_some_iff.1 hx).1
  rcases hcase with ⟨ha, hcap, _⟩ | ⟨b, post, ha, _, _⟩
  · omega
  · refine ⟨b, 0, ha, fun L w hw => ?_⟩
    have := hw.slc_cells ha i (.int k x) (by rw [List.getElem?_map, hx]; rfl)
    rw [Addr.add_lit] at this
    exact this
theorem ix_rd {e : World} {A : SP} {k : IntKind} {s : Sl} {xs : List Int} {i : Int} {f : Nat → Nat → Prop} (h : Rd e A k s xs) (h0 : 0 ≤ i) (h1 : i < s.len)
    (kk : ∀ b o x, xs[i.toNat]? = some x → (∀ L w, Ok e (A :: L) w → w.cell? ⟨b, o, none⟩ = some (.int k x)) → f b o) : ix s i 1 f := by
  have hlt : i.toNat < xs.length := by rw [h.1]; omega
  obtain ⟨b, o, ha, hc⟩ := h.2 i.toNat _ (List.getElem?_eq_getElem hlt)
  refine ⟨b, o, ha, h0, h1, ?_⟩
  rw [Nat.mul_one]
  exact kk b _ _ (List.getElem?_eq_getElem hlt) hc
/-- a part of such a slice -/
theorem sb_rd {e : World} {A : SP} {k : IntKind} {s : Sl} {xs : List Int} {lo hi mx : Int} {f : Sl → Prop} (h : Rd e A k s xs) (h0 : 0 ≤ lo) (h1 : lo ≤ hi) (h2 : hi ≤ s.len) (h3 : hi ≤ mx) (h4 : mx ≤ s.cap)
    (kk : ∀ x : Sl, x.len = hi.toNat - lo.toNat → x.len ≤ x.cap → Rd e A k x ((xs.take hi.toNat).drop lo.toNat) → f x) : sb s lo hi mx 1 f := by
  refine ⟨h0, h1, h3, h4, kk _ (by simp [Sl.sub]) (by simp [Sl.sub]; omega) ⟨by rw [List.length_drop, List.length_take, h.1]; simp [Sl.sub]; omega, fun i x hx => ?_⟩⟩
  rw [List.getElem?_drop] at hx
  have hlt := (List.getElem?_eq_some_iff.1 hx).1
  rw [List.length_take] at hlt
  rw [List.getElem?_take_of_lt (by omega)] at hx
  obtain ⟨b, o, ha, hc⟩ := h.2 _ x hx
  refine ⟨b, o + lo.toNat, ?_, fun L w hw => by rw [Nat.add_assoc]; exact hc L w hw⟩
  simp only [Sl.sub, ha, Option.map_some, Nat.mul_one]
  rw [if_neg (by omega), Addr.add_lit]
theorem wf_u8 {x : Int} (h : (Lit.int .u8 x).wf = true) : 0 ≤ x ∧ x ≤ 255 := by simpa [Lit.wf, IntKind.min, IntKind.max, IntKind.signed, IntKind.bits] using h
theorem wf_i64 {x : Int} (h : (Lit.int .i64 x).wf = true) : -9223372036854775808 ≤ x ∧ x ≤ 9223372036854775807 := by simpa [Lit.wf, IntKind.min, IntKind.max, IntKind.signed, IntKind.bits] using h
theorem wf_u32 {x : Int} (h : (Lit.int .u32 x).wf = true) : 0 ≤ x ∧ x ≤ 4294967295 := by simpa [Lit.wf, IntKind.min, IntKind.max, IntKind.signed, IntKind.bits] using h
theorem ArgI.u8 {e s xs} (h : ArgI .u8 e s xs) {x : Int} (hx : x ∈ xs) : 0 ≤ x ∧ x ≤ 255 := by
  have := h.wf x hx
  simpa [Lit.wf, IntKind.min, IntKind.max, IntKind.signed, IntKind.bits] using this
theorem ArgI.i64 {e s xs} (h : ArgI .i64 e s xs) {x : Int} (hx : x ∈ xs) : -9223372036854775808 ≤ x ∧ x ≤ 9223372036854775807 := by
  have := h.wf x hx
  simpa [Lit.wf, IntKind.min, IntKind.max, IntKind.signed, IntKind.bits] using this
section
variable {e : World} {L : List SP} {w : World} {s : Sl}
theorem ix_arg {k : IntKind} {xs : List Int} {i : Int} {f : Nat → Nat → Prop} (h : ArgI k e s xs) (h0 : 0 ≤ i) (h1 : i < s.len)
    (kk : ∀ b o x, xs[i.toNat]? = some x → (∀ w', (∃ L', Ok e (old e :: L') w') → w'.cell? ⟨b, o, none⟩ = some (.int k x)) → f b o) : ix s i 1 f := by
  have hlt : i.toNat < xs.length := by rw [h.len]; omega
  obtain ⟨b, o, ha, hb, hc⟩ := h.cell i.toNat _ (List.getElem?_eq_getElem hlt)
  refine ⟨b, o, ha, h0, h1, kk b _ _ (List.getElem?_eq_getElem hlt) ?_⟩
  rintro w' ⟨L', h'⟩
  rw [h'.old_cell (a := ⟨b, o + i.toNat * 1, none⟩) hb, Nat.mul_one]; exact hc
theorem ix_args {sz : Nat} {vs : List Value} {i : Int} {f : Nat → Nat → Prop} (h : ArgS sz e s vs) (hsz : 0 < sz) (h0 : 0 ≤ i) (h1 : i < s.len)
    (kk : ∀ b o, (∀ j v, j < sz → vs[i.toNat * sz + j]? = some v → ∀ w', (∃ L', Ok e (old e :: L') w') → w'.cell? ⟨b, o + j, none⟩ = some v) → f b o) : ix s i sz f := by
  have hlt : i.toNat * sz < vs.length := by
    rw [h.len]
    exact Nat.mul_lt_mul_of_pos_right (by omega) hsz
  obtain ⟨b, o, ha, hb, hc⟩ := h.cell (i.toNat * sz) _ (List.getElem?_eq_getElem hlt)
  refine ⟨b, o, ha, h0, h1, kk b _ fun j v hj hv w' ⟨L', h'⟩ => ?_⟩
  obtain ⟨b', o', ha', hb', hc'⟩ := h.cell _ _ hv
  rw [ha] at ha'; cases ha'
  rw [h'.old_cell (a := ⟨b, o + i.toNat * sz + j, none⟩) hb, Nat.add_assoc]; exact hc'
theorem law_calls {P : Program} {f : FuncId} {fn : Func} {pl : Plan} {args : List Value} {w : World} {S : Prop} (hf : P.funcs[f]? = some fn)
    (tie : compF P fn pl args (fun vs w' => vs = [.bool true] ∧ Ok w [old w] w') w = S) (h : S) :
    Calls P f args.toArray w fun e w' => e = .returned (.bool true) ∧ Go.RowKit.Below w.heap.size w w' := by
  rw [← tie] at h
  refine Calls.mono (calls_of hf h) ?_
  rintro e w' ⟨vs, rfl, rfl, hok⟩
  exact ⟨rfl, hok.below⟩
end
end Go.Proofs.Ytjamgdepbjipdaa.B
