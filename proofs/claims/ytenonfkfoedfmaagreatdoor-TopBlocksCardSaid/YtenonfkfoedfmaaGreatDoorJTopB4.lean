/- Texts of ours, joined: Sep4, Ctx, Sep5, Order, Order2, Order3, Sorted, Ids, Dtq, Dtq2, Up, Mpf, Mpf2, Km, Km2, Kp, Star, Rdp. -/
import Derived.MapKept
import Derived.Test.YtenonfkfoedfmaaGreatDoorJTopB3
set_option linter.unusedSimpArgs false
set_option linter.unusedVariables false
/- Parts of owned slices as what is appended. -/
namespace Go.Proofs.YtenonfkfoedfmaaGreatDoor.B
open Go
set_option linter.unusedVariables false
section
variable {e : World} {L : List SP} {w : World} {P : Program} {b o sz : Nat} {cs us vs ds post : List Value} {s d x : Sl}
theorem Ok.dropAll {L : List SP} : ∀ {M : List SP}, Ok e (M ++ L) w → Ok e L w
  | [], h => h
  | _ :: M, h => Ok.dropAll (M := M) (Ok.drop h)
theorem Ok.only {A : SP} {L : List SP} (h : Ok e (A :: L) w) : Ok e [A] w := (h.perm (List.perm_append_comm (l₁ := [A]) (l₂ := L))).dropAll
/-- a part of a slice -/
structure SubOf (s : Sl) (sz i j : Nat) (x : Sl) : Prop where
  len : x.len = j - i
  at' : i < j → ∃ b, s.a = some ⟨b, 0, none⟩ ∧ x.a = some ⟨b, i * sz, none⟩
theorem sb_sub {lo hi : Int} {f : Sl → Prop} (h : Ok e (slc sz s vs :: L) w) (h0 : 0 ≤ lo) (h1 : lo ≤ hi) (h2 : hi ≤ s.len) (k : ∀ x, SubOf s sz lo.toNat hi.toNat x → f x) : sb s lo hi s.cap sz f := by
  obtain ⟨-, -, hc, hcase⟩ := h.slcE
  rcases hcase with ⟨ha, hcap, -⟩ | ⟨b, post, ha, -, -⟩
  · refine ⟨h0, h1, by omega, Int.le_refl _, k _ ⟨by simp [Sl.sub], fun h => by omega⟩⟩
  · refine sb_at ha h0 h1 (by omega) (Int.le_refl _) fun s' o hs' hl hcp _ ho => k s' ⟨hl, fun hlt => ⟨b, ha, ?_⟩⟩
    rw [hs', ho (by omega)]
theorem ef.appendSub {t : TypeId} {i j : Nat} {K : TK [kS] → World → Prop} (T : SlT P t sz) (hsz : 0 < sz) (h : Ok e (slc sz d ds :: slc sz s vs :: L) w) (hx : SubOf s sz i j x) (hj : j ≤ s.len) (hb : d.len + s.len ≤ 2 ^ 31)
    (k : ∀ s' w', s'.len = d.len + (j - i) → Ok e (slc sz s' (ds ++ (vs.take (j * sz)).drop (i * sz)) :: slc sz s vs :: L) w' → K (s', ()) w') : ef P (Builtin.append_ #[t, t] t #[vS d, vS x]) [kS] w K := by
  have hl := h.p1.slc_len
  have hjs : j * sz ≤ vs.length := by rw [hl]; exact Nat.mul_le_mul_right _ hj
  have hul : ((vs.take (j * sz)).drop (i * sz)).length = x.len * sz := by
    rw [List.length_drop, List.length_take, hx.len, Nat.sub_mul]
    omega
  have hnil : ¬ i < j → (vs.take (j * sz)).drop (i * sz) = [] := fun h => List.eq_nil_of_length_eq_zero (by rw [hul, hx.len, show j - i = 0 by omega]; simp)
  refine ef.append T hsz h hul (fun ha => ?_) (fun a ha q u hu => ?_) (fun v hm => h.p1.slcE.2.1 v (List.mem_of_mem_take (List.mem_of_mem_drop hm))) (by rw [hx.len]; omega) fun s' w' hl' hk => k s' w' (by rw [hl', hx.len]) hk
  · refine hnil fun hlt => ?_
    obtain ⟨b, _, h2⟩ := hx.at' hlt
    rw [h2] at ha
    cases ha
  · by_cases hlt : i < j
    · obtain ⟨b, h1, h2⟩ := hx.at' hlt
      rw [h2] at ha
      cases ha
      rw [List.getElem?_drop] at hu
      have hq : i * sz + q < j * sz := by
        have := (List.getElem?_eq_some_iff.1 hu).1
        rw [List.length_take] at this
        omega
      rw [List.getElem?_take_of_lt hq] at hu
      have := h.p1.slc_cells h1 _ _ hu
      rw [Addr.add_lit] at this ⊢
      rw [Nat.zero_add] at this
      exact this
    · rw [hnil hlt] at hu
      simp at hu
end
/-! ### a list of parts out of another one: some are left out, the others stand in another order -/
inductive Sel (A : SP) : List SP → List SP → Prop
  | here (L : List SP) : Sel A (A :: L) L
  | there {B : SP} {L L' : List SP} (h : Sel A L L') : Sel A (B :: L) (B :: L')
theorem Sel.perm {A : SP} {L L' : List SP} (h : Sel A L L') : L.Perm (A :: L') := by
  induction h with
  | here L => exact List.Perm.refl _
  | there h ih => exact (ih.cons _).trans (List.Perm.swap ..)
inductive Emb : List SP → List SP → Prop
  | same (L : List SP) : Emb L L
  | nil (L : List SP) : Emb L []
  | cons {A : SP} {L L' M : List SP} (hs : Sel A L L') (h : Emb L' M) : Emb L (A :: M)
  | skip {A : SP} {L M : List SP} (h : Emb L M) : Emb (A :: L) M
theorem Emb.ok {L M : List SP} (m : Emb L M) : ∀ {h : Hp}, oksH L h → oksH M h := by
  induction m with
  | same L => intro h H; exact H
  | nil L => intro h _; trivial
  | cons hs _ ih =>
    intro h H
    obtain ⟨h1, h2, hd, e, hA, hL⟩ := oksH_perm hs.perm H
    exact ⟨h1, h2, hd, e, hA, ih hL⟩
  | skip _ ih =>
    intro h H
    obtain ⟨h1, h2, hd, rfl, hA, hL⟩ := H
    exact ih (oksH_le hL fun b o hb => by
      simp only [Hp.un]
      rcases hd b with e | e
      · simp [e, hb]
      · rw [hb] at e; cases e)
theorem Ok.emb {e : World} {L M : List SP} {w : World} (h : Ok e L w) (m : Emb L M) : Ok e M w := ⟨h.os, h.tape, h.output, m.ok h.heap⟩
theorem Ok.bring {e : World} {A : SP} {L L' : List SP} {w : World} (h : Ok e L w) (s : Sel A L L') : Ok e (A :: L') w := h.perm s.perm
theorem Ok.cellS {e : World} {L L' : List SP} {w : World} {b i : Nat} {cs : List Value} {v : Value} (h : Ok e L w) (s : Sel (pts b cs) L L') (hv : cs[i]? = some v) : w.cell? ⟨b, i, none⟩ = some v := (h.bring s).cell hv
theorem sl0 {A : SP} {L : List SP} : Sel A (A :: L) (L) := .here _
theorem sl1 {A B0 : SP} {L : List SP} : Sel A (B0 :: A :: L) (B0 :: L) := .there (.here _)
theorem sl2 {A B0 B1 : SP} {L : List SP} : Sel A (B0 :: B1 :: A :: L) (B0 :: B1 :: L) := .there (.there (.here _))
theorem sl3 {A B0 B1 B2 : SP} {L : List SP} : Sel A (B0 :: B1 :: B2 :: A :: L) (B0 :: B1 :: B2 :: L) := .there (.there (.there (.here _)))
theorem sl4 {A B0 B1 B2 B3 : SP} {L : List SP} : Sel A (B0 :: B1 :: B2 :: B3 :: A :: L) (B0 :: B1 :: B2 :: B3 :: L) := .there (.there (.there (.there (.here _))))
theorem sl5 {A B0 B1 B2 B3 B4 : SP} {L : List SP} : Sel A (B0 :: B1 :: B2 :: B3 :: B4 :: A :: L) (B0 :: B1 :: B2 :: B3 :: B4 :: L) := .there (.there (.there (.there (.there (.here _)))))
theorem sl6 {A B0 B1 B2 B3 B4 B5 : SP} {L : List SP} : Sel A (B0 :: B1 :: B2 :: B3 :: B4 :: B5 :: A :: L) (B0 :: B1 :: B2 :: B3 :: B4 :: B5 :: L) := .there (.there (.there (.there (.there (.there (.here _))))))
theorem sl7 {A B0 B1 B2 B3 B4 B5 B6 : SP} {L : List SP} : Sel A (B0 :: B1 :: B2 :: B3 :: B4 :: B5 :: B6 :: A :: L) (B0 :: B1 :: B2 :: B3 :: B4 :: B5 :: B6 :: L) := .there (.there (.there (.there (.there (.there (.there (.here _)))))))
theorem sl8 {A B0 B1 B2 B3 B4 B5 B6 B7 : SP} {L : List SP} : Sel A (B0 :: B1 :: B2 :: B3 :: B4 :: B5 :: B6 :: B7 :: A :: L) (B0 :: B1 :: B2 :: B3 :: B4 :: B5 :: B6 :: B7 :: L) := .there (.there (.there (.there (.there (.there (.there (.there (.here _))))))))
theorem sl9 {A B0 B1 B2 B3 B4 B5 B6 B7 B8 : SP} {L : List SP} : Sel A (B0 :: B1 :: B2 :: B3 :: B4 :: B5 :: B6 :: B7 :: B8 :: A :: L) (B0 :: B1 :: B2 :: B3 :: B4 :: B5 :: B6 :: B7 :: B8 :: L) := .there (.there (.there (.there (.there (.there (.there (.there (.there (.here _)))))))))
theorem sl10 {A B0 B1 B2 B3 B4 B5 B6 B7 B8 B9 : SP} {L : List SP} : Sel A (B0 :: B1 :: B2 :: B3 :: B4 :: B5 :: B6 :: B7 :: B8 :: B9 :: A :: L) (B0 :: B1 :: B2 :: B3 :: B4 :: B5 :: B6 :: B7 :: B8 :: B9 :: L) := .there (.there (.there (.there (.there (.there (.there (.there (.there (.there (.here _))))))))))
theorem sl11 {A B0 B1 B2 B3 B4 B5 B6 B7 B8 B9 B10 : SP} {L : List SP} : Sel A (B0 :: B1 :: B2 :: B3 :: B4 :: B5 :: B6 :: B7 :: B8 :: B9 :: B10 :: A :: L) (B0 :: B1 :: B2 :: B3 :: B4 :: B5 :: B6 :: B7 :: B8 :: B9 :: B10 :: L) := .there (.there (.there (.there (.there (.there (.there (.there (.there (.there (.there (.here _)))))))))))
theorem sl12 {A B0 B1 B2 B3 B4 B5 B6 B7 B8 B9 B10 B11 : SP} {L : List SP} : Sel A (B0 :: B1 :: B2 :: B3 :: B4 :: B5 :: B6 :: B7 :: B8 :: B9 :: B10 :: B11 :: A :: L) (B0 :: B1 :: B2 :: B3 :: B4 :: B5 :: B6 :: B7 :: B8 :: B9 :: B10 :: B11 :: L) := .there (.there (.there (.there (.there (.there (.there (.there (.there (.there (.there (.there (.here _))))))))))))
theorem sl13 {A B0 B1 B2 B3 B4 B5 B6 B7 B8 B9 B10 B11 B12 : SP} {L : List SP} : Sel A (B0 :: B1 :: B2 :: B3 :: B4 :: B5 :: B6 :: B7 :: B8 :: B9 :: B10 :: B11 :: B12 :: A :: L) (B0 :: B1 :: B2 :: B3 :: B4 :: B5 :: B6 :: B7 :: B8 :: B9 :: B10 :: B11 :: B12 :: L) := .there (.there (.there (.there (.there (.there (.there (.there (.there (.there (.there (.there (.there (.here _)))))))))))))
end Go.Proofs.YtenonfkfoedfmaaGreatDoor.B


/- Contracts of the package ctx. -/
namespace Go.Proofs.YtenonfkfoedfmaaGreatDoor.B
open Go
set_option linter.unusedVariables false

/-- where the kernel is -/
structure PlaceM where
  lv : List Int
  locked : Bool
  disabled : Bool
  deriving DecidableEq

namespace PlaceM

def inn (m : PlaceM) : Bool := decide ((m.lv.length : Int) > 0)

def dispatch (m : PlaceM) : Bool := !m.inn && !m.locked && !m.disabled

/-- the top level -/
def top (m : PlaceM) : Int := m.lv.getLast?.getD 0

def enter (m : PlaceM) (l : Int) : Int × PlaceM :=
  if l < 1 ∨ l > 15 then (-17, m)
  else if m.locked ∨ (m.inn ∧ l ≤ m.top) then (-25, m)
  else (0, { m with lv := m.lv ++ [l] })

def exit (m : PlaceM) : Int × PlaceM :=
  if m.inn then (0, { m with lv := m.lv.take (m.lv.length - 1) }) else (-25, m)

def ok3 (m : PlaceM) (k : Int) : Bool := if k = 3 then m.inn && !m.locked else false

def ok2 (m : PlaceM) (k : Int) (idle : Bool) : Bool := if k = 2 then ((!m.inn && !idle) && !m.locked) && !m.disabled else m.ok3 k

def ok1 (m : PlaceM) (k : Int) (idle : Bool) : Bool := if k = 1 then (!m.inn && !idle) && !m.locked else m.ok2 k idle

def ok4 (m : PlaceM) (k : Int) (idle : Bool) : Bool := if k = 4 then !m.inn && !idle else m.ok1 k idle

def ok (m : PlaceM) (k : Int) (idle : Bool) : Bool := if k = 0 then true else m.ok4 k idle

def may (m : PlaceM) (k : Int) (idle : Bool) : Int := if m.ok k idle then 0 else -25

end PlaceM

def placeP (p : Nat) (m : PlaceM) : SP := fun h => ∃ s, oksH [pts p [vS s, .bool m.locked, .bool m.disabled], slc 1 s (ints m.lv)] h

theorem placeE {e w L p m} (h : Ok e (placeP p m :: L) w) : ∃ s, s.len = m.lv.length ∧ Ok e (pts p [vS s, .bool m.locked, .bool m.disabled] :: slc 1 s (ints m.lv) :: L) w := by
  obtain ⟨s, h⟩ := h.exE
  have h := h.unpack
  refine ⟨s, ?_, h⟩
  have := h.p1.slc_len
  rw [ints_len] at this
  omega

theorem placeI {e w L p m s} (h : Ok e (pts p [vS s, .bool m.locked, .bool m.disabled] :: slc 1 s (ints m.lv) :: L) w) : Ok e (placeP p m :: L) w :=
  (Ok.pack (M := [pts p [vS s, .bool m.locked, .bool m.disabled], slc 1 s (ints m.lv)]) h).imp fun k hk => ⟨s, hk⟩

theorem New_ctx {e w L R} (h : Ok e L w) (k : ∀ p w', Ok e (placeP p ⟨[], false, false⟩ :: L) w' → R [.pointer (some ⟨p, 0, none⟩)] w') : sh99 R w := by
  unfold sh99
  refine al.mk h fun p w1 h => k p w1 ?_
  exact placeI (s := ⟨none, 0, 0⟩) (m := ⟨[], false, false⟩) (h.slcNil 1).p1

theorem In_ctx {e w L p m R} (h : Ok e (placeP p m :: L) w) (k : R [.bool m.inn] w) : sh128 (some ⟨p, 0, none⟩) R w := by
  obtain ⟨s, hs, h⟩ := placeE h
  unfold sh128
  (repeat (first | with_reducible refine nn.mk ?_ | ((first | with_reducible apply ldI.mk | with_reducible apply ldB.mk | with_reducible apply ldP.mk | with_reducible apply ldS.mk | with_reducible apply ldM.mk | with_reducible apply ldF.mk | with_reducible apply ldG.mk); (· exact (by refine Ok.cellS h (by with_reducible first | exact sl0 | exact .there sl0 | exact .there sl1 | exact .there sl2 | exact .there sl3 | exact .there sl4 | exact .there sl5 | exact .there sl6 | exact .there sl7 | exact .there sl8 | exact .there sl9 | exact .there sl10 | exact .there sl11 | exact .there sl12) ?_; rfl)))))
  rw [hs]; exact k

theorem Dispatch_ctx {e w L p m R} (h : Ok e (placeP p m :: L) w) (k : R [.bool m.dispatch] w) : sh120 (some ⟨p, 0, none⟩) R w := by
  unfold sh120
  refine call128 (In_ctx h ⟨(m.inn, ()), rfl, ?_⟩)
  dsimp only
  obtain ⟨s, hs, h⟩ := placeE h
  refine jn.bool (!m.inn && !m.locked) (fun J hJ => cs.mk (fun h1 => ?_) (fun h1 => ?_)) ?_
  · (repeat (first | with_reducible refine nn.mk ?_ | ((first | with_reducible apply ldI.mk | with_reducible apply ldB.mk | with_reducible apply ldP.mk | with_reducible apply ldS.mk | with_reducible apply ldM.mk | with_reducible apply ldF.mk | with_reducible apply ldG.mk); (· exact (by refine Ok.cellS h (by with_reducible first | exact sl0 | exact .there sl0 | exact .there sl1 | exact .there sl2 | exact .there sl3 | exact .there sl4 | exact .there sl5 | exact .there sl6 | exact .there sl7 | exact .there sl8 | exact .there sl9 | exact .there sl10 | exact .there sl11 | exact .there sl12) ?_; rfl)))))
    simpa [show m.inn = false by simpa using h1] using hJ
  · simpa [show m.inn = true by simpa using h1] using hJ
  dsimp only
  refine jn.bool m.dispatch (fun J hJ => cs.mk (fun h1 => ?_) (fun h1 => ?_)) k
  · (repeat (first | with_reducible refine nn.mk ?_ | ((first | with_reducible apply ldI.mk | with_reducible apply ldB.mk | with_reducible apply ldP.mk | with_reducible apply ldS.mk | with_reducible apply ldM.mk | with_reducible apply ldF.mk | with_reducible apply ldG.mk); (· exact (by refine Ok.cellS h (by with_reducible first | exact sl0 | exact .there sl0 | exact .there sl1 | exact .there sl2 | exact .there sl3 | exact .there sl4 | exact .there sl5 | exact .there sl6 | exact .there sl7 | exact .there sl8 | exact .there sl9 | exact .there sl10 | exact .there sl11 | exact .there sl12) ?_; rfl)))))
    simpa [PlaceM.dispatch, h1] using hJ
  · simpa [PlaceM.dispatch, h1] using hJ

theorem may_ctx {e w L p m kd idle R} (h : Ok e (placeP p m :: L) w) (k : R [.bool (m.ok kd idle)] w) : sh129 (some ⟨p, 0, none⟩) kd idle R w := by
  unfold sh129
  refine call128 (In_ctx h ⟨(m.inn, ()), rfl, ?_⟩)
  dsimp only
  have h0 := h
  obtain ⟨s, hs, h⟩ := placeE h
  refine jn.bool (!m.inn && !idle) (fun J hJ => cs.mk (fun h1 => ?_) (fun h1 => ?_)) ?_
  · simpa [show m.inn = false by simpa using h1] using hJ
  · simpa [show m.inn = true by simpa using h1] using hJ
  dsimp only
  simp only [PlaceM.ok, PlaceM.ok4, PlaceM.ok1, PlaceM.ok2, PlaceM.ok3] at k
  refine cs.mk (fun h0 => ?_) (fun n0 => ?_)
  · rw [if_pos (by simpa using h0)] at k; exact k
  rw [if_neg (by simpa using n0)] at k
  refine cs.mk (fun h0 => ?_) (fun n1 => ?_)
  · rw [if_pos (by simpa using h0)] at k; exact k
  rw [if_neg (by simpa using n1)] at k
  refine cs.mk (fun h0 => ?_) (fun n2 => ?_)
  · rw [if_pos (by simpa using h0)] at k
    refine jn.bool ((!m.inn && !idle) && !m.locked) (fun J hJ => cs.mk (fun h1 => ?_) (fun h1 => ?_)) k
    · (repeat (first | with_reducible refine nn.mk ?_ | ((first | with_reducible apply ldI.mk | with_reducible apply ldB.mk | with_reducible apply ldP.mk | with_reducible apply ldS.mk | with_reducible apply ldM.mk | with_reducible apply ldF.mk | with_reducible apply ldG.mk); (· exact (by refine Ok.cellS h (by with_reducible first | exact sl0 | exact .there sl0 | exact .there sl1 | exact .there sl2 | exact .there sl3 | exact .there sl4 | exact .there sl5 | exact .there sl6 | exact .there sl7 | exact .there sl8 | exact .there sl9 | exact .there sl10 | exact .there sl11 | exact .there sl12) ?_; rfl)))))
      simpa [h1] using hJ
    · simpa [h1] using hJ
  rw [if_neg (by simpa using n2)] at k
  refine cs.mk (fun h0 => ?_) (fun n3 => ?_)
  · rw [if_pos (by simpa using h0)] at k
    refine jn.bool ((!m.inn && !idle) && !m.locked) (fun J hJ => cs.mk (fun h1 => ?_) (fun h1 => ?_)) ?_
    · (repeat (first | with_reducible refine nn.mk ?_ | ((first | with_reducible apply ldI.mk | with_reducible apply ldB.mk | with_reducible apply ldP.mk | with_reducible apply ldS.mk | with_reducible apply ldM.mk | with_reducible apply ldF.mk | with_reducible apply ldG.mk); (· exact (by refine Ok.cellS h (by with_reducible first | exact sl0 | exact .there sl0 | exact .there sl1 | exact .there sl2 | exact .there sl3 | exact .there sl4 | exact .there sl5 | exact .there sl6 | exact .there sl7 | exact .there sl8 | exact .there sl9 | exact .there sl10 | exact .there sl11 | exact .there sl12) ?_; rfl)))))
      simpa [h1] using hJ
    · simpa [h1] using hJ
    dsimp only
    refine jn.bool (((!m.inn && !idle) && !m.locked) && !m.disabled) (fun J hJ => cs.mk (fun h1 => ?_) (fun h1 => ?_)) k
    · (repeat (first | with_reducible refine nn.mk ?_ | ((first | with_reducible apply ldI.mk | with_reducible apply ldB.mk | with_reducible apply ldP.mk | with_reducible apply ldS.mk | with_reducible apply ldM.mk | with_reducible apply ldF.mk | with_reducible apply ldG.mk); (· exact (by refine Ok.cellS h (by with_reducible first | exact sl0 | exact .there sl0 | exact .there sl1 | exact .there sl2 | exact .there sl3 | exact .there sl4 | exact .there sl5 | exact .there sl6 | exact .there sl7 | exact .there sl8 | exact .there sl9 | exact .there sl10 | exact .there sl11 | exact .there sl12) ?_; rfl)))))
      simpa [h1] using hJ
    · simpa [h1] using hJ
  rw [if_neg (by simpa using n3)] at k
  refine cs.mk (fun h1 => ?_) (fun n4 => ?_)
  · rw [if_pos (by simpa using h1)] at k
    refine call128 (In_ctx h0 ⟨(m.inn, ()), rfl, ?_⟩)
    dsimp only
    refine jn.bool (m.inn && !m.locked) (fun J hJ => cs.mk (fun h1 => ?_) (fun h1 => ?_)) k
    · (repeat (first | with_reducible refine nn.mk ?_ | ((first | with_reducible apply ldI.mk | with_reducible apply ldB.mk | with_reducible apply ldP.mk | with_reducible apply ldS.mk | with_reducible apply ldM.mk | with_reducible apply ldF.mk | with_reducible apply ldG.mk); (· exact (by refine Ok.cellS h (by with_reducible first | exact sl0 | exact .there sl0 | exact .there sl1 | exact .there sl2 | exact .there sl3 | exact .there sl4 | exact .there sl5 | exact .there sl6 | exact .there sl7 | exact .there sl8 | exact .there sl9 | exact .there sl10 | exact .there sl11 | exact .there sl12) ?_; rfl)))))
      simpa [h1] using hJ
    · simpa [h1] using hJ
  · rw [if_neg (by simpa using n4)] at k; exact k

theorem May_ctx {e w L p m kd idle R} (h : Ok e (placeP p m :: L) w) (k : R [.int .i64 (m.may kd idle)] w) : sh78 (some ⟨p, 0, none⟩) kd idle R w := by
  unfold sh78
  (repeat (first | with_reducible refine nn.mk ?_ | ((first | with_reducible apply ldI.mk | with_reducible apply ldB.mk | with_reducible apply ldP.mk | with_reducible apply ldS.mk | with_reducible apply ldM.mk | with_reducible apply ldF.mk | with_reducible apply ldG.mk); (· exact (by refine Ok.cellS h (by with_reducible first | exact sl0 | exact .there sl0 | exact .there sl1 | exact .there sl2 | exact .there sl3 | exact .there sl4 | exact .there sl5 | exact .there sl6 | exact .there sl7 | exact .there sl8 | exact .there sl9 | exact .there sl10 | exact .there sl11 | exact .there sl12) ?_; rfl)))))
  refine call129 (may_ctx h ⟨(m.ok kd idle, ()), rfl, ?_⟩)
  dsimp only
  unfold PlaceM.may at k
  refine cs.mk (fun h1 => ?_) (fun h1 => ?_)
  · have h1 : m.ok kd idle = false := by simpa using h1
    rw [h1] at k; exact k
  · have h1 : m.ok kd idle = true := by simpa using h1
    rw [h1] at k; exact k

end Go.Proofs.YtenonfkfoedfmaaGreatDoor.B


/- Maps from whole numbers that are owned. -/
namespace Go.Proofs.YtenonfkfoedfmaaGreatDoor.B
open Go
open Go.MapKept (Stamped IsKey heap_set stamped_push stamped_modify stamped_erase stamped_empty isKey_modify findNow_spec)
set_option linter.unusedVariables false
def mapIs (es : Array MapEntry) (clock : Nat) (f : Int → Option Value) : Prop :=
  Stamped es clock ∧ (∀ x ∈ es.toList, IsKey (.int .i64) x.key) ∧ ∀ k v, f k = some v ↔ ∃ x ∈ es.toList, x.key = .int .i64 k ∧ x.val = v
/-- a map from whole numbers -/
def mpP (b : Nat) (f : Int → Option Value) : SP := fun h => ∃ es clock, h b = some (.map es clock) ∧ mapIs es clock f
def upd (f : Int → Option Value) (k : Int) (o : Option Value) : Int → Option Value := fun j => if j = k then o else f j
theorem upd_same (f : Int → Option Value) (k : Int) (o : Option Value) : upd f k o k = o := if_pos rfl
theorem upd_other {f : Int → Option Value} {k j : Int} {o : Option Value} (h : j ≠ k) : upd f k o j = f j := if_neg h
/-- what is known of a map's type -/
structure MapT (P : Program) (t : TypeId) (z : Value) : Prop where
  ex : ∃ kt el i, P.underlying t = some (.map kt el) ∧ P.underlying kt = some (.int .i64) ∧ P.info? el = some i ∧ i.zero = some z
def mapTok (P : Program) (t : TypeId) : Option Value :=
  match P.underlying t with
  | some (.map kt el) => match P.underlying kt with
    | some (.int .i64) => match P.info? el with
      | some i => i.zero
      | none => none
    | _ => none
  | _ => none
theorem MapT.of {P : Program} {t : TypeId} {z : Value} (h : mapTok P t = some z) : MapT P t z := by
  unfold mapTok at h
  split at h
  · rename_i kt el hu
    split at h
    · rename_i hk
      split at h
      · rename_i i hi
        exact ⟨kt, el, i, hu, hk, hi, h⟩
      · cases h
    · cases h
  · cases h
section
variable {P : Program} {e : World} {L : List SP} {w : World} {t : TypeId} {z : Value} {b : Nat} {f : Int → Option Value} {k : Int} {v : Value}
theorem Ok.mapE (h : Ok e (mpP b f :: L) w) : ∃ es clock, w.heap[b]? = some (.map es clock) ∧ mapIs es clock f := by
  obtain ⟨h1, h2, hd, he, ⟨es, clock, hb, hm⟩, hL⟩ := h.heap
  refine ⟨es, clock, ?_, hm⟩
  have := congrFun he b
  simp only [hpOf, Hp.un, hb] at this
  exact this
theorem Ok.mapSet {es : Array MapEntry} {clock : Nat} {g : Int → Option Value} (h : Ok e (mpP b f :: L) w) (hm : mapIs es clock g) : Ok e (mpP b g :: L) { w with heap := w.heap.setIfInBounds b (.map es clock) } := by
  obtain ⟨es0, clock0, hb, -⟩ := h.mapE
  have hs := heap_set (o' := .map es clock) hb
  refine ⟨h.os, h.tape, h.output, ?_⟩
  obtain ⟨h1, h2, hd, he, ⟨es1, clock1, hp, _⟩, hL⟩ := h.heap
  have h2b : h2 b = none := by
    rcases hd b with e | e
    · rw [hp] at e; cases e
    · exact e
  refine ⟨fun j => if j = b then some (.map es clock) else h1 j, h2, fun j => ?_, ?_, ⟨es, clock, by simp, hm⟩, hL⟩
  · by_cases hk : j = b
    · subst hk; exact .inr h2b
    · simpa [hk] using hd j
  · funext j
    have := congrFun he j
    simp only [hpOf, Hp.un] at this ⊢
    by_cases hk : j = b
    · subst hk; simp [hs.1]
    · simp only [hk, if_false]; rw [hs.2 j hk, this]
theorem mapIs_find {es : Array MapEntry} {clock : Nat} (h : mapIs es clock f) (k : Int) :
    (Instr.findNow (.int .i64) (.int .i64 k) es.toList 0 = some none ∧ f k = none ∧ ∀ x ∈ es.toList, x.key ≠ .int .i64 k) ∨ ∃ j x, Instr.findNow (.int .i64) (.int .i64 k) es.toList 0 = some (some (j, x.val)) ∧ es.toList[j]? = some x ∧ x.key = .int .i64 k ∧ f k = some x.val := by
  rcases findNow_spec (d := .int .i64) (k := .int .i64 k) rfl es.toList 0 h.2.1 with ⟨h1, h2⟩ | ⟨j, x, h1, h2, h3⟩
  · refine .inl ⟨h1, ?_, h2⟩
    cases hf : f k with
    | none => rfl
    | some v =>
      obtain ⟨x, hx, hk, _⟩ := (h.2.2 k v).1 hf
      exact absurd hk (h2 x hx)
  · exact .inr ⟨j, x, by simpa using h1, h2, h3, (h.2.2 k x.val).2 ⟨x, List.mem_of_getElem? h2, h3, rfl⟩⟩
theorem lookup_run (T : MapT P t z) (h : Ok e (mpP b f :: L) w) (c : Bool) : (Instr.lookup t (.map (some b)) (.int .i64 k) c).run P w = .ok (if c then .tuple #[(f k).getD z, .bool (f k).isSome] else (f k).getD z) w := by
  obtain ⟨kt, el, i, ht, hk, hi, hz⟩ := T.ex
  obtain ⟨es, clock, hb, hm⟩ := h.mapE
  have hc := MapKept.run_checkKey (P := P) (w := w) (k := .int .i64 k) hk rfl es.isEmpty 9999
  rcases mapIs_find hm k with ⟨h1, h2, _⟩ | ⟨j, x, h1, _, _, h2⟩
  · have hf := MapKept.run_findKey (P := P) (w := w) hk h1
    simp [Instr.lookup, run_underlying ht, MapKept.run_getObj_map hb, hc, hf, zeroValue, typeInfo, hi, hz, h2]
  · have hf := MapKept.run_findKey (P := P) (w := w) hk h1
    simp [Instr.lookup, run_underlying ht, MapKept.run_getObj_map hb, hc, hf, h2]
theorem ef.lookup {ks : List Kd} {K : TK ks → World → Prop} (T : MapT P t z) (h : Ok e (mpP b f :: L) w) (x : TK ks) (hx : ret1 (encK ks x) = (f k).getD z) (kk : K x w) : ef P (Instr.lookup t (.map (some b)) (.int .i64 k) false) ks w K :=
  ⟨x, w, by rw [lookup_run T h, hx]; rfl, kk⟩
theorem ef.lookupOk {ks : List Kd} {K : TK ks → World → Prop} (T : MapT P t z) (h : Ok e (mpP b f :: L) w) (x : TK ks) (hx : ret1 (encK ks x) = .tuple #[(f k).getD z, .bool (f k).isSome]) (kk : K x w) : ef P (Instr.lookup t (.map (some b)) (.int .i64 k) true) ks w K :=
  ⟨x, w, by rw [lookup_run T h, hx]; rfl, kk⟩
theorem mapIs_upd {es es' : Array MapEntry} {clock clock' : Nat} (h : mapIs es clock f) (hs : Stamped es' clock') (hk : ∀ x ∈ es'.toList, IsKey (.int .i64) x.key) {o : Option Value}
    (h1 : ∀ v, o = some v ↔ ∃ x ∈ es'.toList, x.key = .int .i64 k ∧ x.val = v) (h2 : ∀ x, x.key ≠ .int .i64 k → (x ∈ es'.toList ↔ x ∈ es.toList)) : mapIs es' clock' (upd f k o) := by
  refine ⟨hs, hk, fun j v => ?_⟩
  by_cases hj : j = k
  · subst hj
    rw [upd_same]; exact h1 v
  · rw [upd_other hj, h.2.2 j v]
    have hne : ∀ x : MapEntry, x.key = .int .i64 j → x.key ≠ .int .i64 k := fun x hx he => by rw [hx] at he; cases he; exact hj rfl
    constructor
    · rintro ⟨x, hx, hxk, hv⟩; exact ⟨x, (h2 x (hne x hxk)).2 hx, hxk, hv⟩
    · rintro ⟨x, hx, hxk, hv⟩; exact ⟨x, (h2 x (hne x hxk)).1 hx, hxk, hv⟩
theorem efU.mapUpdate {K : World → Prop} (T : MapT P t z) (h : Ok e (mpP b f :: L) w) (kk : ∀ w', Ok e (mpP b (upd f k (some v)) :: L) w' → K w') : efU P (Instr.mapUpdate t (.map (some b)) (.int .i64 k) v) w K := by
  obtain ⟨kt, el, i, ht, hk, hi, hz⟩ := T.ex
  obtain ⟨es, clock, hb, hm⟩ := h.mapE
  have hc := MapKept.run_checkKey (P := P) (w := w) (k := .int .i64 k) hk rfl false 9999
  rcases mapIs_find hm k with ⟨h1, h2, h3⟩ | ⟨j, x, h1, hj, hxk, h2⟩
  · have hf := MapKept.run_findKey (P := P) (w := w) hk h1
    refine ⟨{ w with heap := w.heap.setIfInBounds b (.map (es.push { key := .int .i64 k, val := v, born := clock }) (clock + 1)) }, ?_, kk _ (h.mapSet ?_)⟩
    · simp [Instr.mapUpdate, run_underlying ht, MapKept.run_getObj_map hb, hc, hf, MapKept.run_setObj_map _ hb]
    · refine mapIs_upd hm (stamped_push hm.1 h3) (fun x hx => ?_) (fun u => ?_) (fun x hx => ?_)
      · simp only [Array.toList_push, List.mem_append, List.mem_singleton] at hx
        rcases hx with hx | rfl
        · exact hm.2.1 x hx
        · rfl
      · simp only [Array.toList_push, List.mem_append, List.mem_singleton, Option.some.injEq]
        constructor
        · rintro rfl; exact ⟨_, .inr rfl, rfl, rfl⟩
        · rintro ⟨x, hx | rfl, hxk, rfl⟩
          · exact absurd hxk (h3 x hx)
          · rfl
      · simp only [Array.toList_push, List.mem_append, List.mem_singleton]
        constructor
        · rintro (h | rfl)
          · exact h
          · exact absurd rfl hx
        · exact .inl
  · have hf := MapKept.run_findKey (P := P) (w := w) hk h1
    have hj' : es[j]? = some x := by simpa using hj
    refine ⟨{ w with heap := w.heap.setIfInBounds b (.map (es.modify j fun e => { e with key := .int .i64 k, val := v }) clock) }, ?_, kk _ (h.mapSet ?_)⟩
    · simp [Instr.mapUpdate, run_underlying ht, MapKept.run_getObj_map hb, hc, hf, hj', hxk, Instr.keyThatStays, Instr.sameBits, MapKept.run_setObj_map _ hb]
    · have hkey : ∀ e', es[j]? = some e' → ({ e' with key := .int .i64 k, val := v } : MapEntry).key = e'.key := fun e' he' => by rw [hj'] at he'; cases he'; exact hxk.symm
      have hjl : j < es.size := (Array.getElem?_eq_some_iff.1 hj').1
      have hmem : ∀ y, y ∈ (es.modify j fun e => { e with key := .int .i64 k, val := v }).toList ↔ (∃ i, i ≠ j ∧ es.toList[i]? = some y) ∨ y = { x with key := .int .i64 k, val := v } := by
        intro y
        rw [List.mem_iff_getElem?]
        constructor
        · rintro ⟨i, hi⟩
          rw [Array.getElem?_toList, Array.getElem?_modify] at hi
          by_cases hij : j = i
          · subst hij
            rw [if_pos rfl, hj'] at hi
            simp only [Option.map_some, Option.some.injEq] at hi
            exact .inr hi.symm
          · rw [if_neg hij] at hi
            exact .inl ⟨i, fun h => hij h.symm, by simpa using hi⟩
        · rintro (⟨i, hij, hi⟩ | rfl)
          · refine ⟨i, ?_⟩
            rw [Array.getElem?_toList, Array.getElem?_modify, if_neg (fun h => hij h.symm)]
            simpa using hi
          · refine ⟨j, ?_⟩
            rw [Array.getElem?_toList, Array.getElem?_modify, if_pos rfl, hj']
            rfl
      have huniq : ∀ i y, es.toList[i]? = some y → y.key = .int .i64 k → i = j := fun i y hi hy => by
        have hnd := hm.1.2.2
        have hi1 : (es.toList.map (·.key))[i]? = some (.int .i64 k) := by rw [List.getElem?_map, hi]; simp [hy]
        have hj1 : (es.toList.map (·.key))[j]? = some (.int .i64 k) := by rw [List.getElem?_map, hj]; simp [hxk]
        obtain ⟨hi2, hi3⟩ := List.getElem?_eq_some_iff.1 hi1
        obtain ⟨hj2, hj3⟩ := List.getElem?_eq_some_iff.1 hj1
        exact (List.getElem_inj hnd).1 (hi3.trans hj3.symm)
      refine mapIs_upd hm (stamped_modify hm.1 j (fun e => { e with key := .int .i64 k, val := v }) (fun _ _ => rfl) (fun e' _ he' => hkey e' he')) (isKey_modify hm.2.1 j (fun e => { e with key := .int .i64 k, val := v }) hkey) (fun u => ?_) (fun y hy => ?_)
      · constructor
        · rintro h; cases h; exact ⟨_, (hmem _).2 (.inr rfl), rfl, rfl⟩
        · rintro ⟨y, hy, hyk, rfl⟩
          rcases (hmem y).1 hy with ⟨i, hij, hi⟩ | rfl
          · exact absurd (huniq i y hi hyk) hij
          · rfl
      · rw [hmem y]
        constructor
        · rintro (⟨i, _, hi⟩ | rfl)
          · exact List.mem_of_getElem? hi
          · exact absurd rfl hy
        · intro hy2
          obtain ⟨i, hi⟩ := List.mem_iff_getElem?.1 hy2
          refine .inl ⟨i, fun hij => ?_, hi⟩
          subst hij
          rw [hj] at hi
          cases hi
          exact hy hxk
theorem ef.delete {ty kt : TypeId} {K : TK [] → World → Prop} (T : MapT P t z) (h : Ok e (mpP b f :: L) w) (kk : ∀ w', Ok e (mpP b (upd f k none) :: L) w' → K () w') : ef P (Builtin.delete_ #[t, kt] ty #[.map (some b), .int .i64 k]) [] w K := by
  obtain ⟨kt', el, i, ht, hk, hi, hz⟩ := T.ex
  obtain ⟨es, clock, hb, hm⟩ := h.mapE
  have hc := MapKept.run_checkKey (P := P) (w := w) (k := .int .i64 k) hk rfl es.isEmpty 9999
  rcases mapIs_find hm k with ⟨h1, h2, h3⟩ | ⟨j, x, h1, hj, hxk, h2⟩
  · have hf := MapKept.run_findKey (P := P) (w := w) hk h1
    refine ⟨(), { w with heap := w.heap.setIfInBounds b (.map es clock) }, ?_, kk _ (h.mapSet ?_)⟩
    · simp [Builtin.delete_, run_underlying ht, MapKept.run_getObj_map hb, hc, hf, MapKept.run_setObj_map _ hb, ret1, encK]
    · refine mapIs_upd hm hm.1 hm.2.1 (fun u => ?_) (fun x _ => Iff.rfl)
      constructor
      · intro h; cases h
      · rintro ⟨x, hx, hxk, _⟩; exact absurd hxk (h3 x hx)
  · have hf := MapKept.run_findKey (P := P) (w := w) hk h1
    have hj' : es[j]? = some x := by simpa using hj
    have hjl : j < es.size := (Array.getElem?_eq_some_iff.1 hj').1
    refine ⟨(), { w with heap := w.heap.setIfInBounds b (.map (es.eraseIdxIfInBounds j) clock) }, ?_, kk _ (h.mapSet ?_)⟩
    · simp [Builtin.delete_, run_underlying ht, MapKept.run_getObj_map hb, hc, hf, MapKept.run_setObj_map _ hb, ret1, encK]
    · have hel : (es.eraseIdxIfInBounds j).toList = es.toList.eraseIdx j := by simp [Array.eraseIdxIfInBounds, hjl]
      have hsub : (es.toList.eraseIdx j).Sublist es.toList := List.eraseIdx_sublist _ _
      have hnd := hm.1.2.2
      have huniq : ∀ i y, es.toList[i]? = some y → y.key = .int .i64 k → i = j := fun i y hi hy => by
        have hi1 : (es.toList.map (·.key))[i]? = some (.int .i64 k) := by rw [List.getElem?_map, hi]; simp [hy]
        have hj1 : (es.toList.map (·.key))[j]? = some (.int .i64 k) := by rw [List.getElem?_map, hj]; simp [hxk]
        obtain ⟨hi2, hi3⟩ := List.getElem?_eq_some_iff.1 hi1
        obtain ⟨hj2, hj3⟩ := List.getElem?_eq_some_iff.1 hj1
        exact (List.getElem_inj hnd).1 (hi3.trans hj3.symm)
      refine mapIs_upd hm (stamped_erase hm.1 j) (fun x hx => hm.2.1 x (hsub.subset (by rw [← hel]; exact hx))) (fun u => ?_) (fun y hy => ?_)
      · constructor
        · intro h; cases h
        · rintro ⟨y, hy, hyk, _⟩
          rw [hel] at hy
          obtain ⟨i, hi⟩ := List.mem_iff_getElem?.1 hy
          rw [List.getElem?_eraseIdx] at hi
          split at hi
          · have := huniq i y hi hyk; omega
          · have := huniq (i + 1) y hi hyk; omega
      · rw [hel]
        constructor
        · intro h; exact hsub.subset h
        · intro hy2
          obtain ⟨i, hi⟩ := List.mem_iff_getElem?.1 hy2
          rw [List.mem_iff_getElem?]
          rcases Nat.lt_trichotomy i j with hij | hij | hij
          · exact ⟨i, by rw [List.getElem?_eraseIdx, if_pos hij]; exact hi⟩
          · subst hij
            rw [hj] at hi
            cases hi
            exact absurd hxk hy
          · exact ⟨i - 1, by rw [List.getElem?_eraseIdx, if_neg (by omega), show i - 1 + 1 = i by omega]; exact hi⟩
theorem Ok.mapNew {es : Array MapEntry} {clock : Nat} (h : Ok e L w) (hm : mapIs es clock f) : Ok e (mpP w.heap.size f :: L) (w.alloc (.map es clock)) := by
  refine ⟨h.os, h.tape, h.output, fun k => if k = w.heap.size then some (.map es clock) else none, hpOf w, fun k => ?_, ?_, ⟨es, clock, by simp, hm⟩, h.heap⟩
  · by_cases hk : k = w.heap.size
    · subst hk; right; simp [hpOf]
    · left; simp [hk]
  · funext k
    simp only [hpOf, World.alloc, Hp.un, Array.getElem?_push]
    by_cases hk : k = w.heap.size <;> simp [hk]
theorem mapIs_empty : mapIs #[] 0 fun _ => none := ⟨stamped_empty 0, by simp, by simp⟩
theorem ef.makeMap {K : TK [kM] → World → Prop} (h : Ok e L w) (kk : ∀ b w', Ok e (mpP b (fun _ => none) :: L) w' → K (some b, ()) w') : ef P (Instr.makeMap t none) [kM] w K :=
  ⟨(some w.heap.size, ()), w.alloc (.map #[] 0), by simp [Instr.makeMap, ret1, encK]; rfl, kk _ _ (h.mapNew mapIs_empty)⟩
theorem ef.assertMap {K : TK [kM] → World → Prop} {u : TypeId} {m : Option Nat} (T : MapT P t z) (kk : K (m, ()) w) : ef P (Instr.typeAssert (.iface t (.map m)) u t false) [kM] w K := by
  obtain ⟨kt, el, i, ht, hk, hi, hz⟩ := T.ex
  exact ⟨(m, ()), w, by simp [Instr.typeAssert, run_underlying ht, ret1, encK]; rfl, kk⟩
/-- 'maps.clone' -/
structure McT (P : Program) (f : FuncId) : Prop where
  ex : ∃ fn, P.funcs[f]? = some fn ∧ (fn.name == "runtime.NumGoroutine") = false ∧ fn.body.isNone = true ∧ Extern.findNext fn = none ∧ Extern.find fn = some Extern.MapsClone.clone
theorem xt.mapClone {fid : FuncId} {ty : TypeId} {K : TK [.l .n] → World → Prop} (T : McT P fid) (h : Ok e (mpP b f :: L) w) (kk : ∀ b' w', Ok e (mpP b' f :: mpP b f :: L) w' → K ((⟨ty, .map (some b')⟩ : Iv), ()) w') : xt P fid [.iface ty (.map (some b))] [.l .n] w K := by
  obtain ⟨fn, hf, hname, hb, hn, he⟩ := T.ex
  obtain ⟨es, clock, hbl, hm⟩ := h.mapE
  refine ⟨((⟨ty, .map (some w.heap.size)⟩ : Iv), ()), w.alloc (.map es clock), ?_, kk _ _ (h.mapNew hm)⟩
  have hc : Extern.MapsClone.clone #[.iface ty (.map (some b))] = (getObj b >>= fun o => match o with | .map entries clock => (newObj (.map entries clock) >>= fun r => pure (.iface ty (.map (some r)))) | _ => stuck "maps.clone: a map expected") := rfl
  have hr : (Extern.MapsClone.clone #[.iface ty (.map (some b))]).run P w = .ok (.iface ty (.map (some w.heap.size))) (w.alloc (.map es clock)) := by
    rw [hc, Sem.run_bind, MapKept.run_getObj_map hbl]
    rfl
  have := run_callFunc_extern hf hname hb hn he #[.iface ty (.map (some b))] w
  rw [show [Value.iface ty (.map (some b))].toArray = #[.iface ty (.map (some b))] from rfl, this, hr]
  rfl
end
end Go.Proofs.YtenonfkfoedfmaaGreatDoor.B


/- Contracts of the package order: rows of pairs (who, priority). -/
namespace Go.Proofs.YtenonfkfoedfmaaGreatDoor.B
open Go
set_option linter.unusedVariables false

def prs (l : List (Int × Int)) : List Value := l.flatMap fun p => [.int .i64 p.1, .int .i64 p.2]

theorem prs_cons (p : Int × Int) (l : List (Int × Int)) : prs (p :: l) = .int .i64 p.1 :: .int .i64 p.2 :: prs l := rfl

theorem prs_append (l m : List (Int × Int)) : prs (l ++ m) = prs l ++ prs m := by simp [prs]

theorem prs_len (l : List (Int × Int)) : (prs l).length = l.length * 2 := by
  induction l with
  | nil => rfl
  | cons p l ih => rw [prs_cons]; simp only [List.length_cons, ih]; omega

theorem prs_take (l : List (Int × Int)) (n : Nat) : (prs l).take (n * 2) = prs (l.take n) := by
  induction l generalizing n with
  | nil => simp [prs]
  | cons p l ih =>
    cases n with
    | zero => simp [prs]
    | succ n => rw [show (n + 1) * 2 = n * 2 + 1 + 1 by omega, List.take_succ_cons, prs_cons, prs_cons, List.take_succ_cons, List.take_succ_cons, ih]

theorem prs_drop (l : List (Int × Int)) (n : Nat) : (prs l).drop (n * 2) = prs (l.drop n) := by
  induction l generalizing n with
  | nil => simp [prs]
  | cons p l ih =>
    cases n with
    | zero => simp [prs]
    | succ n => rw [show (n + 1) * 2 = n * 2 + 1 + 1 by omega, List.drop_succ_cons, prs_cons, List.drop_succ_cons, List.drop_succ_cons, ih]

theorem prs_get {l : List (Int × Int)} {i : Nat} {p : Int × Int} (h : l[i]? = some p) : (prs l)[i * 2]? = some (.int .i64 p.1) ∧ (prs l)[i * 2 + 1]? = some (.int .i64 p.2) := by
  induction l generalizing i with
  | nil => simp at h
  | cons q l ih =>
    cases i with
    | zero => simp at h; subst h; exact ⟨rfl, rfl⟩
    | succ i =>
      have := ih (i := i) (by simpa using h)
      rw [prs_cons, show (i + 1) * 2 = i * 2 + 1 + 1 by omega]
      simpa using this

theorem slc_prs_len {e w L s l} (h : Ok e (slc 2 s (prs l) :: L) w) : s.len = l.length := by
  have := h.slc_len
  rw [prs_len] at this
  omega

/-- an element of a row of pairs -/
theorem ix_pr {e w L s l} {i : Int} {f : Nat → Nat → Prop} (h : Ok e (slc 2 s (prs l) :: L) w) (h0 : 0 ≤ i) (h1 : i < l.length)
    (k : ∀ b o p, l[i.toNat]? = some p → s.a = some ⟨b, 0, none⟩ → o = i.toNat * 2 → (∀ w', (∃ L', Ok e (slc 2 s (prs l) :: L') w') → w'.cell? ⟨b, o, none⟩ = some (.int .i64 p.1)) → (∀ w', (∃ L', Ok e (slc 2 s (prs l) :: L') w') → w'.cell? ⟨b, o + 1, none⟩ = some (.int .i64 p.2)) → f b o) : ix s i 2 f := by
  have hl := slc_prs_len h
  obtain ⟨-, -, hc, hcase⟩ := h.slcE
  rcases hcase with ⟨ha, hcap, hL⟩ | ⟨b, post, ha, hp, hk⟩
  · omega
  · have hlt : i.toNat < l.length := by omega
    have hg := prs_get (List.getElem?_eq_getElem hlt)
    refine ⟨b, 0, ha, h0, by omega, k b _ _ (List.getElem?_eq_getElem hlt) ha (by omega) ?_ ?_⟩
    · rintro w' ⟨L', h'⟩
      have := h'.slc_cells ha _ _ hg.1
      rw [Addr.add_lit] at this
      exact this
    · rintro w' ⟨L', h'⟩
      have := h'.slc_cells ha _ _ hg.2
      rw [Addr.add_lit] at this
      exact this

/-- where someone stands -/
def atI (l : List (Int × Int)) (id : Int) : Int := match l.findIdx? (fun p => p.1 == id) with
  | some i => (i : Int)
  | none => -1

theorem atI_none {l : List (Int × Int)} {id : Int} (h : ∀ p ∈ l, p.1 ≠ id) : atI l id = -1 := by
  have : l.findIdx? (fun p => p.1 == id) = none := by
    rw [List.findIdx?_eq_none_iff]
    intro p hp
    simpa using h p hp
  simp [atI, this]

theorem atI_some {l : List (Int × Int)} {id : Int} {n : Nat} {p : Int × Int} (h : l[n]? = some p) (hp : p.1 = id) (hn : ∀ m, m < n → ∀ q, l[m]? = some q → q.1 ≠ id) : atI l id = n := by
  have : l.findIdx? (fun p => p.1 == id) = some n := by
    rw [List.findIdx?_eq_some_iff_getElem]
    have hlt := (List.getElem?_eq_some_iff.1 h).1
    have hv := (List.getElem?_eq_some_iff.1 h).2
    refine ⟨hlt, by rw [hv]; simpa using hp, fun j hj => ?_⟩
    have := hn j hj _ (List.getElem?_eq_getElem (by omega))
    simpa using this
  simp [atI, this]

theorem atI_lt {l : List (Int × Int)} {id : Int} (h : 0 ≤ atI l id) : (atI l id).toNat < l.length ∧ ∃ p, l[(atI l id).toNat]? = some p ∧ p.1 = id := by
  unfold atI at h ⊢
  split at h
  · next i hi =>
    obtain ⟨hlt, hp, _⟩ := List.findIdx?_eq_some_iff_getElem.1 hi
    exact ⟨by simpa using hlt, l[i], List.getElem?_eq_getElem hlt, by simpa using hp⟩
  · omega

theorem atI_bd (l : List (Int × Int)) (id : Int) : -1 ≤ atI l id ∧ (atI l id < 0 → atI l id = -1) := by
  unfold atI
  split <;> constructor <;> omega

theorem slT_item : SlT Pg 108 2 := .of (by kernel_rfl)

theorem Clone_item {e w L s vs R} (h : Ok e (slc 2 s vs :: L) w) (hb : s.len ≤ 2 ^ 31) (k : ∀ s' w', s'.len = s.len → Ok e (slc 2 s' vs :: slc 2 s vs :: L) w' → R [vS s'] w') : sh97 s R w := by
  unfold sh97
  obtain ⟨hl, hv, hc, hcase⟩ := h.slcE
  refine cs.mk (fun hn => ?_) (fun hn => ?_)
  · rcases hcase with ⟨ha, hcap, hL⟩ | ⟨b, post, ha, hp, hk⟩
    · have h0 : s.len = 0 := by omega
      have : vs = [] := List.eq_nil_of_length_eq_zero (by rw [hl, h0])
      subst this
      exact k ⟨none, 0, 0⟩ w h0.symm (h.slcNil 2)
    · rw [ha] at hn; cases hn
  · refine al.mk h fun b w1 h1 => ?_
    have h2 := h1.slcNew (n := 0) (sz := 2) rfl (by simp)
    refine ef.append2 slT_item (by decide) h2 (by simp only; omega) fun s' w2 hl2 h3 => ?_
    exact k s' w2 (by simpa using hl2) (by simpa using h3)

theorem Clip_item {e w L s vs R} (h : Ok e (slc 2 s vs :: L) w) (k : ∀ s' w', s'.len = s.len → Ok e (slc 2 s' vs :: L) w' → R [vS s'] w') : sh96 s R w := by
  unfold sh96
  exact sb.clip h fun s' hl h' => k s' w hl h'

theorem ov_item : OvT Pg 227 108 := ⟨Tryz.f227, 4, Tryz.func227, by kernel_rfl, by kernel_rfl, by kernel_rfl, by kernel_rfl⟩

theorem Delete_item {e w L s l R} {i : Int} (h : Ok e (slc 2 s (prs l) :: L) w) (hi : 0 ≤ i) (hil : i < l.length) (hb : l.length ≤ 2 ^ 31)
    (k : ∀ s' w', Ok e (slc 2 s' (prs (l.take i.toNat ++ l.drop (i.toNat + 1))) :: L) w' → R [vS s'] w') : sh193 s i (i + 1) R w := by
  unfold sh193
  have hl := slc_prs_len h
  refine del_body slT_item (by decide) h hi (by omega) (by omega) (by omega) fun s' w' _ h' => k s' w' ?_
  rw [prs_append, ← prs_take, ← prs_drop]
  rw [show (i + 1).toNat = i.toNat + 1 by omega] at h'
  exact h'

theorem Insert_item {e w L s x l R} {i : Int} {y : Int × Int} (h : Ok e (slc 2 x (prs [y]) :: slc 2 s (prs l) :: L) w) (hi : 0 ≤ i) (hil : i ≤ l.length) (hb : l.length ≤ 2 ^ 30)
    (k : ∀ s' w', Ok e (slc 2 s' (prs (l.take i.toNat ++ [y] ++ l.drop i.toNat)) :: L) w' → R [vS s'] w') : sh172 s i x R w := by
  unfold sh172
  have hl := slc_prs_len h.p1
  have hx := slc_prs_len h
  simp only [List.length_singleton] at hx
  refine ins_body (ki := .i64) slT_item (by kernel_rfl) ov_item (by decide) h hi (by omega) (by omega) (by omega) fun s' w' _ h' => k s' w' ?_
  rw [prs_append, prs_append, ← prs_take, ← prs_drop]
  exact h'

end Go.Proofs.YtenonfkfoedfmaaGreatDoor.B


/- Contracts of order.Line and order.Queue. -/
namespace Go.Proofs.YtenonfkfoedfmaaGreatDoor.B
open Go
set_option linter.unusedVariables false

/-- the line without the one that stands at a place -/
def rmAt (l : List (Int × Int)) (i : Nat) : List (Int × Int) := l.take i ++ l.drop (i + 1)

def rmL (l : List (Int × Int)) (id : Int) : List (Int × Int) := if atI l id < 0 then l else rmAt l (atI l id).toNat

def priL (l : List (Int × Int)) (id : Int) : Int := if atI l id < 0 then 0 else (l[(atI l id).toNat]?.getD (0, 0)).2

/-- where a newcomer is put -/
def pp (l : List (Int × Int)) (y : Int) : Nat → Nat
  | 0 => 0
  | n + 1 => if y < (l[n]?.getD (0, 0)).2 then pp l y n else n + 1

theorem pp_le (l : List (Int × Int)) (y : Int) (n : Nat) : pp l y n ≤ n := by
  induction n with
  | zero => exact Nat.le_refl _
  | succ n ih => unfold pp; split <;> omega

def putK (byPri : Bool) (l : List (Int × Int)) (y : Int) : Nat := if byPri then pp l y l.length else l.length

def putL (byPri : Bool) (l : List (Int × Int)) (x : Int × Int) : List (Int × Int) := l.take (putK byPri l x.2) ++ [x] ++ l.drop (putK byPri l x.2)

def addL (byPri : Bool) (l : List (Int × Int)) (id pri : Int) : Int × List (Int × Int) :=
  if id < 1 ∨ id > 16 ∨ pri < 1 ∨ pri > 16 then (-17, l) else if 0 ≤ atI l id then (-41, l) else (0, putL byPri l (id, pri))

def chgL (byPri : Bool) (l : List (Int × Int)) (id pri : Int) : Bool × List (Int × Int) :=
  if atI l id < 0 ∨ pri < 1 ∨ pri > 16 then (false, l) else if byPri then (true, putL byPri (rmL l id) (id, pri)) else (true, l.set (atI l id).toNat (id, pri))

def lineP (p : Nat) (rest : List Value) (l : List (Int × Int)) : SP := fun h => ∃ s, oksH [pts p (vS s :: rest), slc 2 s (prs l)] h

theorem lineE {e w L p rest l} (h : Ok e (lineP p rest l :: L) w) : ∃ s, s.len = l.length ∧ Ok e (pts p (vS s :: rest) :: slc 2 s (prs l) :: L) w := by
  obtain ⟨s, h⟩ := h.exE
  have h := h.unpack
  exact ⟨s, slc_prs_len h.p1, h⟩

theorem lineI {e w L p rest l s} (h : Ok e (pts p (vS s :: rest) :: slc 2 s (prs l) :: L) w) : Ok e (lineP p rest l :: L) w :=
  (Ok.pack (M := [pts p (vS s :: rest), slc 2 s (prs l)]) h).imp fun k hk => ⟨s, hk⟩

theorem IndexFunc_at {e w L s l c id R} (h : Ok e (slc 2 s (prs l) :: pts c [.int .i64 id] :: L) w) (hb : l.length ≤ 2 ^ 31)
    (k : ∀ w', Ok e (slc 2 s (prs l) :: pts c [.int .i64 id] :: L) w' → R [.int .i64 (atI l id)] w') : sh225 s ⟨226, [], [.pointer (some ⟨c, 0, none⟩)]⟩ R w := by
  unfold sh225
  have hl := slc_prs_len h
  refine lp.mk (fun t w' => ∃ n : Nat, t.1 = (n : Int) ∧ n ≤ l.length ∧ (∀ m, m < n → ∀ q, l[m]? = some q → q.1 ≠ id) ∧ Ok e (slc 2 s (prs l) :: pts c [.int .i64 id] :: L) w')
    (fun t _ => l.length - t.1.toNat) ⟨0, rfl, Nat.zero_le _, fun m hm => absurd hm (Nat.not_lt_zero _), h⟩ ?_
  rintro ⟨i, _⟩ w1 ⟨n, hn, hnl, hno, h⟩
  dsimp only at hn
  subst hn
  refine cs.mk (fun hlt => ?_) (fun hge => ?_)
  · have hlt : n < l.length := by have := of_decide_eq_true hlt; dsimp only at this; omega
    refine ix_pr h (by simp) (by simpa using hlt) fun b o p hp ha ho hc1 hc2 => ?_
    refine ldI.mk (hc1 _ ⟨_, h⟩) (ldI.mk (hc2 _ ⟨_, h⟩) ?_)
    refine ob.mk (by kernel_rfl) ?_
    have hp : l[n]? = some p := by simpa using hp
    refine call226 (a0 := (p.1, p.2, ())) (c0 := c) ?_
    unfold sh226
    refine al.mk h fun b1 w2 h => ?_
    refine ldI.mk (h.cell rfl) (ldI.mk (h.p2.cell rfl) ?_)
    refine ⟨(p.1 == id, ()), rfl, ?_⟩
    dsimp only
    refine cs.mk (fun he => ?_) (fun hne => ?_)
    · have he : p.1 = id := by simpa using he
      have := k w2 h.drop
      rw [atI_some hp he hno] at this
      exact this
    · have hne : p.1 ≠ id := by simpa using hne
      refine ⟨⟨n + 1, ?_, hlt, fun m hm q hq => ?_, h.drop⟩, ?_⟩
      · show w64 _ = _
        rw [w64_in (by omega) (by omega)]; rfl
      · rcases Nat.lt_or_ge m n with hm' | hm'
        · exact hno m hm' q hq
        · have : m = n := by omega
          subst this
          rw [hp] at hq
          cases hq
          exact hne
      · show _ - (w64 _).toNat < _ - Int.toNat _
        rw [w64_in (by omega) (by omega)]
        omega
  · have hge : l.length ≤ n := by have := of_decide_eq_false hge; dsimp only at this; omega
    have := k w1 h
    rw [atI_none fun p hp => by
      obtain ⟨m, hm, rfl⟩ := List.getElem_of_mem hp
      exact hno m (by omega) _ (List.getElem?_eq_getElem hm)] at this
    exact this

theorem at_order {e w L p rest l id R} (h : Ok e (lineP p rest l :: L) w) (hb : l.length ≤ 2 ^ 31) (k : ∀ w', Ok e (lineP p rest l :: L) w' → R [.int .i64 (atI l id)] w') : sh171 (some ⟨p, 0, none⟩) id R w := by
  obtain ⟨s, hs, h⟩ := lineE h
  unfold sh171
  refine al.mk h fun b1 w1 h => ?_
  refine nn.mk (ldS.mk (h.p1.cell rfl) ?_)
  refine call225 (a1 := ⟨226, [], [.pointer (some ⟨b1, 0, none⟩)]⟩) (IndexFunc_at (c := b1) (id := id) h.p2 hb fun w2 h => ⟨(atI l id, ()), rfl, ?_⟩)
  dsimp only
  exact k w2 (lineI h.p2.p2.drop)

theorem Has_order {e w L p rest l id R} (h : Ok e (lineP p rest l :: L) w) (hb : l.length ≤ 2 ^ 31) (k : ∀ w', Ok e (lineP p rest l :: L) w' → R [.bool (decide (0 ≤ atI l id))] w') : sh94 (some ⟨p, 0, none⟩) id R w := by
  unfold sh94
  refine call171 (at_order h hb fun w1 h => ⟨(atI l id, ()), rfl, ?_⟩)
  exact k w1 h

theorem Row_order {e w L p rest l R} (h : Ok e (lineP p rest l :: L) w) (hb : l.length ≤ 2 ^ 31) (k : ∀ s w', s.len = l.length → Ok e (slc 2 s (prs l) :: lineP p rest l :: L) w' → R [vS s] w') : sh50 (some ⟨p, 0, none⟩) R w := by
  obtain ⟨s, hs, h⟩ := lineE h
  unfold sh50
  (repeat (first | with_reducible refine nn.mk ?_ | ((first | with_reducible apply ldI.mk | with_reducible apply ldB.mk | with_reducible apply ldP.mk | with_reducible apply ldS.mk | with_reducible apply ldM.mk | with_reducible apply ldF.mk | with_reducible apply ldG.mk); (· exact (by refine Ok.cellS h (by with_reducible first | exact sl0 | exact .there sl0 | exact .there sl1 | exact .there sl2 | exact .there sl3 | exact .there sl4 | exact .there sl5 | exact .there sl6 | exact .there sl7 | exact .there sl8 | exact .there sl9 | exact .there sl10 | exact .there sl11 | exact .there sl12) ?_; rfl)))))
  refine call97 (Clone_item h.p1 (by omega) fun s1 w1 hl1 h => ⟨(s1, ()), rfl, ?_⟩)
  dsimp only
  refine call96 (Clip_item h fun s2 w2 hl2 h => ⟨(s2, ()), rfl, ?_⟩)
  dsimp only
  exact k s2 w2 (by omega) (lineI h.p2.p2.p1).p1

theorem First_order {e w L p rest l R} (h : Ok e (lineP p rest l :: L) w) (k : ∀ w', Ok e (lineP p rest l :: L) w' → R [.agg #[.int .i64 (l.head?.getD (0, 0)).1, .int .i64 (l.head?.getD (0, 0)).2], .bool (!l.isEmpty)] w') : sh244 (some ⟨p, 0, none⟩) R w := by
  obtain ⟨s, hs, h⟩ := lineE h
  unfold sh244
  refine al.mk h fun b1 w1 h => ?_
  refine nn.mk (ldS.mk (h.p1.cell rfl) ?_)
  refine cs.mk (fun h0 => ?_) (fun h0 => ?_)
  · have h0 : l = [] := List.eq_nil_of_length_eq_zero (by have : (s.len : Int) = 0 := by simpa using h0
                                                          omega)
    subst h0
    refine st1.mk h (by simp) fun w2 h => st1.mk h (by simp) fun w3 h => ?_
    refine ldI.mk (h.cell rfl) (ldI.mk (h.cell rfl) ?_)
    exact k w3 (lineI h.drop)
  · have h0 : s.len ≠ 0 := by simpa using h0
    refine nn.mk (ldS.mk (h.p1.cell rfl) ?_)
    refine ix_pr h.p2 (by omega) (by omega) fun b o q hq ha ho hc1 hc2 => ?_
    refine ldI.mk (hc1 _ ⟨_, h.p2⟩) (ldI.mk (hc2 _ ⟨_, h.p2⟩) ?_)
    refine st1.mk h (by simp) fun w2 h => st1.mk h (by simp) fun w3 h => ?_
    refine ldI.mk (h.cell rfl) (ldI.mk (h.cell rfl) ?_)
    have := k w3 (lineI h.drop)
    cases l with
    | nil => simp at hq
    | cons x r =>
      simp at hq
      subst hq
      exact this

theorem Remove_order {e w L p rest l id R} (h : Ok e (lineP p rest l :: L) w) (hb : l.length ≤ 2 ^ 31) (k : ∀ w', Ok e (lineP p rest (rmL l id) :: L) w' → R [.bool (decide (0 ≤ atI l id))] w') : sh111 (some ⟨p, 0, none⟩) id R w := by
  unfold sh111
  refine call171 (at_order h hb fun w1 h => ⟨(atI l id, ()), rfl, ?_⟩)
  dsimp only
  refine cs.mk (fun h0 => ?_) (fun h0 => ?_)
  · have h0 : atI l id < 0 := by simpa using h0
    have := k w1 (by rw [rmL, if_pos h0]; exact h)
    rw [show decide (0 ≤ atI l id) = false by simp; omega] at this
    exact this
  · have h0 : ¬ atI l id < 0 := by simpa using h0
    obtain ⟨hlt, q, hq, hq1⟩ := atI_lt (by omega : 0 ≤ atI l id)
    obtain ⟨s, hs, h⟩ := lineE h
    refine nn.mk (ldS.mk (h.cell rfl) ?_)
    rw [w64_in (by omega) (by omega)]
    refine call193 (Delete_item h.p1 (by omega) (by omega) (by omega) fun s2 w2 h => ⟨(s2, ()), rfl, ?_⟩)
    dsimp only
    refine nn.mk (st1.mk h.p1 (by simp) fun w3 h => ?_)
    have := k w3 (by rw [rmL, if_neg h0]; exact lineI h)
    rw [show decide (0 ≤ atI l id) = true by simp; omega] at this
    exact this

theorem New_order {e w L byPri R} (h : Ok e L w) (k : ∀ p w', Ok e (lineP p [.bool byPri] [] :: L) w' → R [.pointer (some ⟨p, 0, none⟩)] w') : sh44 byPri R w := by
  unfold sh44
  refine al.mk h fun p w1 h => k p w1 ?_
  exact lineI (s := ⟨none, 0, 0⟩) (h.slcNil 2).p1

end Go.Proofs.YtenonfkfoedfmaaGreatDoor.B


/- Contracts of order.Queue. -/
namespace Go.Proofs.YtenonfkfoedfmaaGreatDoor.B
open Go
set_option linter.unusedVariables false

theorem put_order {e w L p byPri l R} {x : Int × Int} (h : Ok e (lineP p [.bool byPri] l :: L) w) (hb : l.length ≤ 2 ^ 20) (k : ∀ w', Ok e (lineP p [.bool byPri] (putL byPri l x) :: L) w' → R [] w') : sh95 (some ⟨p, 0, none⟩) (x.1, x.2, ()) R w := by
  unfold sh95
  refine al.mk h fun b1 w1 h => ?_
  obtain ⟨s, hs, h⟩ := lineE h.p1
  refine nn.mk (ldS.mk (h.cell rfl) ?_)
  refine lp.mk (fun t w' => ∃ n : Nat, t.1 = (n : Int) ∧ n ≤ l.length ∧ (if byPri then pp l x.2 n else n) = putK byPri l x.2 ∧ Ok e (pts p [vS s, .bool byPri] :: slc 2 s (prs l) :: pts b1 [.int .i64 x.1, .int .i64 x.2] :: L) w')
    (fun t _ => t.1.toNat) ⟨l.length, by rw [← hs], Nat.le_refl _, rfl, h⟩ ?_
  rintro ⟨i, _⟩ w2 ⟨n, hn, hnl, hinv, h⟩
  dsimp only at hn
  subst hn
  refine dr.mk h fun w3 h => ?_
  refine jn.at (byPri && decide (0 < n) && decide (x.2 < (l[n - 1]?.getD (0, 0)).2), ()) (fun w' => w3 = w') (fun J hJ => ?_) (fun w4 hw => ?_)
  · have hJ := hJ _ rfl
    refine nn.mk (ldB.mk (h.cell rfl) ?_)
    refine cs.mk (fun h1 => ?_) (fun h1 => ?_)
    · refine cs.mk (fun h2 => ?_) (fun h2 => ?_)
      · have h2 : 0 < n := by have := of_decide_eq_true h2; dsimp only at this; omega
        refine nn.mk (ldS.mk (h.cell rfl) ?_)
        have hw : w64 ((n : Int) - 1) = ((n - 1 : Nat) : Int) := by rw [w64_in (by omega) (by omega)]; omega
        dsimp only
        rw [hw]
        refine ix_pr h.p1 (by omega) (by omega) fun b o q hq ha ho hc1 hc2 => ?_
        refine ldI.mk (hc2 _ ⟨_, h.p1⟩) (ldI.mk (h.p2.cell rfl) ?_)
        rw [Int.toNat_natCast] at hq
        simpa [h1, h2, hq] using hJ
      · have h2 : ¬ 0 < n := by have := of_decide_eq_false h2; dsimp only at this; omega
        simpa [h1, h2] using hJ
    · simpa [h1] using hJ
  subst hw
  dsimp only
  refine cs.mk (fun h1 => ?_) (fun h1 => ?_)
  · simp only [Bool.and_eq_true, decide_eq_true_eq] at h1
    obtain ⟨m, rfl⟩ : ∃ m, n = m + 1 := ⟨n - 1, by omega⟩
    have hw : w64 (((m + 1 : Nat) : Int) - 1) = (m : Int) := by rw [w64_in (by omega) (by omega)]; omega
    rw [hw]
    refine ⟨⟨m, rfl, by omega, ?_, h⟩, ?_⟩
    · rw [← hinv, if_pos h1.1.1, if_pos h1.1.1]
      have h3 : x.2 < (l[m]?.getD (0, 0)).2 := h1.2
      rw [show pp l x.2 (m + 1) = if x.2 < (l[m]?.getD (0, 0)).2 then pp l x.2 m else m + 1 from rfl, if_pos h3]
    · show Int.toNat _ < Int.toNat _
      omega
  · have hnk : n = putK byPri l x.2 := by
      rw [← hinv]
      cases byPri with
      | false => rfl
      | true =>
        rw [if_pos rfl]
        cases n with
        | zero => rfl
        | succ m =>
          simp at h1
          rw [show pp l x.2 (m + 1) = if x.2 < (l[m]?.getD (0, 0)).2 then pp l x.2 m else m + 1 from rfl, if_neg (by omega)]
    refine dr.mk h fun w4 h => ?_
    refine nn.mk (ldS.mk (h.cell rfl) ?_)
    refine ldI.mk (h.p2.cell rfl) (ldI.mk (h.p2.cell rfl) ?_)
    refine al.mk h fun b2 w5 h => ?_
    refine ⟨h.p1.cell rfl, ?_⟩
    have h2 := (h.slcNew (n := 1) (sz := 2) rfl (by intro v hv; simp at hv; rcases hv with rfl | rfl <;> rfl)).p2.p1
    refine call172 (Insert_item (y := x) (l := l) h2 (by omega) (by omega) (by omega) fun s6 w6 h => ⟨(s6, ()), rfl, ?_⟩)
    dsimp only
    refine nn.mk (st1.mk h.p1 (by simp) fun w7 h => ?_)
    refine k w7 ?_
    have h := (lineI (rest := [.bool byPri]) h).p1.drop
    rw [Int.toNat_natCast, hnk] at h
    exact h

theorem may_order {e w L y R} (h : Ok e L w) (k : R [.bool (decide (1 ≤ y ∧ y ≤ 16))] w) : sh93 y R w := by
  unfold sh93
  refine jn.bool (decide (1 ≤ y ∧ y ≤ 16)) (fun J hJ => cs.mk (fun h1 => ?_) (fun h1 => ?_)) k
  · simpa [show 1 ≤ y by simpa using h1] using hJ
  · simpa [show ¬ 1 ≤ y by simpa using h1] using hJ

theorem Add_order {e w L p byPri l id pri R} (h : Ok e (lineP p [.bool byPri] l :: L) w) (hb : l.length ≤ 2 ^ 20) (k : ∀ w', Ok e (lineP p [.bool byPri] (addL byPri l id pri).2 :: L) w' → R [.int .i64 (addL byPri l id pri).1] w') : sh49 (some ⟨p, 0, none⟩) id pri R w := by
  unfold sh49
  unfold addL at k
  refine jn.bool (decide (id < 1) || decide (id > 16)) (fun J hJ => cs.mk (fun h1 => ?_) (fun h1 => ?_)) ?_
  · simpa [h1] using hJ
  · simpa [h1] using hJ
  dsimp only
  refine jn.bool (decide (id < 1 ∨ id > 16 ∨ pri < 1 ∨ pri > 16)) (fun J hJ => cs.mk (fun h1 => ?_) (fun h1 => ?_)) ?_
  · have h1 : id < 1 ∨ id > 16 := by simpa using h1
    rw [decide_eq_true (by omega)] at hJ
    exact hJ
  · have h1 : ¬ id < 1 ∧ ¬ id > 16 := by simpa using h1
    refine call93 (may_order h ⟨(decide (1 ≤ pri ∧ pri ≤ 16), ()), rfl, ?_⟩)
    dsimp only
    rw [show (!decide (1 ≤ pri ∧ pri ≤ 16)) = decide (id < 1 ∨ id > 16 ∨ pri < 1 ∨ pri > 16) by rw [← decide_not]; exact decide_eq_decide.2 (by omega)]
    exact hJ
  dsimp only
  refine cs.mk (fun h1 => ?_) (fun h1 => ?_)
  · have h1 := of_decide_eq_true h1
    rw [if_pos h1] at k
    exact k w h
  · have h1 := of_decide_eq_false h1
    rw [if_neg h1] at k
    refine nn.mk ?_
    refine call94 (Has_order h (by omega) fun w1 h => ⟨(decide (0 ≤ atI l id), ()), rfl, ?_⟩)
    dsimp only
    refine cs.mk (fun h2 => ?_) (fun h2 => ?_)
    · rw [if_pos (of_decide_eq_true h2)] at k
      exact k w1 h
    · rw [if_neg (of_decide_eq_false h2)] at k
      refine call95 (a1 := (id, pri, ())) (put_order (x := (id, pri)) h hb fun w2 h => ⟨(), rfl, ?_⟩)
      exact k w2 h

theorem rmL_head (x : Int × Int) (l : List (Int × Int)) : rmL (x :: l) x.1 = l := by
  have : atI (x :: l) x.1 = 0 := atI_some (n := 0) (p := x) rfl rfl (fun m hm => absurd hm (Nat.not_lt_zero _))
  simp [rmL, this, rmAt]

theorem Take_order {e w L p byPri l R} (h : Ok e (lineP p [.bool byPri] l :: L) w) (hb : l.length ≤ 2 ^ 20) (k : ∀ w', Ok e (lineP p [.bool byPri] l.tail :: L) w' → R [.agg #[.int .i64 (l.head?.getD (0, 0)).1, .int .i64 (l.head?.getD (0, 0)).2], .bool (!l.isEmpty)] w') : sh214 (some ⟨p, 0, none⟩) R w := by
  unfold sh214
  refine al.mk h fun b1 w1 h => nn.mk ?_
  refine call244 (First_order h.p1 fun w2 h => ⟨(((l.head?.getD (0, 0)).1, (l.head?.getD (0, 0)).2, ()), !l.isEmpty, ()), rfl, ?_⟩)
  refine al.mk h fun b2 w3 h => ?_
  refine st1.mk h (by simp) fun w4 h => st1.mk h (by simp) fun w5 h => ?_
  dsimp only
  refine jn.at () (fun w' => Ok e (pts b2 [.int .i64 (l.head?.getD (0, 0)).1, .int .i64 (l.head?.getD (0, 0)).2] :: lineP p [.bool byPri] l.tail :: pts b1 [.int .i64 0, .int .i64 0] :: L) w') (fun J hJ => cs.mk (fun h1 => ?_) (fun h1 => ?_)) (fun w6 h => ?_)
  · refine dr.mk h fun w6 h => nn.mk (ldI.mk (h.cell rfl) ?_)
    cases l with
    | nil => simp at h1
    | cons x r =>
      refine call111 (Remove_order h.p1 (by omega) fun w7 h => ⟨(decide (0 ≤ atI (x :: r) x.1), ()), rfl, ?_⟩)
      rw [show rmL (x :: r) ((x :: r).head?.getD (0, 0)).1 = r from rmL_head x r] at h
      exact hJ _ h.p1
  · have : l = [] := by simpa using h1
    subst this
    exact hJ _ h
  · refine ldI.mk (h.cell rfl) (ldI.mk (h.cell rfl) ?_)
    refine st1.mk h.p2 (by simp) fun w7 h => st1.mk h (by simp) fun w8 h => ?_
    refine ldI.mk (h.cell rfl) (ldI.mk (h.cell rfl) ?_)
    exact k w8 h.drop.drop

end Go.Proofs.YtenonfkfoedfmaaGreatDoor.B


/- The order in which a queue keeps those that wait. -/
namespace Go.Proofs.YtenonfkfoedfmaaGreatDoor.B
open Go
set_option linter.unusedVariables false

theorem pp_spec (l : List (Int × Int)) (y : Int) (n : Nat) : (∀ j, pp l y n ≤ j → j < n → y < (l[j]?.getD (0, 0)).2) ∧ (0 < pp l y n → ¬ y < (l[pp l y n - 1]?.getD (0, 0)).2) := by
  induction n with
  | zero => exact ⟨fun j _ h => absurd h (Nat.not_lt_zero _), fun h => absurd h (Nat.lt_irrefl _)⟩
  | succ n ih =>
    rw [show pp l y (n + 1) = if y < (l[n]?.getD (0, 0)).2 then pp l y n else n + 1 from rfl]
    split
    · next h =>
      refine ⟨fun j h1 h2 => ?_, ih.2⟩
      rcases Nat.lt_or_ge j n with h3 | h3
      · exact ih.1 j h1 h3
      · have : j = n := by omega
        rw [this]; exact h
    · next h => exact ⟨fun j h1 h2 => by omega, fun _ => h⟩

/-- before another: a lower number, or the same and came first -/
abbrev bef (a b : Int × Int) : Prop := a.2 < b.2 ∨ (a.2 = b.2 ∧ a.1 < b.1)

theorem putL_mem {byPri : Bool} {l : List (Int × Int)} {x p : Int × Int} : p ∈ putL byPri l x ↔ p = x ∨ p ∈ l := by
  unfold putL
  generalize putK byPri l x.2 = k
  have : p ∈ l ↔ p ∈ l.take k ∨ p ∈ l.drop k := by
    rw [← List.mem_append, List.take_append_drop]
  rw [List.mem_append, List.mem_append, List.mem_singleton, this]
  constructor
  · rintro ((h | h) | h)
    · exact .inr (.inl h)
    · exact .inl h
    · exact .inr (.inr h)
  · rintro (h | h | h)
    · exact .inl (.inr h)
    · exact .inl (.inl h)
    · exact .inr h

/-- the order of a queue: by number, then by who came first; or by who came first alone -/
abbrev ordR (byPri : Bool) (a b : Int × Int) : Prop := if byPri then bef a b else a.1 < b.1

end Go.Proofs.YtenonfkfoedfmaaGreatDoor.B


/- Who stands in a queue: each once, each a task. -/
namespace Go.Proofs.YtenonfkfoedfmaaGreatDoor.B
open Go
set_option linter.unusedVariables false

abbrev ids (l : List (Int × Int)) : List Int := l.map Prod.fst

theorem atI_neg {l : List (Int × Int)} {id : Int} : atI l id < 0 ↔ id ∉ ids l := by
  constructor
  · intro h hm
    obtain ⟨p, hp, he⟩ := List.mem_map.1 hm
    unfold atI at h
    split at h
    · omega
    · next h1 =>
      rw [List.findIdx?_eq_none_iff] at h1
      have := h1 p hp
      simp [he] at this
  · intro h
    rw [atI_none fun p hp he => h (List.mem_map.2 ⟨p, hp, he⟩)]
    decide

theorem atI_pos {l : List (Int × Int)} {id : Int} : 0 ≤ atI l id ↔ id ∈ ids l := by
  rw [← Decidable.not_iff_not, Int.not_le]
  exact atI_neg

theorem putL_perm (byPri : Bool) (l : List (Int × Int)) (x : Int × Int) : (putL byPri l x).Perm (x :: l) := by
  unfold putL
  rw [List.append_assoc]
  refine List.perm_middle.trans (List.Perm.cons _ ?_)
  show (l.take (putK byPri l x.2) ++ l.drop (putK byPri l x.2)).Perm l
  rw [List.take_append_drop]

theorem putL_ids {byPri : Bool} {l : List (Int × Int)} {x : Int × Int} : (ids (putL byPri l x)).Perm (x.1 :: ids l) := (putL_perm byPri l x).map Prod.fst

theorem rmL_sub (l : List (Int × Int)) (id : Int) : (rmL l id).Sublist l := by
  unfold rmL
  split
  · exact List.Sublist.refl _
  · rw [rmAt, ← List.eraseIdx_eq_take_drop_succ]
    exact List.eraseIdx_sublist ..

theorem rmL_none {l : List (Int × Int)} {id : Int} (h : atI l id < 0) : rmL l id = l := by rw [rmL, if_pos h]

theorem rmL_perm {l : List (Int × Int)} {id : Int} (h : 0 ≤ atI l id) : ∃ p, p.1 = id ∧ l.Perm (p :: rmL l id) := by
  obtain ⟨hlt, p, hp, hp1⟩ := atI_lt h
  refine ⟨p, hp1, ?_⟩
  rw [rmL, if_neg (by omega), rmAt]
  have hd : l.drop (atI l id).toNat = p :: l.drop ((atI l id).toNat + 1) := by
    rw [List.drop_eq_getElem_cons hlt]
    rw [List.getElem?_eq_getElem hlt] at hp
    cases hp
    rfl
  have h2 : l = l.take (atI l id).toNat ++ p :: l.drop ((atI l id).toNat + 1) := by rw [← hd, List.take_append_drop]
  exact (List.Perm.of_eq h2).trans List.perm_middle

/-- each once, each a task -/
def okL (l : List (Int × Int)) : Prop := (ids l).Nodup ∧ ∀ i ∈ ids l, 1 ≤ i ∧ i ≤ 16

theorem okL_nil : okL [] := ⟨List.nodup_nil, by simp⟩

theorem nodup_bound : ∀ (n : Nat) (l : List Int), l.Nodup → (∀ i ∈ l, 1 ≤ i ∧ i ≤ (n : Int)) → l.length ≤ n
  | 0, [], _, _ => Nat.le_refl _
  | 0, a :: l, _, h => by have := h a (List.mem_cons_self ..); omega
  | n + 1, l, hn, h => by
    by_cases ha : ((n : Int) + 1) ∈ l
    · have := nodup_bound n (l.erase ((n : Int) + 1)) (hn.erase _) (fun i hi => by
        have h1 := (List.Nodup.mem_erase_iff hn).1 hi
        have := h i h1.2
        omega)
      rw [List.length_erase_of_mem ha] at this
      omega
    · have := nodup_bound n l hn (fun i hi => by
        have h1 := h i hi
        have : i ≠ (n : Int) + 1 := fun e => ha (e ▸ hi)
        omega)
      omega

theorem okL_len {l : List (Int × Int)} (h : okL l) : l.length ≤ 16 := by
  have := nodup_bound 16 (ids l) h.1 h.2
  simpa using this

theorem okL_sub {l m : List (Int × Int)} (h : okL l) (hs : m.Sublist l) : okL m := by
  have := hs.map Prod.fst
  exact ⟨this.nodup h.1, fun i hi => h.2 i (this.subset hi)⟩

theorem okL_put {byPri : Bool} {l : List (Int × Int)} {x : Int × Int} (h : okL l) (h1 : 1 ≤ x.1 ∧ x.1 ≤ 16) (h2 : x.1 ∉ ids l) : okL (putL byPri l x) := by
  have hp := putL_ids (byPri := byPri) (l := l) (x := x)
  refine ⟨hp.nodup_iff.2 (List.nodup_cons.2 ⟨h2, h.1⟩), fun i hi => ?_⟩
  rcases List.mem_cons.1 (hp.mem_iff.1 hi) with rfl | hi
  · exact h1
  · exact h.2 i hi

theorem okL_tail {x : Int × Int} {l : List (Int × Int)} (h : okL (x :: l)) : okL l ∧ x.1 ∉ ids l ∧ 1 ≤ x.1 ∧ x.1 ≤ 16 := by
  have hn := List.nodup_cons.1 h.1
  exact ⟨⟨hn.2, fun i hi => h.2 i (List.mem_cons_of_mem _ hi)⟩, hn.1, h.2 x.1 (List.mem_cons_self ..)⟩

theorem okL_add {byPri : Bool} {l : List (Int × Int)} {id pri : Int} (h : okL l) : okL (addL byPri l id pri).2 := by
  unfold addL
  split
  · exact h
  · split
    · exact h
    · next h1 h2 => exact okL_put h (by simp only; omega) (atI_neg.1 (show atI l id < 0 by omega))

theorem addL_zero {byPri : Bool} {l : List (Int × Int)} {id pri : Int} (h : (addL byPri l id pri).1 = 0) : (1 ≤ id ∧ id ≤ 16) ∧ id ∉ ids l ∧ (addL byPri l id pri).2 = putL byPri l (id, pri) := by
  unfold addL at h ⊢
  split at h
  · cases h
  · next h1 =>
    split at h
    · cases h
    · next h2 => rw [if_neg h1, if_neg h2]; exact ⟨by omega, atI_neg.1 (by omega), rfl⟩

theorem addL_other {byPri : Bool} {l : List (Int × Int)} {id pri : Int} (h : (addL byPri l id pri).1 ≠ 0) : (addL byPri l id pri).2 = l := by
  unfold addL at h ⊢
  split at h
  · next h1 => rw [if_pos h1]
  · next h1 =>
    split at h
    · next h2 => rw [if_neg h1, if_pos h2]
    · exact absurd rfl h

theorem addL_mem {byPri : Bool} {l : List (Int × Int)} {id pri i : Int} (h : i ∈ ids (addL byPri l id pri).2) : ((addL byPri l id pri).1 = 0 ∧ i = id) ∨ i ∈ ids l := by
  by_cases h0 : (addL byPri l id pri).1 = 0
  · rw [(addL_zero h0).2.2] at h
    rcases List.mem_cons.1 (putL_ids.mem_iff.1 h) with h1 | h1
    · exact .inl ⟨h0, h1⟩
    · exact .inr h1
  · rw [addL_other h0] at h
    exact .inr h

theorem okL_rm {l : List (Int × Int)} {id : Int} (h : okL l) : okL (rmL l id) := okL_sub h (rmL_sub l id)

theorem rmL_ids {l : List (Int × Int)} {id : Int} (h : okL l) : id ∉ ids (rmL l id) := by
  by_cases h0 : 0 ≤ atI l id
  · obtain ⟨p, hp, hpm⟩ := rmL_perm h0
    have := (hpm.map Prod.fst).nodup_iff.1 h.1
    rw [List.map_cons, hp] at this
    exact (List.nodup_cons.1 this).1
  · have h1 : atI l id < 0 := by omega
    rw [rmL_none h1]
    exact atI_neg.1 h1

end Go.Proofs.YtenonfkfoedfmaaGreatDoor.B


/- Contracts of the package dtq. -/
namespace Go.Proofs.YtenonfkfoedfmaaGreatDoor.B
open Go
set_option linter.unusedVariables false

/-- a part of a row of whole numbers, copied -/
theorem Clone_subint {e w L s x vs R} {i j : Nat} (h : Ok e (slc 1 s vs :: L) w) (hx : SubOf s 1 i j x) (hj : j ≤ s.len) (hb : s.len ≤ 2 ^ 31) (k : ∀ s' w', s'.len = j - i → Ok e (slc 1 s' ((vs.take j).drop i) :: slc 1 s vs :: L) w' → R [vS s'] w') : sh70 x R w := by
  unfold sh70
  have hl := h.slc_len
  refine cs.mk (fun hn => ?_) (fun hn => ?_)
  · have hxa : x.a = none := by simpa using hn
    have hij : ¬ i < j := fun h2 => by
      obtain ⟨b, _, h3⟩ := hx.at' h2
      rw [hxa] at h3; cases h3
    have e1 : (vs.take j).drop i = [] := List.drop_eq_nil_of_le (by rw [List.length_take]; omega)
    have h2 := h.slcNil 1
    rw [e1] at k
    exact k ⟨none, 0, 0⟩ w (by simp only; omega) h2
  · refine al.mk h fun b w1 h => ?_
    have h := h.slcNew (n := 0) (sz := 1) rfl (by simp)
    refine ef.appendSub slT_int (by decide) h hx hj (by simp only; omega) fun s' w2 hl2 h => ?_
    rw [Nat.mul_one, Nat.mul_one, List.nil_append] at h
    exact k s' w2 (by simpa using hl2) h

theorem ints_drop (D : List Int) (n : Nat) : (ints D).drop n = ints (D.drop n) := by simp [ints, List.map_drop]

theorem ints_snoc (D : List Int) (d : Int) : ints D ++ [Value.int .i64 d] = ints (D ++ [d]) := by simp [ints]

theorem ints_tail {s : Sl} {D : List Int} (h : D.length = s.len) : ((ints D).take ((s.len : Int)).toNat).drop ((1 : Int)).toNat = ints D.tail := by
  rw [Int.toNat_natCast, List.take_of_length_le (by rw [ints_len]; omega), ints_drop]
  cases D <;> rfl

theorem slc_ints_len {e w L s D} (h : Ok e (slc 1 s (ints D) :: L) w) : D.length = s.len := by
  have := h.slc_len
  rw [ints_len] at this
  omega

/-- what a data queue has -/
structure DQ where
  S : List (Int × Int)
  V : List (Int × Int)
  D : List Int
  g : Int → Int

def DQ.ok (room : Int) (q : DQ) : Prop := okL q.S ∧ okL q.V ∧ (q.D.length : Int) ≤ room ∧ room ≤ 64

def dqNew : DQ := ⟨[], [], [], fun _ => 0⟩

def DQ.trySend (room : Int) (q : DQ) (d : Int) : (Bool × Int) × DQ :=
  match q.V with
  | x :: r => ((true, x.1), ⟨q.S, r, q.D, q.g⟩)
  | [] => if (q.D.length : Int) ≥ room then ((false, 0), q) else ((true, 0), ⟨q.S, [], q.D ++ [d], q.g⟩)

def DQ.send (byPri : Bool) (room : Int) (q : DQ) (task pri d : Int) : (Bool × Int × Int) × DQ :=
  if (q.trySend room d).1.1 then ((true, (q.trySend room d).1.2, 0), (q.trySend room d).2)
  else ((false, 0, (addL byPri q.S task pri).1), ⟨(addL byPri q.S task pri).2, q.V, q.D, if (addL byPri q.S task pri).1 = 0 then fun i => if i = task then d else q.g i else q.g⟩)

def DQ.tryRecv (q : DQ) : (Int × Bool × Int) × DQ :=
  match q.D, q.S with
  | d :: D, x :: r => ((d, true, x.1), ⟨r, q.V, D ++ [q.g x.1], q.g⟩)
  | d :: D, [] => ((d, true, 0), ⟨[], q.V, D, q.g⟩)
  | [], x :: r => ((q.g x.1, true, x.1), ⟨r, q.V, [], q.g⟩)
  | [], [] => ((0, false, 0), q)

def DQ.recv (q : DQ) (task pri : Int) : ((Int × Bool × Int) × Int) × DQ :=
  if q.tryRecv.1.2.1 then ((q.tryRecv.1, 0), q.tryRecv.2) else (((0, false, 0), (addL false q.V task pri).1), ⟨q.S, (addL false q.V task pri).2, q.D, q.g⟩)

def DQ.force (room : Int) (q : DQ) (d : Int) : (Int × Int) × DQ :=
  if room = 0 then ((0, -28), q)
  else if (q.trySend room d).1.1 then (((q.trySend room d).1.2, 0), (q.trySend room d).2)
  else ((0, 0), ⟨q.S, q.V, q.D.tail ++ [d], q.g⟩)

def DQ.drop (q : DQ) (task : Int) : Bool × DQ :=
  if 0 ≤ atI q.S task then (true, ⟨rmL q.S task, q.V, q.D, q.g⟩) else (decide (0 ≤ atI q.V task), ⟨q.S, rmL q.V task, q.D, q.g⟩)

def DQ.change (byPri : Bool) (q : DQ) (task pri : Int) : Bool × DQ :=
  if (chgL byPri q.S task pri).1 then (true, ⟨(chgL byPri q.S task pri).2, q.V, q.D, q.g⟩) else ((chgL false q.V task pri).1, ⟨q.S, (chgL false q.V task pri).2, q.D, q.g⟩)

theorem dqNew_ok {room : Int} (h : 0 ≤ room ∧ room ≤ 64) : dqNew.ok room := ⟨okL_nil, okL_nil, h.1, h.2⟩

theorem trySend_ok {room q d} (h : DQ.ok room q) : DQ.ok room (q.trySend room d).2 := by
  obtain ⟨h1, h2, h3, h4⟩ := h
  unfold DQ.trySend
  split
  · next x r he => rw [he] at h2; exact ⟨h1, (okL_tail h2).1, h3, h4⟩
  · next he =>
    split
    · exact ⟨h1, h2, h3, h4⟩
    · exact ⟨h1, okL_nil, by simp only [List.length_append, List.length_singleton]; omega, h4⟩

theorem tryRecv_ok {room q} (h : DQ.ok room q) : DQ.ok room q.tryRecv.2 := by
  obtain ⟨h1, h2, h3, h4⟩ := h
  unfold DQ.tryRecv
  split
  · next d D x r hD hS => rw [hS] at h1; rw [hD] at h3; exact ⟨(okL_tail h1).1, h2, by simp at h3 ⊢; omega, h4⟩
  · next d D hD hS => rw [hD] at h3; exact ⟨okL_nil, h2, by simp at h3 ⊢; omega, h4⟩
  · next x r hD hS => rw [hS] at h1; rw [hD] at h3; exact ⟨(okL_tail h1).1, h2, h3, h4⟩
  · exact ⟨h1, h2, h3, h4⟩

def heldF (S : List (Int × Int)) (g : Int → Int) (f : Int → Option Value) : Prop := ∀ i ∈ ids S, f i = some (.int .i64 (g i))

def dtqP (b : Nat) (byPri : Bool) (room : Int) (q : DQ) : SP := fun h => ∃ p r s m, ∃ f : Int → Option Value, heldF q.S q.g f ∧
  oksH [pts b [.pointer (some ⟨p, 0, none⟩), .pointer (some ⟨r, 0, none⟩), .int .i64 room, vS s, .map (some m)], lineP p [.bool byPri] q.S, lineP r [.bool false] q.V, slc 1 s (ints q.D), mpP m f] h

theorem dtqE {e w L b byPri room q} (h : Ok e (dtqP b byPri room q :: L) w) : ∃ p r s m, ∃ f : Int → Option Value, heldF q.S q.g f ∧ q.D.length = s.len ∧
    Ok e (pts b [.pointer (some ⟨p, 0, none⟩), .pointer (some ⟨r, 0, none⟩), .int .i64 room, vS s, .map (some m)] :: lineP p [.bool byPri] q.S :: lineP r [.bool false] q.V :: slc 1 s (ints q.D) :: mpP m f :: L) w := by
  obtain ⟨p, h⟩ := h.exE
  obtain ⟨r, h⟩ := h.exE
  obtain ⟨s, h⟩ := h.exE
  obtain ⟨m, h⟩ := h.exE
  obtain ⟨f, h⟩ := h.exE
  obtain ⟨hf, h⟩ := h.pureE
  have h := h.unpack
  exact ⟨p, r, s, m, f, hf, slc_ints_len h.p3, h⟩

theorem dtqI {e w L b byPri room q p r s m f} (hf : heldF q.S q.g f) (h : Ok e (pts b [.pointer (some ⟨p, 0, none⟩), .pointer (some ⟨r, 0, none⟩), .int .i64 room, vS s, .map (some m)] :: lineP p [.bool byPri] q.S :: lineP r [.bool false] q.V :: slc 1 s (ints q.D) :: mpP m f :: L) w) : Ok e (dtqP b byPri room q :: L) w :=
  (Ok.pack (M := [pts b [.pointer (some ⟨p, 0, none⟩), .pointer (some ⟨r, 0, none⟩), .int .i64 room, vS s, .map (some m)], lineP p [.bool byPri] q.S, lineP r [.bool false] q.V, slc 1 s (ints q.D), mpP m f]) h).imp fun k hk => ⟨p, r, s, m, f, hf, hk⟩

theorem mapT_ii : MapT Pg 294 (.int .i64 0) := .of (by kernel_rfl)

theorem New_dtq {e w L byPri room R} (h : Ok e L w) (k0 : ¬ (0 ≤ room ∧ room ≤ 64) → R [.pointer none, .int .i64 (-17)] w) (k1 : 0 ≤ room ∧ room ≤ 64 → ∀ b w', Ok e (dtqP b byPri room dqNew :: L) w' → R [.pointer (some ⟨b, 0, none⟩), .int .i64 0] w') : sh179 byPri room R w := by
  unfold sh179
  refine jn.bool (decide (¬ (0 ≤ room ∧ room ≤ 64))) (fun J hJ => cs.mk (fun h1 => ?_) (fun h1 => ?_)) ?_
  · have h1 := of_decide_eq_true h1
    rw [decide_eq_true (by omega)] at hJ
    exact hJ
  · have h1 := of_decide_eq_false h1
    rw [show decide (room > 64) = decide (¬ (0 ≤ room ∧ room ≤ 64)) from decide_eq_decide.2 (by omega)]
    exact hJ
  refine cs.mk (fun h1 => k0 (of_decide_eq_true h1)) (fun h1 => ?_)
  have h1 : 0 ≤ room ∧ room ≤ 64 := Decidable.not_not.1 (of_decide_eq_false h1)
  refine call44 (New_order h fun p w1 h => ⟨(some ⟨p, 0, none⟩, ()), rfl, ?_⟩)
  refine call44 (New_order h fun r w2 h => ⟨(some ⟨r, 0, none⟩, ()), rfl, ?_⟩)
  refine ef.makeMap h fun m w3 h => ?_
  refine al.mk h fun b w4 h => k1 h1 b w4 ?_
  refine dtqI (p := p) (r := r) (s := ⟨none, 0, 0⟩) (m := m) (f := fun _ => none) (q := dqNew) (fun i hi => by simp [dqNew] at hi) ?_
  have h := h.slcNil 1
  have h := (Ok.emb (h) (.cons (A := pts b _) (by with_reducible first | exact sl0 | exact .there sl0 | exact .there sl1 | exact .there sl2 | exact .there sl3 | exact .there sl4 | exact .there sl5 | exact .there sl6 | exact .there sl7 | exact .there sl8 | exact .there sl9 | exact .there sl10 | exact .there sl11 | exact .there sl12) (.cons (A := lineP p _ _) (by with_reducible first | exact sl0 | exact .there sl0 | exact .there sl1 | exact .there sl2 | exact .there sl3 | exact .there sl4 | exact .there sl5 | exact .there sl6 | exact .there sl7 | exact .there sl8 | exact .there sl9 | exact .there sl10 | exact .there sl11 | exact .there sl12) (.cons (A := lineP r _ _) (by with_reducible first | exact sl0 | exact .there sl0 | exact .there sl1 | exact .there sl2 | exact .there sl3 | exact .there sl4 | exact .there sl5 | exact .there sl6 | exact .there sl7 | exact .there sl8 | exact .there sl9 | exact .there sl10 | exact .there sl11 | exact .there sl12) (.cons (A := slc 1 _ _) (by with_reducible first | exact sl0 | exact .there sl0 | exact .there sl1 | exact .there sl2 | exact .there sl3 | exact .there sl4 | exact .there sl5 | exact .there sl6 | exact .there sl7 | exact .there sl8 | exact .there sl9 | exact .there sl10 | exact .there sl11 | exact .there sl12) (.cons (A := mpP m _) (by with_reducible first | exact sl0 | exact .there sl0 | exact .there sl1 | exact .there sl2 | exact .there sl3 | exact .there sl4 | exact .there sl5 | exact .there sl6 | exact .there sl7 | exact .there sl8 | exact .there sl9 | exact .there sl10 | exact .there sl11 | exact .there sl12) (.same _)))))))
  exact h

theorem TrySend_dtq {e w L b byPri room q d R} (h : Ok e (dtqP b byPri room q :: L) w) (ho : q.ok room)
    (k : ∀ w', Ok e (dtqP b byPri room (q.trySend room d).2 :: L) w' → R [.bool (q.trySend room d).1.1, .int .i64 (q.trySend room d).1.2] w') : sh151 (some ⟨b, 0, none⟩) d R w := by
  unfold sh151
  unfold DQ.trySend at k
  obtain ⟨h1, h2, h3, h4⟩ := ho
  have l2 := okL_len h2
  have h0 := h
  obtain ⟨p, r, s, m, f, hf, hs, h⟩ := dtqE h
  refine nn.mk (ldP.mk (by refine Ok.cellS h (by with_reducible first | exact sl0 | exact .there sl0 | exact .there sl1 | exact .there sl2 | exact .there sl3 | exact .there sl4 | exact .there sl5 | exact .there sl6 | exact .there sl7 | exact .there sl8 | exact .there sl9 | exact .there sl10 | exact .there sl11 | exact .there sl12) ?_; rfl) ?_)
  refine call214 (Take_order (Ok.emb (h) (.cons (A := lineP r _ _) (by with_reducible first | exact sl0 | exact .there sl0 | exact .there sl1 | exact .there sl2 | exact .there sl3 | exact .there sl4 | exact .there sl5 | exact .there sl6 | exact .there sl7 | exact .there sl8 | exact .there sl9 | exact .there sl10 | exact .there sl11 | exact .there sl12) (.same _))) (by omega) fun w1 h => ⟨(((q.V.head?.getD (0, 0)).1, (q.V.head?.getD (0, 0)).2, ()), !q.V.isEmpty, ()), rfl, ?_⟩)
  refine al.mk h fun c w2 h => st1.mk h (by simp) fun w3 h => st1.mk h (by simp) fun w4 h => ?_
  dsimp only
  obtain ⟨S, V, D, g⟩ := q
  dsimp only at *
  cases V with
  | cons x V =>
    refine cs.yes rfl (dr.mk h fun w5 h => ldI.mk (h.cell rfl) (k w5 ?_))
    exact dtqI (q := ⟨S, V, D, g⟩) hf (h.emb (by repeat' (first | with_reducible exact Emb.same _ | exact Emb.nil _ | refine Emb.cons (by with_reducible first | exact sl0 | exact .there sl0 | exact .there sl1 | exact .there sl2 | exact .there sl3 | exact .there sl4 | exact .there sl5 | exact .there sl6 | exact .there sl7 | exact .there sl8 | exact .there sl9 | exact .there sl10 | exact .there sl11 | exact .there sl12) ?_ | refine Emb.skip ?_)))
  | nil =>
    refine cs.no rfl (dr.mk h fun w5 h => ?_)
    refine nn.mk (ldS.mk (by refine Ok.cellS h (by with_reducible first | exact sl0 | exact .there sl0 | exact .there sl1 | exact .there sl2 | exact .there sl3 | exact .there sl4 | exact .there sl5 | exact .there sl6 | exact .there sl7 | exact .there sl8 | exact .there sl9 | exact .there sl10 | exact .there sl11 | exact .there sl12) ?_; rfl) (nn.mk (ldI.mk (by refine Ok.cellS h (by with_reducible first | exact sl0 | exact .there sl0 | exact .there sl1 | exact .there sl2 | exact .there sl3 | exact .there sl4 | exact .there sl5 | exact .there sl6 | exact .there sl7 | exact .there sl8 | exact .there sl9 | exact .there sl10 | exact .there sl11 | exact .there sl12) ?_; rfl) ?_)))
    refine cs.mk (fun hc => ?_) (fun hc => ?_)
    · have hc := of_decide_eq_true hc
      rw [← hs] at hc
      simp only [if_pos hc] at k
      exact k w5 (dtqI (q := ⟨S, [], D, g⟩) hf (h.emb (by repeat' (first | with_reducible exact Emb.same _ | exact Emb.nil _ | refine Emb.cons (by with_reducible first | exact sl0 | exact .there sl0 | exact .there sl1 | exact .there sl2 | exact .there sl3 | exact .there sl4 | exact .there sl5 | exact .there sl6 | exact .there sl7 | exact .there sl8 | exact .there sl9 | exact .there sl10 | exact .there sl11 | exact .there sl12) ?_ | refine Emb.skip ?_))))
    · have hc := of_decide_eq_false hc
      rw [← hs] at hc
      simp only [if_neg hc] at k
      refine nn.mk (ldS.mk (by refine Ok.cellS h (by with_reducible first | exact sl0 | exact .there sl0 | exact .there sl1 | exact .there sl2 | exact .there sl3 | exact .there sl4 | exact .there sl5 | exact .there sl6 | exact .there sl7 | exact .there sl8 | exact .there sl9 | exact .there sl10 | exact .there sl11 | exact .there sl12) ?_; rfl) ?_)
      refine al.mk h fun c2 w6 h => ?_
      refine ef.append1 (n := 1) slT_int (by decide) (Ok.emb (h) (.cons (A := pts c2 _) (by with_reducible first | exact sl0 | exact .there sl0 | exact .there sl1 | exact .there sl2 | exact .there sl3 | exact .there sl4 | exact .there sl5 | exact .there sl6 | exact .there sl7 | exact .there sl8 | exact .there sl9 | exact .there sl10 | exact .there sl11 | exact .there sl12) (.cons (A := slc 1 s _) (by with_reducible first | exact sl0 | exact .there sl0 | exact .there sl1 | exact .there sl2 | exact .there sl3 | exact .there sl4 | exact .there sl5 | exact .there sl6 | exact .there sl7 | exact .there sl8 | exact .there sl9 | exact .there sl10 | exact .there sl11 | exact .there sl12) (.same _)))) rfl (by intro v hv; simp at hv; subst hv; rfl) (by omega) fun s2 w7 hl2 h => ?_
      refine nn.mk (st1.mk (Ok.emb (h) (.cons (A := pts b _) (by with_reducible first | exact sl0 | exact .there sl0 | exact .there sl1 | exact .there sl2 | exact .there sl3 | exact .there sl4 | exact .there sl5 | exact .there sl6 | exact .there sl7 | exact .there sl8 | exact .there sl9 | exact .there sl10 | exact .there sl11 | exact .there sl12) (.same _))) (by simp) fun w8 h => k w8 ?_)
      rw [ints_snoc] at h
      dsimp only [List.set, List.tail_cons, List.tail_nil, List.head?_cons, List.head?_nil, Option.getD_some, Option.getD_none] at h
      exact dtqI (q := ⟨S, [], D ++ [d], g⟩) (s := s2) (p := p) (r := r) (m := m) hf (h.emb (by repeat' (first | with_reducible exact Emb.same _ | exact Emb.nil _ | refine Emb.cons (by with_reducible first | exact sl0 | exact .there sl0 | exact .there sl1 | exact .there sl2 | exact .there sl3 | exact .there sl4 | exact .there sl5 | exact .there sl6 | exact .there sl7 | exact .there sl8 | exact .there sl9 | exact .there sl10 | exact .there sl11 | exact .there sl12) ?_ | refine Emb.skip ?_)))

theorem next_dtq {e w L b byPri room q R} (h : Ok e (dtqP b byPri room q :: L) w) (ho : q.ok room)
    (k0 : q.S = [] → ∀ w', Ok e (dtqP b byPri room q :: L) w' → R [.int .i64 0, .int .i64 0, .bool false] w')
    (k1 : ∀ x r, q.S = x :: r → ∀ w', Ok e (dtqP b byPri room ⟨r, q.V, q.D, q.g⟩ :: L) w' → R [.int .i64 (q.g x.1), .int .i64 x.1, .bool true] w') : sh218 (some ⟨b, 0, none⟩) R w := by
  unfold sh218
  obtain ⟨h1, h2, h3, h4⟩ := ho
  have l1 := okL_len h1
  obtain ⟨p, r, s, m, f, hf, hs, h⟩ := dtqE h
  obtain ⟨S, V, D, g⟩ := q
  dsimp only at *
  refine nn.mk (ldP.mk (by refine Ok.cellS h (by with_reducible first | exact sl0 | exact .there sl0 | exact .there sl1 | exact .there sl2 | exact .there sl3 | exact .there sl4 | exact .there sl5 | exact .there sl6 | exact .there sl7 | exact .there sl8 | exact .there sl9 | exact .there sl10 | exact .there sl11 | exact .there sl12) ?_; rfl) ?_)
  refine call214 (Take_order (Ok.emb (h) (.cons (A := lineP p _ _) (by with_reducible first | exact sl0 | exact .there sl0 | exact .there sl1 | exact .there sl2 | exact .there sl3 | exact .there sl4 | exact .there sl5 | exact .there sl6 | exact .there sl7 | exact .there sl8 | exact .there sl9 | exact .there sl10 | exact .there sl11 | exact .there sl12) (.same _))) (by omega) fun w1 h => ⟨(((S.head?.getD (0, 0)).1, (S.head?.getD (0, 0)).2, ()), !S.isEmpty, ()), rfl, ?_⟩)
  refine al.mk h fun c w2 h => st1.mk h (by simp) fun w3 h => st1.mk h (by simp) fun w4 h => ?_
  dsimp only
  cases S with
  | nil => exact cs.yes rfl (k0 rfl w4 (dtqI (q := ⟨[], V, D, g⟩) hf (h.emb (by repeat' (first | with_reducible exact Emb.same _ | exact Emb.nil _ | refine Emb.cons (by with_reducible first | exact sl0 | exact .there sl0 | exact .there sl1 | exact .there sl2 | exact .there sl3 | exact .there sl4 | exact .there sl5 | exact .there sl6 | exact .there sl7 | exact .there sl8 | exact .there sl9 | exact .there sl10 | exact .there sl11 | exact .there sl12) ?_ | refine Emb.skip ?_)))))
  | cons x S =>
    refine cs.no rfl (dr.mk h fun w5 h => nn.mk (ldM.mk (by refine Ok.cellS h (by with_reducible first | exact sl0 | exact .there sl0 | exact .there sl1 | exact .there sl2 | exact .there sl3 | exact .there sl4 | exact .there sl5 | exact .there sl6 | exact .there sl7 | exact .there sl8 | exact .there sl9 | exact .there sl10 | exact .there sl11 | exact .there sl12) ?_; rfl) (ldI.mk (by refine Ok.cellS h (by with_reducible first | exact sl0 | exact .there sl0 | exact .there sl1 | exact .there sl2 | exact .there sl3 | exact .there sl4 | exact .there sl5 | exact .there sl6 | exact .there sl7 | exact .there sl8 | exact .there sl9 | exact .there sl10 | exact .there sl11 | exact .there sl12) ?_; rfl) ?_)))
    refine ef.lookup mapT_ii (Ok.emb (h) (.cons (A := mpP m f) (by with_reducible first | exact sl0 | exact .there sl0 | exact .there sl1 | exact .there sl2 | exact .there sl3 | exact .there sl4 | exact .there sl5 | exact .there sl6 | exact .there sl7 | exact .there sl8 | exact .there sl9 | exact .there sl10 | exact .there sl11 | exact .there sl12) (.same _))) ((g x.1 : Int), ()) (by show _ = (f x.1).getD _; rw [hf x.1 (List.mem_cons_self ..)]; rfl) ?_
    refine dr.mk h fun w6 h => nn.mk (ldM.mk (by refine Ok.cellS h (by with_reducible first | exact sl0 | exact .there sl0 | exact .there sl1 | exact .there sl2 | exact .there sl3 | exact .there sl4 | exact .there sl5 | exact .there sl6 | exact .there sl7 | exact .there sl8 | exact .there sl9 | exact .there sl10 | exact .there sl11 | exact .there sl12) ?_; rfl) (ldI.mk (by refine Ok.cellS h (by with_reducible first | exact sl0 | exact .there sl0 | exact .there sl1 | exact .there sl2 | exact .there sl3 | exact .there sl4 | exact .there sl5 | exact .there sl6 | exact .there sl7 | exact .there sl8 | exact .there sl9 | exact .there sl10 | exact .there sl11 | exact .there sl12) ?_; rfl) ?_))
    refine ef.delete mapT_ii (Ok.emb (h) (.cons (A := mpP m f) (by with_reducible first | exact sl0 | exact .there sl0 | exact .there sl1 | exact .there sl2 | exact .there sl3 | exact .there sl4 | exact .there sl5 | exact .there sl6 | exact .there sl7 | exact .there sl8 | exact .there sl9 | exact .there sl10 | exact .there sl11 | exact .there sl12) (.same _))) fun w7 h => dr.mk h fun w8 h => ldI.mk (by refine Ok.cellS h (by with_reducible first | exact sl0 | exact .there sl0 | exact .there sl1 | exact .there sl2 | exact .there sl3 | exact .there sl4 | exact .there sl5 | exact .there sl6 | exact .there sl7 | exact .there sl8 | exact .there sl9 | exact .there sl10 | exact .there sl11 | exact .there sl12) ?_; rfl) (k1 x S rfl w8 ?_)
    have ht := okL_tail h1
    refine dtqI (q := ⟨S, V, D, g⟩) (fun i hi => ?_) (h.emb (by repeat' (first | with_reducible exact Emb.same _ | exact Emb.nil _ | refine Emb.cons (by with_reducible first | exact sl0 | exact .there sl0 | exact .there sl1 | exact .there sl2 | exact .there sl3 | exact .there sl4 | exact .there sl5 | exact .there sl6 | exact .there sl7 | exact .there sl8 | exact .there sl9 | exact .there sl10 | exact .there sl11 | exact .there sl12) ?_ | refine Emb.skip ?_)))
    have hne : i ≠ x.1 := fun he => ht.2.1 (he ▸ hi)
    simp only [List.head?_cons, Option.getD_some]
    rw [upd_other hne]
    exact hf i (List.mem_cons_of_mem _ hi)

end Go.Proofs.YtenonfkfoedfmaaGreatDoor.B


/- Contracts of the package dtq: receiving, forcing, dropping, what is told. -/
namespace Go.Proofs.YtenonfkfoedfmaaGreatDoor.B
open Go
set_option linter.unusedVariables false

theorem TryRecv_dtq {e w L b byPri room q R} (h : Ok e (dtqP b byPri room q :: L) w) (ho : q.ok room)
    (k : ∀ w', Ok e (dtqP b byPri room q.tryRecv.2 :: L) w' → R [.agg #[.int .i64 q.tryRecv.1.1, .bool q.tryRecv.1.2.1, .int .i64 q.tryRecv.1.2.2]] w') : sh153 (some ⟨b, 0, none⟩) R w := by
  unfold sh153
  unfold DQ.tryRecv at k
  refine al.mk h fun c w1 h => ?_
  have h0 := h.p1
  obtain ⟨p, r, s, m, f, hf, hs, h⟩ := dtqE h0
  obtain ⟨S, V, D, g⟩ := q
  dsimp only at *
  refine nn.mk (ldS.mk (by refine Ok.cellS h (by with_reducible first | exact sl0 | exact .there sl0 | exact .there sl1 | exact .there sl2 | exact .there sl3 | exact .there sl4 | exact .there sl5 | exact .there sl6 | exact .there sl7 | exact .there sl8 | exact .there sl9 | exact .there sl10 | exact .there sl11 | exact .there sl12) ?_; rfl) ?_)
  cases D with
  | nil =>
    refine cs.yes (by simp at hs; simp [← hs]) ?_
    refine call218 (next_dtq h0 ho (fun hS w2 h => ⟨((0 : Int), (0 : Int), false, ()), rfl, ?_⟩) (fun x S' hS w2 h => ⟨((g x.1 : Int), (x.1 : Int), true, ()), rfl, ?_⟩))
    · dsimp only at hS
      subst hS
      dsimp only at k ⊢
      (repeat (first | with_reducible refine dr.mk h fun _ h => ?_ | with_reducible refine nn.mk ?_ | ((first | with_reducible apply ldI.mk | with_reducible apply ldB.mk | with_reducible apply ldP.mk | with_reducible apply ldS.mk | with_reducible apply ldM.mk | with_reducible apply ldF.mk | with_reducible apply ldG.mk); (· exact (by refine Ok.cellS h (by with_reducible first | exact sl0 | exact .there sl0 | exact .there sl1 | exact .there sl2 | exact .there sl3 | exact .there sl4 | exact .there sl5 | exact .there sl6 | exact .there sl7 | exact .there sl8 | exact .there sl9 | exact .there sl10 | exact .there sl11 | exact .there sl12) ?_; rfl))) | (refine st1.mk (Ok.bring h (by with_reducible first | exact sl0 | exact .there sl0 | exact .there sl1 | exact .there sl2 | exact .there sl3 | exact .there sl4 | exact .there sl5 | exact .there sl6 | exact .there sl7 | exact .there sl8 | exact .there sl9 | exact .there sl10 | exact .there sl11 | exact .there sl12)) (by simp) fun _ h => ?_; dsimp only [List.set] at h)))
      exact k _ (h.emb (by repeat' (first | with_reducible exact Emb.same _ | exact Emb.nil _ | refine Emb.cons (by with_reducible first | exact sl0 | exact .there sl0 | exact .there sl1 | exact .there sl2 | exact .there sl3 | exact .there sl4 | exact .there sl5 | exact .there sl6 | exact .there sl7 | exact .there sl8 | exact .there sl9 | exact .there sl10 | exact .there sl11 | exact .there sl12) ?_ | refine Emb.skip ?_)))
    · dsimp only at hS
      subst hS
      dsimp only at k ⊢
      (repeat (first | with_reducible refine dr.mk h fun _ h => ?_ | with_reducible refine nn.mk ?_ | ((first | with_reducible apply ldI.mk | with_reducible apply ldB.mk | with_reducible apply ldP.mk | with_reducible apply ldS.mk | with_reducible apply ldM.mk | with_reducible apply ldF.mk | with_reducible apply ldG.mk); (· exact (by refine Ok.cellS h (by with_reducible first | exact sl0 | exact .there sl0 | exact .there sl1 | exact .there sl2 | exact .there sl3 | exact .there sl4 | exact .there sl5 | exact .there sl6 | exact .there sl7 | exact .there sl8 | exact .there sl9 | exact .there sl10 | exact .there sl11 | exact .there sl12) ?_; rfl))) | (refine st1.mk (Ok.bring h (by with_reducible first | exact sl0 | exact .there sl0 | exact .there sl1 | exact .there sl2 | exact .there sl3 | exact .there sl4 | exact .there sl5 | exact .there sl6 | exact .there sl7 | exact .there sl8 | exact .there sl9 | exact .there sl10 | exact .there sl11 | exact .there sl12)) (by simp) fun _ h => ?_; dsimp only [List.set] at h)))
      exact k _ (h.emb (by repeat' (first | with_reducible exact Emb.same _ | exact Emb.nil _ | refine Emb.cons (by with_reducible first | exact sl0 | exact .there sl0 | exact .there sl1 | exact .there sl2 | exact .there sl3 | exact .there sl4 | exact .there sl5 | exact .there sl6 | exact .there sl7 | exact .there sl8 | exact .there sl9 | exact .there sl10 | exact .there sl11 | exact .there sl12) ?_ | refine Emb.skip ?_)))
  | cons d D =>
    simp only [List.length_cons] at hs
    have hD := ho.2.2
    simp only [List.length_cons] at hD
    refine cs.no (by simp; omega) ?_
    refine nn.mk (ldS.mk (by refine Ok.cellS h (by with_reducible first | exact sl0 | exact .there sl0 | exact .there sl1 | exact .there sl2 | exact .there sl3 | exact .there sl4 | exact .there sl5 | exact .there sl6 | exact .there sl7 | exact .there sl8 | exact .there sl9 | exact .there sl10 | exact .there sl11 | exact .there sl12) ?_; rfl) ?_)
    refine ix_int (Ok.emb (h) (.cons (A := slc 1 s (ints (d :: D))) (by with_reducible first | exact sl0 | exact .there sl0 | exact .there sl1 | exact .there sl2 | exact .there sl3 | exact .there sl4 | exact .there sl5 | exact .there sl6 | exact .there sl7 | exact .there sl8 | exact .there sl9 | exact .there sl10 | exact .there sl11 | exact .there sl12) (.same _))) (Int.le_refl _) (by omega) fun c1 o x hx hc => ldI.mk (hc _ ⟨_, (Ok.emb (h) (.cons (A := slc 1 s (ints (d :: D))) (by with_reducible first | exact sl0 | exact .there sl0 | exact .there sl1 | exact .there sl2 | exact .there sl3 | exact .there sl4 | exact .there sl5 | exact .there sl6 | exact .there sl7 | exact .there sl8 | exact .there sl9 | exact .there sl10 | exact .there sl11 | exact .there sl12) (.same _)))⟩) ?_
    simp at hx
    subst hx
    clear hc
    refine al.mk h fun c2 w2 h => ?_
    (repeat (first | with_reducible refine dr.mk h fun _ h => ?_ | with_reducible refine nn.mk ?_ | ((first | with_reducible apply ldI.mk | with_reducible apply ldB.mk | with_reducible apply ldP.mk | with_reducible apply ldS.mk | with_reducible apply ldM.mk | with_reducible apply ldF.mk | with_reducible apply ldG.mk); (· exact (by refine Ok.cellS h (by with_reducible first | exact sl0 | exact .there sl0 | exact .there sl1 | exact .there sl2 | exact .there sl3 | exact .there sl4 | exact .there sl5 | exact .there sl6 | exact .there sl7 | exact .there sl8 | exact .there sl9 | exact .there sl10 | exact .there sl11 | exact .there sl12) ?_; rfl))) | (refine st1.mk (Ok.bring h (by with_reducible first | exact sl0 | exact .there sl0 | exact .there sl1 | exact .there sl2 | exact .there sl3 | exact .there sl4 | exact .there sl5 | exact .there sl6 | exact .there sl7 | exact .there sl8 | exact .there sl9 | exact .there sl10 | exact .there sl11 | exact .there sl12)) (by simp) fun _ h => ?_; dsimp only [List.set] at h)))
    refine sb_sub (Ok.emb (h) (.cons (A := slc 1 s (ints (d :: D))) (by with_reducible first | exact sl0 | exact .there sl0 | exact .there sl1 | exact .there sl2 | exact .there sl3 | exact .there sl4 | exact .there sl5 | exact .there sl6 | exact .there sl7 | exact .there sl8 | exact .there sl9 | exact .there sl10 | exact .there sl11 | exact .there sl12) (.same _))) (by omega) (by omega) (Int.le_refl _) fun y hy => ?_
    refine call70 (Clone_subint (Ok.emb (h) (.cons (A := slc 1 s (ints (d :: D))) (by with_reducible first | exact sl0 | exact .there sl0 | exact .there sl1 | exact .there sl2 | exact .there sl3 | exact .there sl4 | exact .there sl5 | exact .there sl6 | exact .there sl7 | exact .there sl8 | exact .there sl9 | exact .there sl10 | exact .there sl11 | exact .there sl12) (.same _))) hy (by omega) (by omega) fun s2 w3 hl2 h => ⟨(s2, ()), rfl, ?_⟩)
    rw [ints_tail (by simp only [List.length_cons]; omega)] at h
    dsimp only
    refine nn.mk (st1.mk (Ok.emb (h) (.cons (A := pts b _) (by with_reducible first | exact sl0 | exact .there sl0 | exact .there sl1 | exact .there sl2 | exact .there sl3 | exact .there sl4 | exact .there sl5 | exact .there sl6 | exact .there sl7 | exact .there sl8 | exact .there sl9 | exact .there sl10 | exact .there sl11 | exact .there sl12) (.same _))) (by simp) fun w4 h => ?_)
    dsimp only [List.set, List.tail_cons, List.tail_nil, List.head?_cons, List.head?_nil, Option.getD_some, Option.getD_none] at h
    have ho2 : DQ.ok room ⟨S, V, D, g⟩ := ⟨ho.1, ho.2.1, by show (D.length : Int) ≤ room; omega, hD.2⟩
    have h := dtqI (q := ⟨S, V, D, g⟩) (s := s2) hf (L := pts c2 _ :: pts c _ :: L) (h.emb (by repeat' (first | with_reducible exact Emb.same _ | exact Emb.nil _ | refine Emb.cons (by with_reducible first | exact sl0 | exact .there sl0 | exact .there sl1 | exact .there sl2 | exact .there sl3 | exact .there sl4 | exact .there sl5 | exact .there sl6 | exact .there sl7 | exact .there sl8 | exact .there sl9 | exact .there sl10 | exact .there sl11 | exact .there sl12) ?_ | refine Emb.skip ?_)))
    have h0 := h
    refine call218 (next_dtq h0 ho2 (fun hS w2 h => ⟨((0 : Int), (0 : Int), false, ()), rfl, ?_⟩) (fun x S' hS w2 h => ⟨((g x.1 : Int), (x.1 : Int), true, ()), rfl, ?_⟩))
    · dsimp only at hS
      subst hS
      dsimp only at k ⊢
      refine cs.no rfl ?_
      (repeat (first | with_reducible refine dr.mk h fun _ h => ?_ | with_reducible refine nn.mk ?_ | ((first | with_reducible apply ldI.mk | with_reducible apply ldB.mk | with_reducible apply ldP.mk | with_reducible apply ldS.mk | with_reducible apply ldM.mk | with_reducible apply ldF.mk | with_reducible apply ldG.mk); (· exact (by refine Ok.cellS h (by with_reducible first | exact sl0 | exact .there sl0 | exact .there sl1 | exact .there sl2 | exact .there sl3 | exact .there sl4 | exact .there sl5 | exact .there sl6 | exact .there sl7 | exact .there sl8 | exact .there sl9 | exact .there sl10 | exact .there sl11 | exact .there sl12) ?_; rfl))) | (refine st1.mk (Ok.bring h (by with_reducible first | exact sl0 | exact .there sl0 | exact .there sl1 | exact .there sl2 | exact .there sl3 | exact .there sl4 | exact .there sl5 | exact .there sl6 | exact .there sl7 | exact .there sl8 | exact .there sl9 | exact .there sl10 | exact .there sl11 | exact .there sl12)) (by simp) fun _ h => ?_; dsimp only [List.set] at h)))
      exact k _ (h.emb (by repeat' (first | with_reducible exact Emb.same _ | exact Emb.nil _ | refine Emb.cons (by with_reducible first | exact sl0 | exact .there sl0 | exact .there sl1 | exact .there sl2 | exact .there sl3 | exact .there sl4 | exact .there sl5 | exact .there sl6 | exact .there sl7 | exact .there sl8 | exact .there sl9 | exact .there sl10 | exact .there sl11 | exact .there sl12) ?_ | refine Emb.skip ?_)))
    · dsimp only at hS
      subst hS
      dsimp only at k ⊢
      refine cs.yes rfl ?_
      obtain ⟨p, r, s3, m, f, hf, hs, h⟩ := dtqE h
      refine nn.mk (ldS.mk (by refine Ok.cellS h (by with_reducible first | exact sl0 | exact .there sl0 | exact .there sl1 | exact .there sl2 | exact .there sl3 | exact .there sl4 | exact .there sl5 | exact .there sl6 | exact .there sl7 | exact .there sl8 | exact .there sl9 | exact .there sl10 | exact .there sl11 | exact .there sl12) ?_; rfl) ?_)
      refine al.mk h fun c3 w5 h => ?_
      refine ef.append1 (n := 1) slT_int (by decide) (Ok.emb (h) (.cons (A := pts c3 _) (by with_reducible first | exact sl0 | exact .there sl0 | exact .there sl1 | exact .there sl2 | exact .there sl3 | exact .there sl4 | exact .there sl5 | exact .there sl6 | exact .there sl7 | exact .there sl8 | exact .there sl9 | exact .there sl10 | exact .there sl11 | exact .there sl12) (.cons (A := slc 1 s3 _) (by with_reducible first | exact sl0 | exact .there sl0 | exact .there sl1 | exact .there sl2 | exact .there sl3 | exact .there sl4 | exact .there sl5 | exact .there sl6 | exact .there sl7 | exact .there sl8 | exact .there sl9 | exact .there sl10 | exact .there sl11 | exact .there sl12) (.same _)))) rfl (by intro v hv; simp at hv; subst hv; rfl) (by dsimp only at hs; omega) fun s4 w7 hl2 h => ?_
      rw [ints_snoc] at h
      dsimp only at h ⊢
      (repeat (first | with_reducible refine dr.mk h fun _ h => ?_ | with_reducible refine nn.mk ?_ | ((first | with_reducible apply ldI.mk | with_reducible apply ldB.mk | with_reducible apply ldP.mk | with_reducible apply ldS.mk | with_reducible apply ldM.mk | with_reducible apply ldF.mk | with_reducible apply ldG.mk); (· exact (by refine Ok.cellS h (by with_reducible first | exact sl0 | exact .there sl0 | exact .there sl1 | exact .there sl2 | exact .there sl3 | exact .there sl4 | exact .there sl5 | exact .there sl6 | exact .there sl7 | exact .there sl8 | exact .there sl9 | exact .there sl10 | exact .there sl11 | exact .there sl12) ?_; rfl))) | (refine st1.mk (Ok.bring h (by with_reducible first | exact sl0 | exact .there sl0 | exact .there sl1 | exact .there sl2 | exact .there sl3 | exact .there sl4 | exact .there sl5 | exact .there sl6 | exact .there sl7 | exact .there sl8 | exact .there sl9 | exact .there sl10 | exact .there sl11 | exact .there sl12)) (by simp) fun _ h => ?_; dsimp only [List.set] at h)))
      exact k _ (dtqI (q := ⟨S', V, D ++ [g x.1], g⟩) hf (h.emb (by repeat' (first | with_reducible exact Emb.same _ | exact Emb.nil _ | refine Emb.cons (by with_reducible first | exact sl0 | exact .there sl0 | exact .there sl1 | exact .there sl2 | exact .there sl3 | exact .there sl4 | exact .there sl5 | exact .there sl6 | exact .there sl7 | exact .there sl8 | exact .there sl9 | exact .there sl10 | exact .there sl11 | exact .there sl12) ?_ | refine Emb.skip ?_))))

end Go.Proofs.YtenonfkfoedfmaaGreatDoor.B


/- Rising rows: where a number lies, with it, without it; slices' search in them. -/
namespace Go.Proofs.YtenonfkfoedfmaaGreatDoor.B
open Go
set_option linter.unusedVariables false

/-- how many are less, of a rising row -/
def pos : List Int → Int → Nat
  | [], _ => 0
  | b :: l, a => if b < a then pos l a + 1 else 0

abbrev Up (l : List Int) : Prop := l.Pairwise (· < ·)

def insU (l : List Int) (a : Int) : List Int := l.take (pos l a) ++ [a] ++ l.drop (pos l a)

def delU (l : List Int) (a : Int) : List Int := l.take (pos l a) ++ l.drop (pos l a + 1)

theorem pos_le : ∀ (l : List Int) (a : Int), pos l a ≤ l.length
  | [], _ => Nat.le_refl _
  | b :: l, a => by
    unfold pos
    have := pos_le l a
    split <;> simp <;> omega

theorem pos_spec : ∀ {l : List Int} {a : Int} {i : Nat} {x : Int}, Up l → l[i]? = some x → (i < pos l a ↔ x < a)
  | [], _, _, _, _, h => by simp at h
  | b :: l, a, i, x, hu, h => by
    have hu := List.pairwise_cons.1 hu
    unfold pos
    cases i with
    | zero =>
      simp only [List.getElem?_cons_zero, Option.some.injEq] at h
      subst h
      split <;> simp <;> omega
    | succ i =>
      simp only [List.getElem?_cons_succ] at h
      have hx := hu.1 x (List.mem_of_getElem? h)
      split
      · rw [Nat.succ_lt_succ_iff]
        exact pos_spec hu.2 h
      · simp only [Nat.not_lt_zero, false_iff]
        omega

theorem pos_mem {l : List Int} {a : Int} (hu : Up l) : a ∈ l ↔ l[pos l a]? = some a := by
  refine ⟨fun h => ?_, List.mem_of_getElem?⟩
  obtain ⟨i, hi⟩ := List.getElem?_of_mem h
  have h1 : ¬ i < pos l a := by rw [pos_spec hu hi]; omega
  rcases Nat.lt_or_ge (pos l a) i with h2 | h2
  · exfalso
    have hlt := (List.getElem?_eq_some_iff.1 hi).1
    have h3 := List.pairwise_iff_getElem.1 hu (pos l a) i (by omega) hlt h2
    rw [List.getElem?_eq_getElem hlt] at hi
    cases hi
    exact Nat.lt_irrefl _ ((pos_spec hu (List.getElem?_eq_getElem (show pos l l[i] < l.length by omega))).2 h3)
  · rw [show pos l a = i by omega]; exact hi

theorem pos_lt {l : List Int} {a : Int} (hu : Up l) (h : a ∈ l) : pos l a < l.length := (List.getElem?_eq_some_iff.1 ((pos_mem hu).1 h)).1

theorem insU_perm (l : List Int) (a : Int) : (insU l a).Perm (a :: l) := by
  unfold insU
  rw [List.append_assoc, List.singleton_append]
  refine List.perm_middle.trans ?_
  rw [List.take_append_drop]

theorem delU_perm {l : List Int} {a : Int} (hu : Up l) (h : a ∈ l) : l.Perm (a :: delU l a) := by
  have hl := pos_lt hu h
  have hm := (pos_mem hu).1 h
  rw [List.getElem?_eq_getElem hl] at hm
  have hm : l[pos l a] = a := by injection hm
  have h1 : l = l.take (pos l a) ++ a :: l.drop (pos l a + 1) := by
    conv => lhs; rw [← List.take_append_drop (pos l a) l, List.drop_eq_getElem_cons hl, hm]
  exact (List.Perm.of_eq h1).trans List.perm_middle

theorem delU_up {l : List Int} {a : Int} (hu : Up l) : Up (delU l a) := by
  have h : (delU l a).Sublist l := by
    unfold delU
    conv => rhs; rw [← List.take_append_drop (pos l a) l]
    refine List.Sublist.append (List.Sublist.refl _) ?_
    rw [← List.drop_drop]
    exact List.drop_sublist ..
  exact hu.sublist h

theorem insU_up {l : List Int} {a : Int} (hu : Up l) (h : a ∉ l) : Up (insU l a) := by
  have h0 : Up (l.take (pos l a) ++ l.drop (pos l a)) := by rw [List.take_append_drop]; exact hu
  obtain ⟨h1, h2, h3⟩ := List.pairwise_append.1 h0
  have hlt : ∀ x ∈ l.take (pos l a), x < a := by
    intro x hx
    obtain ⟨i, hi⟩ := List.getElem?_of_mem hx
    have hi2 := (List.getElem?_eq_some_iff.1 hi).1
    rw [List.length_take] at hi2
    rw [List.getElem?_take_of_lt (by omega)] at hi
    exact (pos_spec hu hi).1 (by omega)
  have hgt : ∀ x ∈ l.drop (pos l a), a < x := by
    intro x hx
    obtain ⟨i, hi⟩ := List.getElem?_of_mem hx
    rw [List.getElem?_drop] at hi
    have h5 : ¬ x < a := by rw [← pos_spec hu hi]; omega
    have h6 : x ≠ a := fun he => h (he ▸ List.mem_of_getElem? hi)
    omega
  refine List.pairwise_append.2 ⟨List.pairwise_append.2 ⟨h1, List.pairwise_singleton .., fun x hx y hy => ?_⟩, h2, fun x hx y hy => ?_⟩
  · rw [List.mem_singleton.1 hy]; exact hlt x hx
  · rcases List.mem_append.1 hx with hx | hx
    · exact h3 x hx y hy
    · rw [List.mem_singleton.1 hx]; exact hgt y hy

theorem isNaN_int {a : Int} {R : List Value → World → Prop} {w : World} (k : R [.bool false] w) : sh246 a R w := by
  unfold sh246
  rw [bne_self_eq_false]
  exact k

theorem cmpNaN_int {a : Int} {R : List Value → World → Prop} {w : World} (k : R [.bool false] w) : sh234 a R w := by
  unfold sh234
  rw [bne_self_eq_false]
  exact k

theorem Less_int {e w L R} {a b : Int} (h : Ok e L w) (k : R [.bool (decide (a < b))] w) : sh245 a b R w := by
  unfold sh245
  refine call234 (cmpNaN_int ⟨(false, ()), rfl, ?_⟩)
  refine jn.at (false, ()) (fun w' => w = w') (fun J hJ => cs.no rfl (hJ _ rfl)) (fun w7 hw7 => ?_)
  subst hw7
  refine jn.at (decide (a < b), ()) (fun w' => w = w') (fun J hJ => cs.no rfl (hJ _ rfl)) (fun w7 hw7 => ?_)
  subst hw7
  exact k

set_option maxHeartbeats 1000000 in
theorem Search_int {e w L s l R} {a : Int} (h : Ok e (slc 1 s (ints l) :: L) w) (hu : Up l) (hb : s.len ≤ 2 ^ 31) (k : R [.int .i64 (pos l a), .bool (decide (a ∈ l))] w) : sh220 s a R w := by
  unfold sh220
  have hl := h.slc_len
  rw [ints_len, Nat.mul_one] at hl
  have hp := pos_le l a
  refine lp.mk (fun t w' => ∃ i j : Nat, t.1 = (i : Int) ∧ t.2.1 = (j : Int) ∧ i ≤ pos l a ∧ pos l a ≤ j ∧ j ≤ s.len ∧ w = w') (fun t _ => t.2.1.toNat - t.1.toNat) ⟨0, s.len, rfl, rfl, Nat.zero_le _, by omega, Nat.le_refl _, rfl⟩ ?_
  rintro ⟨i', j', _⟩ w1 ⟨i, j, hi, hj, h1, h2, h3, hw⟩
  dsimp only at hi hj
  subst hi hj hw
  refine cs.mk (fun hlt => ?_) (fun hge => ?_)
  · have hlt : i < j := by have := of_decide_eq_true hlt; dsimp only at this; omega
    have hm : w64 (Int.fdiv (IntKind.u64.wrap (w64 ((i : Int) + (j : Int)))) (2 ^ 1)) = (((i + j) / 2 : Nat) : Int) := by
      rw [w64_in (x := (i : Int) + j) (by omega) (by omega), IntWalk.u64_in _ (by omega), show ((2 : Int) ^ 1) = 2 from rfl, Int.fdiv_eq_ediv_of_nonneg _ (by decide), w64_in (by omega) (by omega)]
      omega
    dsimp only
    rw [hm]
    refine ix_int h (Int.natCast_nonneg _) (by show (((i + j) / 2 : Nat) : Int) < (s.len : Int); omega) fun b o x hx hc => ldI.mk (hc _ ⟨_, h⟩) ?_
    rw [Int.toNat_natCast] at hx
    have hs := pos_spec (a := a) hu hx
    refine call245 (Less_int h ⟨(decide (x < a), ()), rfl, ?_⟩)
    refine cs.mk (fun hc1 => ?_) (fun hc1 => ?_)
    · have hc1 := hs.2 (of_decide_eq_true hc1)
      rw [w64_in (x := (((i + j) / 2 : Nat) : Int) + 1) (by omega) (by omega)]
      refine ⟨⟨(i + j) / 2 + 1, j, rfl, rfl, by omega, h2, h3, rfl⟩, ?_⟩
      show Int.toNat (j : Int) - Int.toNat ((((i + j) / 2 : Nat) : Int) + 1) < Int.toNat (j : Int) - Int.toNat (i : Int)
      omega
    · have hc1 : ¬ (i + j) / 2 < pos l a := fun h5 => of_decide_eq_false hc1 (hs.1 h5)
      refine ⟨⟨i, (i + j) / 2, rfl, rfl, h1, by omega, by omega, rfl⟩, ?_⟩
      show Int.toNat (((i + j) / 2 : Nat) : Int) - Int.toNat (i : Int) < Int.toNat (j : Int) - Int.toNat (i : Int)
      omega
  have hge : j ≤ i := by have := of_decide_eq_false hge; dsimp only at this; omega
  obtain rfl : i = pos l a := by omega
  refine jn.at (decide (a ∈ l), ()) (fun w' => w = w') (fun J hJ => cs.mk (fun h1 => ?_) (fun h1 => ?_)) (fun w7 hw7 => by subst hw7; exact k)
  · have h1 : pos l a < s.len := by have := of_decide_eq_true h1; dsimp only at this; omega
    refine ix_int h (by simp) (by show (pos l a : Int) < (s.len : Int); omega) fun b o x hx hc => ldI.mk (hc _ ⟨_, h⟩) ?_
    rw [Int.toNat_natCast] at hx
    refine jn.at (decide (a ∈ l), ()) (fun w' => w = w') (fun J1 hJ1 => cs.mk (fun h2 => ?_) (fun h2 => ?_)) (fun w7 hw7 => hJ _ hw7)
    · have h2 : x = a := by simpa using h2
      subst h2
      rw [decide_eq_true (List.mem_of_getElem? hx)] at hJ1
      exact hJ1 _ rfl
    · have h2 : x ≠ a := by simpa using h2
      have hno : a ∉ l := fun hm => by rw [(pos_mem hu).1 hm] at hx; cases hx; exact h2 rfl
      rw [decide_eq_false hno] at hJ1
      refine ix_int h (by simp) (by show (pos l a : Int) < (s.len : Int); omega) fun b o x hx hc => ldI.mk (hc _ ⟨_, h⟩) ?_
      refine call246 (isNaN_int ⟨(false, ()), rfl, ?_⟩)
      refine jn.at (false, ()) (fun w' => w = w') (fun J hJ => cs.no rfl (hJ _ rfl)) (fun w7 hw7 => ?_)
      subst hw7
      exact hJ1 _ rfl
  · have h1 : ¬ pos l a < s.len := by have := of_decide_eq_false h1; dsimp only at this; omega
    have hno : a ∉ l := fun hm => by have := pos_lt hu hm; omega
    rw [decide_eq_false hno] at hJ
    exact hJ _ rfl

theorem ov_int : OvT Pg 199 72 := ⟨Tryz.f199, 4, Tryz.func199, by kernel_rfl, by kernel_rfl, by kernel_rfl, by kernel_rfl⟩

theorem Delete_int {e w L s l R} {i : Nat} (h : Ok e (slc 1 s (ints l) :: L) w) (hil : i < l.length) (hb : l.length ≤ 2 ^ 31)
    (k : ∀ s' w', Ok e (slc 1 s' (ints (l.take i ++ l.drop (i + 1))) :: L) w' → R [vS s'] w') : sh219 s i (i + 1) R w := by
  unfold sh219
  have hl := h.slc_len
  rw [ints_len, Nat.mul_one] at hl
  refine del_body slT_int (by decide) h (by omega) (by omega) (by omega) (by omega) fun s' w' _ h' => k s' w' ?_
  rw [show ((i : Int) + 1).toNat = i + 1 by omega, Int.toNat_natCast, Nat.mul_one, Nat.mul_one] at h'
  simpa [ints, List.map_take, List.map_drop] using h'

theorem Insert_int {e w L s x l R} {i : Nat} {y : Int} (h : Ok e (slc 1 x (ints [y]) :: slc 1 s (ints l) :: L) w) (hil : i ≤ l.length) (hb : l.length ≤ 2 ^ 30)
    (k : ∀ s' w', Ok e (slc 1 s' (ints (l.take i ++ [y] ++ l.drop i)) :: L) w' → R [vS s'] w') : sh126 s i x R w := by
  unfold sh126
  have hl := h.p1.slc_len
  rw [ints_len, Nat.mul_one] at hl
  have hx := h.slc_len
  rw [ints_len, Nat.mul_one] at hx
  simp only [List.length_singleton] at hx
  refine ins_body (ki := .i64) slT_int (by kernel_rfl) ov_int (by decide) h (by omega) (by omega) (by omega) (by omega) fun s' w' _ h' => k s' w' ?_
  rw [Int.toNat_natCast, Nat.mul_one] at h'
  simpa [ints, List.map_take, List.map_drop] using h'

end Go.Proofs.YtenonfkfoedfmaaGreatDoor.B


/- Contracts of the package mpf: blocks. -/
namespace Go.Proofs.YtenonfkfoedfmaaGreatDoor.B
open Go
set_option linter.unusedVariables false

theorem mp_ints_take (D : List Int) (n : Nat) : (ints D).take n = ints (D.take n) := by simp [ints, List.map_take]

theorem mp_ints_snoc (D : List Int) (d : Int) : ints D ++ [Value.int .i64 d] = ints (D ++ [d]) := by simp [ints]

theorem mp_slc_ints_len {e w L s D} (h : Ok e (slc 1 s (ints D) :: L) w) : D.length = s.len := by
  have := h.slc_len
  rw [ints_len] at this
  omega

theorem Insert_one {e w L s c l R} {i : Nat} {y : Int} (h : Ok e (pts c [.int .i64 y] :: slc 1 s (ints l) :: L) w) (hil : i ≤ l.length) (hb : l.length ≤ 2 ^ 30)
    (k : ∀ s' w', Ok e (slc 1 s' (ints (l.take i ++ [y] ++ l.drop i)) :: L) w' → R [vS s'] w') : sh126 s i ⟨some ⟨c, 0, none⟩, 1, 1⟩ R w :=
  Insert_int (Ok.slcNew (vs := ints [y]) h (n := 1) (sz := 1) rfl (ints_one [y])) hil hb k

/-- how far apart blocks lie -/
def stp (z : Int) : Int := (z + 3) / 4 * 4

theorem stp_bd {z : Int} (h : 1 ≤ z ∧ z ≤ 4096) : 4 ≤ stp z ∧ z ≤ stp z ∧ stp z ≤ 4096 := by
  unfold stp
  omega

theorem Align_nums {e w L z R} (h : Ok e L w) (hz : 1 ≤ z ∧ z ≤ 4096) (k : ∀ w', Ok e L w' → R [.int .i64 (stp z)] w') : sh127 z 4 R w := by
  unfold sh127
  refine jn.bool (false) (fun J hJ => ?_) ?_
  · refine cs.no (decide_eq_false (by omega)) ?_
    rw [show decide (z > 1073741824) = false from decide_eq_false (by omega)]
    exact hJ
  refine jn.bool (false) (fun J hJ => ?_) ?_
  · exact cs.no rfl hJ
  refine jn.bool (false) (fun J hJ => ?_) ?_
  · exact cs.no rfl hJ
  refine cs.no rfl (ob.mk (by decide) ?_)
  rw [w64_in (x := z + 4) (by omega) (by omega), w64_in (x := z + 4 - 1) (by omega) (by omega), Int.tdiv_eq_ediv_of_nonneg (by omega), w64_in (x := (z + 4 - 1) / 4) (by omega) (by omega), w64_in (by omega) (by omega), show z + 4 - 1 = z + 3 by omega]
  exact k _ h

/-- what a pool has -/
structure MP where
  S : List (Int × Int)
  had : Int
  back : List Int
  held : List Int

def blks (a z had : Int) : List Int := (List.range had.toNat).map fun (k : Nat) => a + (k : Int) * stp z

structure MPo (a n z : Int) (q : MP) : Prop where
  c : 0 ≤ a ∧ a ≤ 65536 ∧ 1 ≤ n ∧ n ≤ 256 ∧ 1 ≤ z ∧ z ≤ 4096 ∧ n * stp z ≤ 65536 - a
  line : okL q.S
  had : 0 ≤ q.had ∧ q.had ≤ n
  up : Up q.held
  perm : (q.back ++ q.held).Perm (blks a z q.had)

def MP.poll (a n z : Int) (q : MP) : (Int × Bool) × MP :=
  match q.back.getLast? with
  | some x => ((x, true), ⟨q.S, q.had, q.back.dropLast, insU q.held x⟩)
  | none => if q.had < n then ((a + q.had * stp z, true), ⟨q.S, q.had + 1, q.back, insU q.held (a + q.had * stp z)⟩) else ((0, false), q)

def MP.get (a n z : Int) (byPri : Bool) (q : MP) (task pri : Int) : (Int × Bool × Int) × MP :=
  if (q.poll a n z).1.2 then (((q.poll a n z).1.1, true, 0), (q.poll a n z).2)
  else ((0, false, (addL byPri q.S task pri).1), ⟨(addL byPri q.S task pri).2, q.had, q.back, q.held⟩)

def MP.put (q : MP) (x : Int) : (Int × Int) × MP :=
  if x ∈ q.held then
    match q.S with
    | y :: r => ((y.1, 0), ⟨r, q.had, q.back, q.held⟩)
    | [] => ((0, 0), ⟨[], q.had, q.back ++ [x], delU q.held x⟩)
  else ((0, -17), q)

def MP.holds (z : Int) (q : MP) (at' n : Int) : Bool := decide (1 ≤ n ∧ n ≤ z) && q.held.any fun h => decide (h ≤ at' ∧ at' ≤ h + z - n)

def mp0 : MP := ⟨[], 0, [], []⟩

theorem blks_mem {a z had x : Int} : x ∈ blks a z had ↔ ∃ k : Nat, (k : Int) < had ∧ x = a + k * stp z := by
  unfold blks
  rw [List.mem_map]
  exact ⟨fun ⟨k, hk, he⟩ => ⟨k, by have := List.mem_range.1 hk; omega, he.symm⟩, fun ⟨k, hk, he⟩ => ⟨k, List.mem_range.2 (by omega), he.symm⟩⟩

theorem blks_succ {a z had : Int} (h : 0 ≤ had) : blks a z (had + 1) = blks a z had ++ [a + had * stp z] := by
  unfold blks
  rw [show (had + 1).toNat = had.toNat + 1 by omega, List.range_succ, List.map_append, List.map_singleton, Int.toNat_of_nonneg h]

theorem blks_len {a z had : Int} : (blks a z had).length = had.toNat := by simp [blks]

theorem mul_lt_stp {z : Int} (h : 1 ≤ z ∧ z ≤ 4096) {i j : Int} (hij : i < j) : i * stp z + stp z ≤ j * stp z := by
  have h4 := (stp_bd h).1
  have := Int.mul_le_mul_of_nonneg_right (show i + 1 ≤ j by omega) (show 0 ≤ stp z by omega)
  rw [Int.add_mul, Int.one_mul] at this
  exact this

theorem blks_nodup {a z had : Int} (h : 1 ≤ z ∧ z ≤ 4096) : (blks a z had).Nodup := by
  refine List.pairwise_map.2 (List.nodup_range.imp fun {i j} hij => ?_)
  intro he
  have h4 := (stp_bd h).1
  rcases Nat.lt_or_ge i j with h1 | h1
  · have := mul_lt_stp h (i := i) (j := j) (by omega); omega
  · have := mul_lt_stp h (i := j) (j := i) (by omega); omega

theorem MPo.nodup {a n z q} (h : MPo a n z q) : (q.back ++ q.held).Nodup := h.perm.nodup_iff.2 (blks_nodup ⟨h.c.2.2.2.2.1, h.c.2.2.2.2.2.1⟩)

theorem MPo.bd {a n z q} (h : MPo a n z q) {x : Int} (hx : x ∈ q.back ++ q.held) : 0 ≤ x ∧ x + stp z ≤ 65536 ∧ ∃ k : Nat, (k : Int) < q.had ∧ x = a + k * stp z := by
  obtain ⟨k, hk, he⟩ := blks_mem.1 (h.perm.mem_iff.1 hx)
  have hz := And.intro h.c.2.2.2.2.1 h.c.2.2.2.2.2.1
  have h4 := stp_bd hz
  have h5 := mul_lt_stp hz (i := k) (j := n) (by have := h.had; omega)
  have h6 := Int.mul_nonneg (show (0 : Int) ≤ k by omega) (show 0 ≤ stp z by omega)
  have := h.c
  exact ⟨by omega, by omega, k, hk, he⟩

theorem MPo.len {a n z q} (h : MPo a n z q) : q.back.length + q.held.length = q.had.toNat := by
  have := h.perm.length_eq
  rw [List.length_append, blks_len] at this
  exact this

theorem MPo.new {a n z q} (h : MPo a n z q) : a + q.had * stp z ∉ q.back ++ q.held := by
  intro hx
  obtain ⟨k, hk, he⟩ := blks_mem.1 (h.perm.mem_iff.1 hx)
  have hz := And.intro h.c.2.2.2.2.1 h.c.2.2.2.2.2.1
  have h4 := stp_bd hz
  have h5 := mul_lt_stp hz (i := k) (j := q.had) hk
  omega

theorem last_app {l : List Int} {x : Int} (h : l.getLast? = some x) : l = l.dropLast ++ [x] := by
  obtain ⟨m, rfl⟩ := List.getLast?_eq_some_iff.1 h
  simp

theorem poll_ok {a n z q} (h : MPo a n z q) : MPo a n z (q.poll a n z).2 := by
  have hd := h.nodup
  unfold MP.poll
  split
  · next x hx =>
    have hb := last_app hx
    have hno : x ∉ q.held := fun hm => (List.nodup_append.1 hd).2.2 x (by rw [hb]; simp) x hm rfl
    refine ⟨h.c, h.line, h.had, insU_up h.up hno, ?_⟩
    refine ((insU_perm q.held x).append_left _).trans ?_
    have hp := h.perm
    rw [hb, List.append_assoc] at hp
    exact hp
  · next hx =>
    split
    · next hlt =>
      have hno := h.new
      refine ⟨h.c, h.line, ⟨show 0 ≤ q.had + 1 by have := h.had; omega, show q.had + 1 ≤ n by omega⟩, insU_up h.up fun hm => hno (List.mem_append_right _ hm), ?_⟩
      dsimp only
      rw [blks_succ h.had.1]
      refine ((insU_perm q.held _).append_left _).trans ?_
      refine List.perm_middle.trans ?_
      exact ((h.perm.cons _).trans (List.perm_append_singleton ..).symm)
    · exact h

theorem put_ok {a n z q x} (h : MPo a n z q) : MPo a n z (q.put x).2 := by
  unfold MP.put
  split
  · next hm =>
    split
    · next y r he => have hl := h.line; rw [he] at hl; exact ⟨h.c, (okL_tail hl).1, h.had, h.up, h.perm⟩
    · next he =>
      refine ⟨h.c, okL_nil, h.had, delU_up h.up, ?_⟩
      dsimp only
      rw [List.append_assoc]
      exact ((delU_perm h.up hm).symm.append_left _).trans h.perm
  · exact h

def mpfC (p : Nat) (a n z had : Int) (s t : Sl) : List Value := [.pointer (some ⟨p, 0, none⟩), .int .i64 a, .int .i64 n, .int .i64 z, .int .i64 had, vS s, vS t]

def mpfP (b : Nat) (byPri : Bool) (a n z : Int) (q : MP) : SP := fun h => ∃ p s t,
  oksH [pts b [.pointer (some ⟨p, 0, none⟩), .int .i64 a, .int .i64 n, .int .i64 z, .int .i64 q.had, vS s, vS t], lineP p [.bool byPri] q.S, slc 1 s (ints q.back), slc 1 t (ints q.held)] h

theorem mpfE {e w L b byPri a n z q} (h : Ok e (mpfP b byPri a n z q :: L) w) : ∃ p s t, q.back.length = s.len ∧ q.held.length = t.len ∧
    Ok e (pts b [.pointer (some ⟨p, 0, none⟩), .int .i64 a, .int .i64 n, .int .i64 z, .int .i64 q.had, vS s, vS t] :: lineP p [.bool byPri] q.S :: slc 1 s (ints q.back) :: slc 1 t (ints q.held) :: L) w := by
  obtain ⟨p, h⟩ := h.exE
  obtain ⟨s, h⟩ := h.exE
  obtain ⟨t, h⟩ := h.exE
  have h := h.unpack
  exact ⟨p, s, t, mp_slc_ints_len h.p2, mp_slc_ints_len h.p3, h⟩

theorem mpfI {e w L b byPri a n z q p s t} (h : Ok e (pts b [.pointer (some ⟨p, 0, none⟩), .int .i64 a, .int .i64 n, .int .i64 z, .int .i64 q.had, vS s, vS t] :: lineP p [.bool byPri] q.S :: slc 1 s (ints q.back) :: slc 1 t (ints q.held) :: L) w) : Ok e (mpfP b byPri a n z q :: L) w :=
  (Ok.pack (M := [pts b [.pointer (some ⟨p, 0, none⟩), .int .i64 a, .int .i64 n, .int .i64 z, .int .i64 q.had, vS s, vS t], lineP p [.bool byPri] q.S, slc 1 s (ints q.back), slc 1 t (ints q.held)]) h).imp fun k hk => ⟨p, s, t, hk⟩

theorem stp_mul_bd {z n : Int} (h : 1 ≤ z ∧ z ≤ 4096) (hn : 0 ≤ n ∧ n ≤ 256) : 0 ≤ n * stp z ∧ n * stp z ≤ 256 * 4096 := by
  have h4 := stp_bd h
  exact ⟨Int.mul_nonneg hn.1 (by omega), Int.le_trans (Int.mul_le_mul_of_nonneg_right hn.2 (by omega)) (by omega)⟩

def mpGood (a n z : Int) : Prop := 0 ≤ a ∧ a ≤ 65536 ∧ a % 4 = 0 ∧ 1 ≤ n ∧ n ≤ 256 ∧ 1 ≤ z ∧ z ≤ 4096 ∧ n * stp z ≤ 65536 - a

instance (a n z : Int) : Decidable (mpGood a n z) := by unfold mpGood; infer_instance

theorem mp0_ok {a n z} (h : mpGood a n z) : MPo a n z mp0 := by
  obtain ⟨h1, h2, h3, h4, h5, h6, h7, h8⟩ := h
  exact ⟨⟨h1, h2, h4, h5, h6, h7, h8⟩, okL_nil, ⟨Int.le_refl _, by show 0 ≤ n; omega⟩, List.Pairwise.nil, List.Perm.of_eq (by rfl)⟩

end Go.Proofs.YtenonfkfoedfmaaGreatDoor.B


/- Contracts of the package mpf: its calls. -/
namespace Go.Proofs.YtenonfkfoedfmaaGreatDoor.B
open Go
set_option linter.unusedVariables false

set_option maxHeartbeats 1000000 in
theorem NewPool_mpf {e w L byPri a n z R} (h : Ok e L w) (k0 : ∀ w', Ok e L w' → ¬ mpGood a n z → R [.pointer none, .int .i64 (-17)] w') (k1 : mpGood a n z → ∀ b w', Ok e (mpfP b byPri a n z mp0 :: L) w' → R [.pointer (some ⟨b, 0, none⟩), .int .i64 0] w') : sh182 byPri a n z R w := by
  unfold sh182
  refine jn.bool (decide (¬ (1 ≤ n ∧ n ≤ 256))) (fun J hJ => ?_) ?_
  · refine cs.mk (fun h1 => ?_) (fun h1 => ?_)
    · have h1 := of_decide_eq_true h1
      rw [decide_eq_true (by omega)] at hJ
      exact hJ
    · have h1 := of_decide_eq_false h1
      rw [show decide (¬ (1 ≤ n ∧ n ≤ 256)) = decide (n > 256) from decide_eq_decide.2 (by omega)] at hJ
      exact hJ
  refine jn.bool (decide (¬ (1 ≤ n ∧ n ≤ 256 ∧ 1 ≤ z))) (fun J hJ => ?_) ?_
  · refine cs.mk (fun h1 => ?_) (fun h1 => ?_)
    · have h1 := of_decide_eq_true h1
      rw [decide_eq_true (by omega)] at hJ
      exact hJ
    · have h1 := of_decide_eq_false h1
      rw [show decide (¬ (1 ≤ n ∧ n ≤ 256 ∧ 1 ≤ z)) = decide (z < 1) from decide_eq_decide.2 (by omega)] at hJ
      exact hJ
  refine jn.bool (decide (¬ (1 ≤ n ∧ n ≤ 256 ∧ 1 ≤ z ∧ z ≤ 4096))) (fun J hJ => ?_) ?_
  · refine cs.mk (fun h1 => ?_) (fun h1 => ?_)
    · have h1 := of_decide_eq_true h1
      rw [decide_eq_true (by omega)] at hJ
      exact hJ
    · have h1 := of_decide_eq_false h1
      rw [show decide (¬ (1 ≤ n ∧ n ≤ 256 ∧ 1 ≤ z ∧ z ≤ 4096)) = decide (z > 4096) from decide_eq_decide.2 (by omega)] at hJ
      exact hJ
  refine jn.bool (decide (¬ (1 ≤ n ∧ n ≤ 256 ∧ 1 ≤ z ∧ z ≤ 4096 ∧ 0 ≤ a))) (fun J hJ => ?_) ?_
  · refine cs.mk (fun h1 => ?_) (fun h1 => ?_)
    · have h1 := of_decide_eq_true h1
      rw [decide_eq_true (by omega)] at hJ
      exact hJ
    · have h1 := of_decide_eq_false h1
      rw [show decide (¬ (1 ≤ n ∧ n ≤ 256 ∧ 1 ≤ z ∧ z ≤ 4096 ∧ 0 ≤ a)) = decide (a < 0) from decide_eq_decide.2 (by omega)] at hJ
      exact hJ
  refine jn.bool (decide (¬ (1 ≤ n ∧ n ≤ 256 ∧ 1 ≤ z ∧ z ≤ 4096 ∧ 0 ≤ a ∧ a ≤ 65536))) (fun J hJ => ?_) ?_
  · refine cs.mk (fun h1 => ?_) (fun h1 => ?_)
    · have h1 := of_decide_eq_true h1
      rw [decide_eq_true (by omega)] at hJ
      exact hJ
    · have h1 := of_decide_eq_false h1
      rw [show decide (¬ (1 ≤ n ∧ n ≤ 256 ∧ 1 ≤ z ∧ z ≤ 4096 ∧ 0 ≤ a ∧ a ≤ 65536)) = decide (a > 65536) from decide_eq_decide.2 (by omega)] at hJ
      exact hJ
  refine jn.bool (decide (¬ (1 ≤ n ∧ n ≤ 256 ∧ 1 ≤ z ∧ z ≤ 4096 ∧ 0 ≤ a ∧ a ≤ 65536 ∧ a % 4 = 0))) (fun J hJ => ?_) ?_
  · refine cs.mk (fun h1 => ?_) (fun h1 => ?_)
    · have h1 := of_decide_eq_true h1
      rw [decide_eq_true (by omega)] at hJ
      exact hJ
    · have h1 := of_decide_eq_false h1
      rw [show decide (¬ (1 ≤ n ∧ n ≤ 256 ∧ 1 ≤ z ∧ z ≤ 4096 ∧ 0 ≤ a ∧ a ≤ 65536 ∧ a % 4 = 0)) = (Int.tmod a 4 != 0) by
        rw [Int.tmod_eq_emod_of_nonneg (by omega), Bool.eq_iff_iff, decide_eq_true_iff, bne_iff_ne]; omega] at hJ
      exact hJ
  refine jn.at (decide (¬ mpGood a n z), ()) (fun w' => Ok e L w') (fun J hJ => cs.mk (fun h1 => ?_) (fun h1 => ?_)) (fun w1 h => ?_)
  · have h1 := of_decide_eq_true h1
    rw [decide_eq_true (by unfold mpGood; omega)] at hJ
    exact hJ _ h
  · have h1 := Decidable.not_not.1 (of_decide_eq_false h1)
    have hz : 1 ≤ z ∧ z ≤ 4096 := by omega
    refine call127 (Align_nums h hz fun w1 h => ⟨(stp z, ()), rfl, ?_⟩)
    have hm := stp_mul_bd (n := n) hz (by omega)
    dsimp only
    rw [w64_in (x := n * stp z) (by omega) (by omega), w64_in (x := 65536 - a) (by omega) (by omega)]
    rw [show decide (¬ mpGood a n z) = decide (n * stp z > 65536 - a) from decide_eq_decide.2 (by unfold mpGood; omega)] at hJ
    exact hJ _ h
  refine cs.mk (fun h1 => k0 w1 h (of_decide_eq_true h1)) (fun h1 => ?_)
  have h1 := Decidable.not_not.1 (of_decide_eq_false h1)
  refine call44 (New_order h fun p w1 h => ⟨(some ⟨p, 0, none⟩, ()), rfl, ?_⟩)
  refine al.mk h fun b w2 h => k1 h1 b w2 ?_
  have h := (h.slcNil 1).slcNil 1
  have h := (Ok.emb (h) (.cons (A := pts b _) (by with_reducible first | exact sl0 | exact .there sl0 | exact .there sl1 | exact .there sl2 | exact .there sl3 | exact .there sl4 | exact .there sl5 | exact .there sl6 | exact .there sl7 | exact .there sl8 | exact .there sl9 | exact .there sl10 | exact .there sl11 | exact .there sl12) (.cons (A := lineP p _ _) (by with_reducible first | exact sl0 | exact .there sl0 | exact .there sl1 | exact .there sl2 | exact .there sl3 | exact .there sl4 | exact .there sl5 | exact .there sl6 | exact .there sl7 | exact .there sl8 | exact .there sl9 | exact .there sl10 | exact .there sl11 | exact .there sl12) (.cons (A := slc 1 ⟨none, 0, 0⟩ _) (by with_reducible first | exact sl0 | exact .there sl0 | exact .there sl1 | exact .there sl2 | exact .there sl3 | exact .there sl4 | exact .there sl5 | exact .there sl6 | exact .there sl7 | exact .there sl8 | exact .there sl9 | exact .there sl10 | exact .there sl11 | exact .there sl12) (.cons (A := slc 1 ⟨none, 0, 0⟩ _) (by with_reducible first | exact sl0 | exact .there sl0 | exact .there sl1 | exact .there sl2 | exact .there sl3 | exact .there sl4 | exact .there sl5 | exact .there sl6 | exact .there sl7 | exact .there sl8 | exact .there sl9 | exact .there sl10 | exact .there sl11 | exact .there sl12) (.same _))))))
  exact mpfI (p := p) (q := mp0) (s := ⟨none, 0, 0⟩) (t := ⟨none, 0, 0⟩) h

set_option maxHeartbeats 1000000 in
theorem Poll_mpf {e w L b byPri a n z q R} (h : Ok e (mpfP b byPri a n z q :: L) w) (ho : MPo a n z q)
    (k : ∀ w', Ok e (mpfP b byPri a n z (q.poll a n z).2 :: L) w' → R [.int .i64 (q.poll a n z).1.1, .bool (q.poll a n z).1.2] w') : sh157 (some ⟨b, 0, none⟩) R w := by
  unfold sh157
  have hlen := ho.len
  have hhad := ho.had
  have hc := ho.c
  have hz := And.intro hc.2.2.2.2.1 hc.2.2.2.2.2.1
  have hst := stp_mul_bd (n := q.had) hz (by omega)
  obtain ⟨p, s, t, hs, ht, h⟩ := mpfE h
  refine nn.mk (ldS.mk (by refine Ok.cellS h (by with_reducible first | exact sl0 | exact .there sl0 | exact .there sl1 | exact .there sl2 | exact .there sl3 | exact .there sl4 | exact .there sl5 | exact .there sl6 | exact .there sl7 | exact .there sl8 | exact .there sl9 | exact .there sl10 | exact .there sl11 | exact .there sl12) ?_; rfl) ?_)
  by_cases hf : q.back = [] ∧ ¬ q.had < n
  · refine jn.mk fun J hJ => ?_
    unfold MP.poll at k
    rw [hf.1] at k
    simp only [List.getLast?_nil, if_neg hf.2] at k
    refine cs.no (decide_eq_false (by rw [← hs, hf.1]; simp)) ?_
    (repeat (first | with_reducible refine dr.mk h fun _ h => ?_ | with_reducible refine nn.mk ?_ | ((first | with_reducible apply ldI.mk | with_reducible apply ldB.mk | with_reducible apply ldP.mk | with_reducible apply ldS.mk | with_reducible apply ldM.mk | with_reducible apply ldF.mk | with_reducible apply ldG.mk); (· exact (by refine Ok.cellS h (by with_reducible first | exact sl0 | exact .there sl0 | exact .there sl1 | exact .there sl2 | exact .there sl3 | exact .there sl4 | exact .there sl5 | exact .there sl6 | exact .there sl7 | exact .there sl8 | exact .there sl9 | exact .there sl10 | exact .there sl11 | exact .there sl12) ?_; rfl))) | (refine st1.mk (Ok.bring h (by with_reducible first | exact sl0 | exact .there sl0 | exact .there sl1 | exact .there sl2 | exact .there sl3 | exact .there sl4 | exact .there sl5 | exact .there sl6 | exact .there sl7 | exact .there sl8 | exact .there sl9 | exact .there sl10 | exact .there sl11 | exact .there sl12)) (by simp) fun _ h => ?_; dsimp only [List.set] at h)))
    refine cs.no (decide_eq_false hf.2) ?_
    exact k _ (mpfI (q := q) (p := p) (s := s) (t := t) (h.emb (by repeat' (first | with_reducible exact Emb.same _ | exact Emb.nil _ | refine Emb.cons (by with_reducible first | exact sl0 | exact .there sl0 | exact .there sl1 | exact .there sl2 | exact .there sl3 | exact .there sl4 | exact .there sl5 | exact .there sl6 | exact .there sl7 | exact .there sl8 | exact .there sl9 | exact .there sl10 | exact .there sl11 | exact .there sl12) ?_ | refine Emb.skip ?_))))
  refine jn.at ((q.poll a n z).1.1, ()) (fun w' => ∃ s', Ok e (pts b [.pointer (some ⟨p, 0, none⟩), .int .i64 a, .int .i64 n, .int .i64 z, .int .i64 (q.poll a n z).2.had, vS s', vS t] :: lineP p [.bool byPri] q.S :: slc 1 s' (ints (q.poll a n z).2.back) :: slc 1 t (ints q.held) :: L) w') (fun J hJ => ?_) (fun w1 h => ?_)
  · unfold MP.poll at hJ
    cases hb : q.back.getLast? with
    | some x =>
      rw [hb] at hJ
      dsimp only at hJ
      have hl := last_app hb
      have hlen2 : q.back.length = q.back.dropLast.length + 1 := by conv => lhs; rw [hl, List.length_append, List.length_singleton]
      have hw : w64 ((s.len : Int) - 1) = ((q.back.dropLast.length : Nat) : Int) := by rw [w64_in (by omega) (by omega)]; omega
      refine cs.yes (decide_eq_true (by omega)) ?_
      rw [hw]
      refine nn.mk (ldS.mk (by refine Ok.cellS h (by with_reducible first | exact sl0 | exact .there sl0 | exact .there sl1 | exact .there sl2 | exact .there sl3 | exact .there sl4 | exact .there sl5 | exact .there sl6 | exact .there sl7 | exact .there sl8 | exact .there sl9 | exact .there sl10 | exact .there sl11 | exact .there sl12) ?_; rfl) ?_)
      refine ix_int (Ok.emb (h) (.cons (A := slc 1 s _) (by with_reducible first | exact sl0 | exact .there sl0 | exact .there sl1 | exact .there sl2 | exact .there sl3 | exact .there sl4 | exact .there sl5 | exact .there sl6 | exact .there sl7 | exact .there sl8 | exact .there sl9 | exact .there sl10 | exact .there sl11 | exact .there sl12) (.same _))) (Int.natCast_nonneg _) (by omega) fun c o y hy hcell => ldI.mk (hcell _ ⟨_, (Ok.emb (h) (.cons (A := slc 1 s _) (by with_reducible first | exact sl0 | exact .there sl0 | exact .there sl1 | exact .there sl2 | exact .there sl3 | exact .there sl4 | exact .there sl5 | exact .there sl6 | exact .there sl7 | exact .there sl8 | exact .there sl9 | exact .there sl10 | exact .there sl11 | exact .there sl12) (.same _)))⟩) ?_
      rw [Int.toNat_natCast] at hy
      have hy2 : y = x := by
        rw [hl, List.getElem?_append_right (by simp)] at hy
        simpa using hy.symm
      subst hy2
      clear hcell
      refine nn.mk (ldS.mk (by refine Ok.cellS h (by with_reducible first | exact sl0 | exact .there sl0 | exact .there sl1 | exact .there sl2 | exact .there sl3 | exact .there sl4 | exact .there sl5 | exact .there sl6 | exact .there sl7 | exact .there sl8 | exact .there sl9 | exact .there sl10 | exact .there sl11 | exact .there sl12) ?_; rfl) ?_)
      refine sb.take (Ok.emb (h) (.cons (A := slc 1 s _) (by with_reducible first | exact sl0 | exact .there sl0 | exact .there sl1 | exact .there sl2 | exact .there sl3 | exact .there sl4 | exact .there sl5 | exact .there sl6 | exact .there sl7 | exact .there sl8 | exact .there sl9 | exact .there sl10 | exact .there sl11 | exact .there sl12) (.same _))) (Int.natCast_nonneg _) (by omega) fun s' hl' hc' h => ?_
      refine nn.mk (st1.mk (Ok.emb (h) (.cons (A := pts b _) (by with_reducible first | exact sl0 | exact .there sl0 | exact .there sl1 | exact .there sl2 | exact .there sl3 | exact .there sl4 | exact .there sl5 | exact .there sl6 | exact .there sl7 | exact .there sl8 | exact .there sl9 | exact .there sl10 | exact .there sl11 | exact .there sl12) (.same _))) (by simp) fun w2 h => hJ _ ⟨s', ?_⟩)
      rw [Int.toNat_natCast, Nat.mul_one, mp_ints_take, show q.back.take q.back.dropLast.length = q.back.dropLast by rw [List.length_dropLast, ← List.dropLast_eq_take]] at h
      dsimp only [List.set, List.tail_cons, List.tail_nil, List.head?_cons, List.head?_nil, Option.getD_some, Option.getD_none] at h
      exact (h.emb (by repeat' (first | with_reducible exact Emb.same _ | exact Emb.nil _ | refine Emb.cons (by with_reducible first | exact sl0 | exact .there sl0 | exact .there sl1 | exact .there sl2 | exact .there sl3 | exact .there sl4 | exact .there sl5 | exact .there sl6 | exact .there sl7 | exact .there sl8 | exact .there sl9 | exact .there sl10 | exact .there sl11 | exact .there sl12) ?_ | refine Emb.skip ?_)))
    | none =>
      have hb0 : q.back = [] := List.getLast?_eq_none_iff.1 hb
      have hlt : q.had < n := Decidable.byContradiction fun h5 => hf ⟨hb0, h5⟩
      rw [hb] at hJ
      simp only [if_pos hlt] at hJ
      refine cs.no (decide_eq_false (by rw [← hs, hb0]; simp)) ?_
      (repeat (first | with_reducible refine dr.mk h fun _ h => ?_ | with_reducible refine nn.mk ?_ | ((first | with_reducible apply ldI.mk | with_reducible apply ldB.mk | with_reducible apply ldP.mk | with_reducible apply ldS.mk | with_reducible apply ldM.mk | with_reducible apply ldF.mk | with_reducible apply ldG.mk); (· exact (by refine Ok.cellS h (by with_reducible first | exact sl0 | exact .there sl0 | exact .there sl1 | exact .there sl2 | exact .there sl3 | exact .there sl4 | exact .there sl5 | exact .there sl6 | exact .there sl7 | exact .there sl8 | exact .there sl9 | exact .there sl10 | exact .there sl11 | exact .there sl12) ?_; rfl))) | (refine st1.mk (Ok.bring h (by with_reducible first | exact sl0 | exact .there sl0 | exact .there sl1 | exact .there sl2 | exact .there sl3 | exact .there sl4 | exact .there sl5 | exact .there sl6 | exact .there sl7 | exact .there sl8 | exact .there sl9 | exact .there sl10 | exact .there sl11 | exact .there sl12)) (by simp) fun _ h => ?_; dsimp only [List.set] at h)))
      refine cs.yes (decide_eq_true hlt) ?_
      (repeat (first | with_reducible refine dr.mk h fun _ h => ?_ | with_reducible refine nn.mk ?_ | ((first | with_reducible apply ldI.mk | with_reducible apply ldB.mk | with_reducible apply ldP.mk | with_reducible apply ldS.mk | with_reducible apply ldM.mk | with_reducible apply ldF.mk | with_reducible apply ldG.mk); (· exact (by refine Ok.cellS h (by with_reducible first | exact sl0 | exact .there sl0 | exact .there sl1 | exact .there sl2 | exact .there sl3 | exact .there sl4 | exact .there sl5 | exact .there sl6 | exact .there sl7 | exact .there sl8 | exact .there sl9 | exact .there sl10 | exact .there sl11 | exact .there sl12) ?_; rfl))) | (refine st1.mk (Ok.bring h (by with_reducible first | exact sl0 | exact .there sl0 | exact .there sl1 | exact .there sl2 | exact .there sl3 | exact .there sl4 | exact .there sl5 | exact .there sl6 | exact .there sl7 | exact .there sl8 | exact .there sl9 | exact .there sl10 | exact .there sl11 | exact .there sl12)) (by simp) fun _ h => ?_; dsimp only [List.set] at h)))
      refine call127 (Align_nums h hz fun w5 h => ⟨(stp z, ()), rfl, (by refine Ok.cellS h (by with_reducible first | exact sl0 | exact .there sl0 | exact .there sl1 | exact .there sl2 | exact .there sl3 | exact .there sl4 | exact .there sl5 | exact .there sl6 | exact .there sl7 | exact .there sl8 | exact .there sl9 | exact .there sl10 | exact .there sl11 | exact .there sl12) ?_; rfl), (by refine Ok.cellS h (by with_reducible first | exact sl0 | exact .there sl0 | exact .there sl1 | exact .there sl2 | exact .there sl3 | exact .there sl4 | exact .there sl5 | exact .there sl6 | exact .there sl7 | exact .there sl8 | exact .there sl9 | exact .there sl10 | exact .there sl11 | exact .there sl12) ?_; rfl), ?_⟩)
      dsimp only
      (repeat (first | with_reducible refine dr.mk h fun _ h => ?_ | with_reducible refine nn.mk ?_ | ((first | with_reducible apply ldI.mk | with_reducible apply ldB.mk | with_reducible apply ldP.mk | with_reducible apply ldS.mk | with_reducible apply ldM.mk | with_reducible apply ldF.mk | with_reducible apply ldG.mk); (· exact (by refine Ok.cellS h (by with_reducible first | exact sl0 | exact .there sl0 | exact .there sl1 | exact .there sl2 | exact .there sl3 | exact .there sl4 | exact .there sl5 | exact .there sl6 | exact .there sl7 | exact .there sl8 | exact .there sl9 | exact .there sl10 | exact .there sl11 | exact .there sl12) ?_; rfl))) | (refine st1.mk (Ok.bring h (by with_reducible first | exact sl0 | exact .there sl0 | exact .there sl1 | exact .there sl2 | exact .there sl3 | exact .there sl4 | exact .there sl5 | exact .there sl6 | exact .there sl7 | exact .there sl8 | exact .there sl9 | exact .there sl10 | exact .there sl11 | exact .there sl12)) (by simp) fun _ h => ?_; dsimp only [List.set] at h)))
      rw [w64_in (x := q.had * stp z) (by omega) (by omega), w64_in (x := a + q.had * stp z) (by omega) (by omega)]
      rw [w64_in (x := q.had + 1) (by omega) (by omega)] at h
      exact hJ _ ⟨s, (h.emb (by repeat' (first | with_reducible exact Emb.same _ | exact Emb.nil _ | refine Emb.cons (by with_reducible first | exact sl0 | exact .there sl0 | exact .there sl1 | exact .there sl2 | exact .there sl3 | exact .there sl4 | exact .there sl5 | exact .there sl6 | exact .there sl7 | exact .there sl8 | exact .there sl9 | exact .there sl10 | exact .there sl11 | exact .there sl12) ?_ | refine Emb.skip ?_)))⟩
  obtain ⟨s', h⟩ := h
  dsimp only
  (repeat (first | with_reducible refine dr.mk h fun _ h => ?_ | with_reducible refine nn.mk ?_ | ((first | with_reducible apply ldI.mk | with_reducible apply ldB.mk | with_reducible apply ldP.mk | with_reducible apply ldS.mk | with_reducible apply ldM.mk | with_reducible apply ldF.mk | with_reducible apply ldG.mk); (· exact (by refine Ok.cellS h (by with_reducible first | exact sl0 | exact .there sl0 | exact .there sl1 | exact .there sl2 | exact .there sl3 | exact .there sl4 | exact .there sl5 | exact .there sl6 | exact .there sl7 | exact .there sl8 | exact .there sl9 | exact .there sl10 | exact .there sl11 | exact .there sl12) ?_; rfl))) | (refine st1.mk (Ok.bring h (by with_reducible first | exact sl0 | exact .there sl0 | exact .there sl1 | exact .there sl2 | exact .there sl3 | exact .there sl4 | exact .there sl5 | exact .there sl6 | exact .there sl7 | exact .there sl8 | exact .there sl9 | exact .there sl10 | exact .there sl11 | exact .there sl12)) (by simp) fun _ h => ?_; dsimp only [List.set] at h)))
  refine call220 (Search_int (Ok.emb (h) (.cons (A := slc 1 t _) (by with_reducible first | exact sl0 | exact .there sl0 | exact .there sl1 | exact .there sl2 | exact .there sl3 | exact .there sl4 | exact .there sl5 | exact .there sl6 | exact .there sl7 | exact .there sl8 | exact .there sl9 | exact .there sl10 | exact .there sl11 | exact .there sl12) (.same _))) ho.up (by omega) ⟨((pos q.held (q.poll a n z).1.1 : Int), decide ((q.poll a n z).1.1 ∈ q.held), ()), rfl, ?_⟩)
  dsimp only
  (repeat (first | with_reducible refine dr.mk h fun _ h => ?_ | with_reducible refine nn.mk ?_ | ((first | with_reducible apply ldI.mk | with_reducible apply ldB.mk | with_reducible apply ldP.mk | with_reducible apply ldS.mk | with_reducible apply ldM.mk | with_reducible apply ldF.mk | with_reducible apply ldG.mk); (· exact (by refine Ok.cellS h (by with_reducible first | exact sl0 | exact .there sl0 | exact .there sl1 | exact .there sl2 | exact .there sl3 | exact .there sl4 | exact .there sl5 | exact .there sl6 | exact .there sl7 | exact .there sl8 | exact .there sl9 | exact .there sl10 | exact .there sl11 | exact .there sl12) ?_; rfl))) | (refine st1.mk (Ok.bring h (by with_reducible first | exact sl0 | exact .there sl0 | exact .there sl1 | exact .there sl2 | exact .there sl3 | exact .there sl4 | exact .there sl5 | exact .there sl6 | exact .there sl7 | exact .there sl8 | exact .there sl9 | exact .there sl10 | exact .there sl11 | exact .there sl12)) (by simp) fun _ h => ?_; dsimp only [List.set] at h)))
  refine al.mk h fun c w2 h => ?_
  refine call126 (Insert_one (y := (q.poll a n z).1.1) (Ok.emb (h) (.cons (A := pts c _) (by with_reducible first | exact sl0 | exact .there sl0 | exact .there sl1 | exact .there sl2 | exact .there sl3 | exact .there sl4 | exact .there sl5 | exact .there sl6 | exact .there sl7 | exact .there sl8 | exact .there sl9 | exact .there sl10 | exact .there sl11 | exact .there sl12) (.cons (A := slc 1 t _) (by with_reducible first | exact sl0 | exact .there sl0 | exact .there sl1 | exact .there sl2 | exact .there sl3 | exact .there sl4 | exact .there sl5 | exact .there sl6 | exact .there sl7 | exact .there sl8 | exact .there sl9 | exact .there sl10 | exact .there sl11 | exact .there sl12) (.same _)))) (pos_le _ _) (by omega) fun t' w3 h => ⟨(t', ()), rfl, ?_⟩)
  dsimp only
  (repeat (first | with_reducible refine dr.mk h fun _ h => ?_ | with_reducible refine nn.mk ?_ | ((first | with_reducible apply ldI.mk | with_reducible apply ldB.mk | with_reducible apply ldP.mk | with_reducible apply ldS.mk | with_reducible apply ldM.mk | with_reducible apply ldF.mk | with_reducible apply ldG.mk); (· exact (by refine Ok.cellS h (by with_reducible first | exact sl0 | exact .there sl0 | exact .there sl1 | exact .there sl2 | exact .there sl3 | exact .there sl4 | exact .there sl5 | exact .there sl6 | exact .there sl7 | exact .there sl8 | exact .there sl9 | exact .there sl10 | exact .there sl11 | exact .there sl12) ?_; rfl))) | (refine st1.mk (Ok.bring h (by with_reducible first | exact sl0 | exact .there sl0 | exact .there sl1 | exact .there sl2 | exact .there sl3 | exact .there sl4 | exact .there sl5 | exact .there sl6 | exact .there sl7 | exact .there sl8 | exact .there sl9 | exact .there sl10 | exact .there sl11 | exact .there sl12)) (by simp) fun _ h => ?_; dsimp only [List.set] at h)))
  have hk : (q.poll a n z).1.2 = true ∧ (q.poll a n z).2.S = q.S ∧ (q.poll a n z).2.held = insU q.held (q.poll a n z).1.1 := by
    unfold MP.poll
    cases hb : q.back.getLast? with
    | some x => exact ⟨rfl, rfl, rfl⟩
    | none =>
      have hb0 : q.back = [] := List.getLast?_eq_none_iff.1 hb
      have hlt : q.had < n := Decidable.byContradiction fun h5 => hf ⟨hb0, h5⟩
      simp only [if_pos hlt, and_self]
  rw [hk.1] at k
  refine k _ (mpfI (p := p) (s := s') (t := t') ?_)
  rw [hk.2.1, hk.2.2]
  unfold insU
  exact (h.emb (by repeat' (first | with_reducible exact Emb.same _ | exact Emb.nil _ | refine Emb.cons (by with_reducible first | exact sl0 | exact .there sl0 | exact .there sl1 | exact .there sl2 | exact .there sl3 | exact .there sl4 | exact .there sl5 | exact .there sl6 | exact .there sl7 | exact .there sl8 | exact .there sl9 | exact .there sl10 | exact .there sl11 | exact .there sl12) ?_ | refine Emb.skip ?_)))

set_option maxHeartbeats 1000000 in
theorem Put_mpf {e w L b byPri a n z q x R} (h : Ok e (mpfP b byPri a n z q :: L) w) (ho : MPo a n z q)
    (k : ∀ w', Ok e (mpfP b byPri a n z (q.put x).2 :: L) w' → R [.int .i64 (q.put x).1.1, .int .i64 (q.put x).1.2] w') : sh156 (some ⟨b, 0, none⟩) x R w := by
  unfold sh156
  unfold MP.put at k
  have hlen := ho.len
  have hhad := ho.had
  have hc := ho.c
  have hup := ho.up
  have l1 := okL_len ho.line
  obtain ⟨p, s, t, hs, ht, h⟩ := mpfE h
  refine nn.mk (ldS.mk (by refine Ok.cellS h (by with_reducible first | exact sl0 | exact .there sl0 | exact .there sl1 | exact .there sl2 | exact .there sl3 | exact .there sl4 | exact .there sl5 | exact .there sl6 | exact .there sl7 | exact .there sl8 | exact .there sl9 | exact .there sl10 | exact .there sl11 | exact .there sl12) ?_; rfl) ?_)
  refine call220 (Search_int (Ok.emb (h) (.cons (A := slc 1 t _) (by with_reducible first | exact sl0 | exact .there sl0 | exact .there sl1 | exact .there sl2 | exact .there sl3 | exact .there sl4 | exact .there sl5 | exact .there sl6 | exact .there sl7 | exact .there sl8 | exact .there sl9 | exact .there sl10 | exact .there sl11 | exact .there sl12) (.same _))) hup (by omega) ⟨((pos q.held x : Int), decide (x ∈ q.held), ()), rfl, ?_⟩)
  dsimp only
  refine cs.mk (fun hm => ?_) (fun hm => ?_)
  · have hm : x ∉ q.held := by simpa using hm
    rw [if_neg hm] at k
    exact k w (mpfI (q := q) (p := p) (s := s) (t := t) (h.emb (by repeat' (first | with_reducible exact Emb.same _ | exact Emb.nil _ | refine Emb.cons (by with_reducible first | exact sl0 | exact .there sl0 | exact .there sl1 | exact .there sl2 | exact .there sl3 | exact .there sl4 | exact .there sl5 | exact .there sl6 | exact .there sl7 | exact .there sl8 | exact .there sl9 | exact .there sl10 | exact .there sl11 | exact .there sl12) ?_ | refine Emb.skip ?_))))
  have hm : x ∈ q.held := by simpa using hm
  rw [if_pos hm] at k
  have hpl := pos_lt hup hm
  refine nn.mk (ldP.mk (by refine Ok.cellS h (by with_reducible first | exact sl0 | exact .there sl0 | exact .there sl1 | exact .there sl2 | exact .there sl3 | exact .there sl4 | exact .there sl5 | exact .there sl6 | exact .there sl7 | exact .there sl8 | exact .there sl9 | exact .there sl10 | exact .there sl11 | exact .there sl12) ?_; rfl) ?_)
  refine call214 (Take_order (Ok.emb (h) (.cons (A := lineP p _ _) (by with_reducible first | exact sl0 | exact .there sl0 | exact .there sl1 | exact .there sl2 | exact .there sl3 | exact .there sl4 | exact .there sl5 | exact .there sl6 | exact .there sl7 | exact .there sl8 | exact .there sl9 | exact .there sl10 | exact .there sl11 | exact .there sl12) (.same _))) (by omega) fun w1 h => ⟨(((q.S.head?.getD (0, 0)).1, (q.S.head?.getD (0, 0)).2, ()), !q.S.isEmpty, ()), rfl, ?_⟩)
  refine al.mk h fun c w2 h => st1.mk h (by simp) fun w3 h => st1.mk h (by simp) fun w4 h => ?_
  dsimp only
  obtain ⟨S, had, back, held⟩ := q
  dsimp only at *
  cases S with
  | cons y S =>
    refine cs.yes rfl (ldI.mk (h.cell rfl) (k w4 ?_))
    exact mpfI (q := ⟨S, had, back, held⟩) (p := p) (s := s) (t := t) (h.emb (by repeat' (first | with_reducible exact Emb.same _ | exact Emb.nil _ | refine Emb.cons (by with_reducible first | exact sl0 | exact .there sl0 | exact .there sl1 | exact .there sl2 | exact .there sl3 | exact .there sl4 | exact .there sl5 | exact .there sl6 | exact .there sl7 | exact .there sl8 | exact .there sl9 | exact .there sl10 | exact .there sl11 | exact .there sl12) ?_ | refine Emb.skip ?_)))
  | nil =>
    refine cs.no rfl ?_
    refine nn.mk (ldS.mk (by refine Ok.cellS h (by with_reducible first | exact sl0 | exact .there sl0 | exact .there sl1 | exact .there sl2 | exact .there sl3 | exact .there sl4 | exact .there sl5 | exact .there sl6 | exact .there sl7 | exact .there sl8 | exact .there sl9 | exact .there sl10 | exact .there sl11 | exact .there sl12) ?_; rfl) ?_)
    rw [w64_in (x := (pos held x : Int) + 1) (by omega) (by omega)]
    refine call219 (Delete_int (Ok.emb (h) (.cons (A := slc 1 t _) (by with_reducible first | exact sl0 | exact .there sl0 | exact .there sl1 | exact .there sl2 | exact .there sl3 | exact .there sl4 | exact .there sl5 | exact .there sl6 | exact .there sl7 | exact .there sl8 | exact .there sl9 | exact .there sl10 | exact .there sl11 | exact .there sl12) (.same _))) hpl (by omega) fun t' w5 h => ⟨(t', ()), rfl, ?_⟩)
    dsimp only
    refine nn.mk (st1.mk (Ok.emb (h) (.cons (A := pts b _) (by with_reducible first | exact sl0 | exact .there sl0 | exact .there sl1 | exact .there sl2 | exact .there sl3 | exact .there sl4 | exact .there sl5 | exact .there sl6 | exact .there sl7 | exact .there sl8 | exact .there sl9 | exact .there sl10 | exact .there sl11 | exact .there sl12) (.same _))) (by simp) fun w6 h => ?_)
    dsimp only [List.set, List.tail_cons, List.tail_nil, List.head?_cons, List.head?_nil, Option.getD_some, Option.getD_none] at h
    refine nn.mk (ldS.mk (by refine Ok.cellS h (by with_reducible first | exact sl0 | exact .there sl0 | exact .there sl1 | exact .there sl2 | exact .there sl3 | exact .there sl4 | exact .there sl5 | exact .there sl6 | exact .there sl7 | exact .there sl8 | exact .there sl9 | exact .there sl10 | exact .there sl11 | exact .there sl12) ?_; rfl) ?_)
    refine al.mk h fun c2 w6 h => ?_
    refine ef.append1 (n := 1) slT_int (by decide) (Ok.emb (h) (.cons (A := pts c2 _) (by with_reducible first | exact sl0 | exact .there sl0 | exact .there sl1 | exact .there sl2 | exact .there sl3 | exact .there sl4 | exact .there sl5 | exact .there sl6 | exact .there sl7 | exact .there sl8 | exact .there sl9 | exact .there sl10 | exact .there sl11 | exact .there sl12) (.cons (A := slc 1 s _) (by with_reducible first | exact sl0 | exact .there sl0 | exact .there sl1 | exact .there sl2 | exact .there sl3 | exact .there sl4 | exact .there sl5 | exact .there sl6 | exact .there sl7 | exact .there sl8 | exact .there sl9 | exact .there sl10 | exact .there sl11 | exact .there sl12) (.same _)))) rfl (by intro v hv; simp at hv; subst hv; rfl) (by omega) fun s2 w7 hl2 h => ?_
    refine nn.mk (st1.mk (Ok.emb (h) (.cons (A := pts b _) (by with_reducible first | exact sl0 | exact .there sl0 | exact .there sl1 | exact .there sl2 | exact .there sl3 | exact .there sl4 | exact .there sl5 | exact .there sl6 | exact .there sl7 | exact .there sl8 | exact .there sl9 | exact .there sl10 | exact .there sl11 | exact .there sl12) (.same _))) (by simp) fun w8 h => k w8 ?_)
    rw [mp_ints_snoc] at h
    dsimp only [List.set, List.tail_cons, List.tail_nil, List.head?_cons, List.head?_nil, Option.getD_some, Option.getD_none] at h
    refine mpfI (q := ⟨[], had, back ++ [x], delU held x⟩) (s := s2) (p := p) (t := t') ?_
    unfold delU
    exact (h.emb (by repeat' (first | with_reducible exact Emb.same _ | exact Emb.nil _ | refine Emb.cons (by with_reducible first | exact sl0 | exact .there sl0 | exact .there sl1 | exact .there sl2 | exact .there sl3 | exact .there sl4 | exact .there sl5 | exact .there sl6 | exact .there sl7 | exact .there sl8 | exact .there sl9 | exact .there sl10 | exact .there sl11 | exact .there sl12) ?_ | refine Emb.skip ?_)))

end Go.Proofs.YtenonfkfoedfmaaGreatDoor.B


/- The kernel as plain Lean: what its calls compute, wherever they do not fail. -/
namespace Go.Proofs.YtenonfkfoedfmaaGreatDoor.B
open Go
set_option linter.unusedVariables false

def getO {α : Type} (l : List α) (i : Int) : Option α := if 0 ≤ i then l[i.toNat]? else none

/-! ### entries of the clock -/
structure Ent where
  at' : Int
  hd : Int
  arg : Int
  deriving DecidableEq

def Ent.lt (a b : Ent) : Bool := decide (a.at' < b.at') || (a.at' == b.at' && decide (a.hd < b.hd))

def insE (x : Ent) : List Ent → List Ent
  | [] => [x]
  | y :: r => if x.lt y then x :: y :: r else y :: insE x r

def delE (h : Int) (l : List Ent) : List Ent := l.filter fun x => !(x.hd == h)

def dueE (now : Int) (l : List Ent) : List Ent := l.takeWhile fun x => decide (x.at' ≤ now)

def restE (now : Int) (l : List Ent) : List Ent := l.dropWhile fun x => decide (x.at' ≤ now)

/-! ### mutexes -/
structure Mx where
  attr : Int
  ceil : Int
  owner : Int
  wait : List Int
  deriving DecidableEq

structure Mt where
  base : Int
  pri : Int
  waits : Int
  deriving DecidableEq

structure MM where
  m : List Mx
  t : List Mt
  deriving DecidableEq

namespace MM

def base (M : MM) (n : Int) : Option Int := if 1 ≤ n ∧ n ≤ 16 then (getO M.t n).map Mt.base else some 0

def pri (M : MM) (n : Int) : Option Int := if 1 ≤ n ∧ n ≤ 16 then (getO M.t n).map Mt.pri else some 0

def rkL (rk : Int → Option Int) : List Int → Int → Option Int
  | [], p => some p
  | w :: r, p => (rk w).bind fun q => rkL rk r (if q < p then q else p)

def rkM (rk : Int → Option Int) (n deep : Int) : List Mx → Int → Option Int
  | [], p => some p
  | x :: r, p =>
    if x.owner ≠ n ∨ deep > 16 then rkM rk n deep r p
    else if x.attr = 3 then rkM rk n deep r (if x.ceil < p then x.ceil else p)
    else if x.attr = 2 then if x.wait.length ≤ 64 then (rkL rk x.wait p).bind fun p => rkM rk n deep r p else none
    else rkM rk n deep r p

def reckon (M : MM) : Nat → Int → Int → Option Int
  | 0, _, _ => none
  | f + 1, n, deep => (getO M.t n).bind fun t => rkM (fun w => reckon M f w (deep + 1)) n deep (M.m.drop 1) t.base

/-- where a task of a priority comes to stand in a row -/
def standK (M : MM) (attr pn : Int) (l : List Int) : Nat → Option Nat
  | 0 => some 0
  | i + 1 =>
    if attr = 0 then some (i + 1)
    else (l[i]?).bind fun w => (getO M.t w).bind fun tw => if tw.pri > pn then standK M attr pn l i else some (i + 1)

def setW (M : MM) (m : Int) (l : List Int) : Option MM :=
  (getO M.m m).bind fun x => if l.length ≤ 64 then some { M with m := M.m.set m.toNat { x with wait := l } } else none

def setO (M : MM) (m o : Int) : Option MM := (getO M.m m).map fun x => { M with m := M.m.set m.toNat { x with owner := o } }

def setPri (M : MM) (n p : Int) : Option MM := (getO M.t n).map fun x => { M with t := M.t.set n.toNat { x with pri := p } }

def setWaits (M : MM) (n m : Int) : Option MM := (getO M.t n).map fun x => { M with t := M.t.set n.toNat { x with waits := m } }

def setB (M : MM) (n b : Int) : Option MM := (getO M.t n).map fun x => { M with t := M.t.set n.toNat { x with base := b } }

def stand (M : MM) (m n : Int) : Option MM :=
  (getO M.m m).bind fun x => (getO M.t n).bind fun tn => (standK M x.attr tn.pri x.wait x.wait.length).bind fun i =>
    setW M m (x.wait.take i ++ [n] ++ x.wait.drop i)

/-- the priorities of tasks n, n + 1, .. -/
def prs (M : MM) (n : Nat) : Nat → Option (List Int)
  | 0 => some []
  | k + 1 => (reckon M 18 n 0).bind fun p => (prs M (n + 1) k).map fun r => p :: r

/-- those that wait stand as they stood: nobody's priority is another one -/
def anew1 (ps : List Int) : List Int → MM → Option Unit
  | [], M => some ()
  | n :: r, M => (getO ps n).bind fun p => (getO M.t n).bind fun x => if p = x.pri then anew1 ps r M else none

def anew (ps : List Int) (m : Nat) : Nat → MM → Option Unit
  | 0, M => some ()
  | k + 1, M => (getO M.m m).bind fun x => if x.wait.length ≤ 64 then (anew1 ps x.wait M).bind fun _ => anew ps (m + 1) k M else none

def setPris (ps : List Int) (n : Nat) : Nat → MM → Option MM
  | 0, M => some M
  | k + 1, M => (getO ps n).bind fun p => (setPri M n p).bind fun M => setPris ps (n + 1) k M

def settle (M : MM) : Option MM :=
  (prs M 1 16).bind fun r => (anew (0 :: r) 1 (M.m.length - 1) M).bind fun _ => setPris (0 :: r) 1 16 M

/-- does something speak against a base priority? -/
def against (M : MM) (n p : Int) (tw : Int) : List Mx → Nat → Bool
  | [], _ => false
  | x :: r, m => if x.attr = 3 ∧ x.ceil > p ∧ (x.owner = n ∨ tw = (m : Int)) then true else against M n p tw r (m + 1)

def setBase (M : MM) (n p : Int) : Option (Int × MM) :=
  if ¬ (1 ≤ n ∧ n ≤ 16) then some (-18, M)
  else if ¬ (1 ≤ p ∧ p ≤ 16) then some (-17, M)
  else (getO M.t n).bind fun t => if against M n p t.waits (M.m.drop 1) 1 then some (-28, M)
    else (setB M n p).bind fun M => (settle M).map fun M => (0, M)

def over (M : MM) (holder : Int) : Nat → Int → Option Bool
  | 0, _ => some false
  | f + 1, n => (getO M.t n).bind fun t => if t.waits = 0 then some false else (getO M.m t.waits).bind fun x =>
    if x.owner = holder then some true else if x.owner = 0 then some false else over M holder f x.owner

def isIn (M : MM) (m : Int) : Bool := decide (1 ≤ m ∧ m < M.m.length)

def tryLock (M : MM) (m n : Int) : Option ((Bool × Int) × MM) :=
  if ¬ (isIn M m = true ∧ 1 ≤ n ∧ n ≤ 16) then some ((false, -18), M)
  else (getO M.m m).bind fun x => (getO M.t n).bind fun t =>
    if x.owner = n ∨ (x.attr = 3 ∧ t.base < x.ceil) then some ((false, -28), M)
    else if t.waits > 0 then some ((false, -41), M)
    else if x.owner = 0 then (setO M m n).bind fun M => (settle M).map fun M => ((true, 0), M)
    else some ((false, 0), M)

def lock (M : MM) (m n : Int) : Option ((Bool × Int) × MM) :=
  (tryLock M m n).bind fun r =>
    if r.1.1 = true ∨ r.1.2 ≠ 0 then some r
    else (getO M.m m).bind fun x => (over M n 17 x.owner).bind fun o =>
      if o then some ((false, -28), M)
      else (stand M m n).bind fun M => (setWaits M n m).bind fun M => (settle M).map fun M => ((false, 0), M)

/-- the next one has it -/
def pass (M : MM) (m : Int) : Option MM :=
  (getO M.m m).bind fun x => match x.wait with
    | [] => setO M m 0
    | w :: r => (setO M m w).bind fun M => (setW M m r).bind fun M => setWaits M w 0

def unlock (M : MM) (m n : Int) : Option ((Int × Int) × MM) :=
  if ¬ (isIn M m = true ∧ 1 ≤ n ∧ n ≤ 16) then some ((0, -18), M)
  else (getO M.m m).bind fun x =>
    if x.owner ≠ n then some ((0, -28), M)
    else (pass M m).bind fun M => (settle M).bind fun M => (getO M.m m).map fun x => ((x.owner, 0), M)

def heldFrom (n : Int) : List Mx → Nat → List Int
  | [], _ => []
  | x :: r, m => if x.owner = n then (m : Int) :: heldFrom n r (m + 1) else heldFrom n r (m + 1)

def held (M : MM) (n : Int) : List Int := if 1 ≤ n ∧ n ≤ 16 then heldFrom n (M.m.drop 1) 1 else []

def freeL (n : Int) : List Int → MM → List Int → Option (List Int × MM)
  | [], M, out => some (out, M)
  | m :: r, M, out => (unlock M m n).bind fun x => freeL n r x.2 (if x.1.2 = 0 ∧ x.1.1 > 0 then out ++ [x.1.1] else out)

def free (M : MM) (n : Int) : Option (List Int × MM) := freeL n (held M n) M []

def owner (M : MM) (m : Int) : Int := if isIn M m then ((getO M.m m).map Mx.owner).getD 0 else 0

def waiting (M : MM) (m : Int) : List Int := if isIn M m then ((getO M.m m).map Mx.wait).getD [] else []

def mt0 : Mt := ⟨16, 16, 0⟩

def right (k : Int × Int) : Bool := decide (((k.1 = 0 ∨ k.1 = 1 ∨ k.1 = 2) ∧ k.2 = 0) ∨ (k.1 = 3 ∧ 1 ≤ k.2 ∧ k.2 ≤ 16))

def new (l : List (Int × Int)) : MM := ⟨⟨0, 0, 0, []⟩ :: l.map (fun k => ⟨k.1, k.2, 0, []⟩), List.replicate 17 mt0⟩

end MM

/-! ### the kernel -/
structure Un where
  acts : Int
  wups : Int
  susps : Int
  state : Int
  asleep : Bool
  base : Int
  pri : Int
  kind : Int
  obj : Int
  handle : Int
  lc : Int
  lv : Int
  deriving DecidableEq

structure SemM where
  byPri : Bool
  c : Int
  m : Int
  l : List (Int × Int)
  deriving DecidableEq

structure DatM where
  byPri : Bool
  room : Int
  q : DQ

structure PoolM where
  byPri : Bool
  a : Int
  n : Int
  z : Int
  q : MP

structure KM where
  pl : PlaceM
  tic : Int
  up : Int
  tb : Int
  last : Int
  ents : List Ent
  rdy : List (Int × Int)
  mm : MM
  us : List Un
  sems : List SemM
  datas : List DatM
  pools : List PoolM
  who : Int

namespace KM

def choose (K : KM) : KM := if K.pl.dispatch then { K with who := (K.rdy.head?.getD (0, 0)).1 } else K

def un (K : KM) (n : Int) : Option Un := getO K.us (n - 1)

def setU (K : KM) (n : Int) (u : Un) : KM := { K with us := K.us.set (n - 1).toNat u }

def enter (K : KM) (n : Int) : Option KM :=
  (K.un n).bind fun u => if u.state = 2 then (K.mm.pri n).map fun p => { K.setU n { u with pri := p } with rdy := (addL true K.rdy n p).2 } else some K

def act (K : KM) (n : Int) : Option (Int × KM) :=
  (K.un n).bind fun u =>
    if ¬ (0 ≤ u.acts ∧ u.acts ≤ 7) then none
    else if u.state = 16 then ((K.setU n { u with state := 2, lc := 0, lv := 0 }).enter n).map fun K => (0, K)
    else if u.acts ≥ 7 then some (-43, K)
    else some (0, K.setU n { u with acts := u.acts + 1 })

def settle1 (K : KM) (n : Int) : Option KM :=
  (K.un n).bind fun u => (K.mm.pri n).bind fun p =>
    if p = u.pri then some K
    else if (chgL true K.rdy n p).1 = true then some { K.setU n { u with pri := p } with rdy := (chgL true K.rdy n p).2 }
    else if u.kind = 0 ∨ u.kind = 1 ∨ u.kind = 2 ∨ u.kind = 7 then some { K.setU n { u with pri := p } with rdy := (chgL true K.rdy n p).2 }
    else none

def settleFrom (n : Nat) : Nat → KM → Option KM
  | 0, K => some K
  | k + 1, K => (K.settle1 n).bind fun K => settleFrom (n + 1) k K

def settle (K : KM) : Option KM := settleFrom 1 K.us.length K

def leave (K : KM) (n : Int) : Option KM :=
  (K.un n).bind fun u =>
    if u.kind = 3 then (getO K.sems (u.obj - 1)).map fun s => { K with sems := K.sems.set (u.obj - 1).toNat { s with l := rmL s.l n } }
    else if u.kind = 0 ∨ u.kind = 1 ∨ u.kind = 2 then some K
    else none

def forget (K : KM) (n : Int) : Option KM :=
  (K.un n).map fun u => { K.setU n { u with kind := 0, obj := 0, handle := 0 } with ents := delE u.handle K.ents }

def told (K : KM) (n c v : Int) : Option KM :=
  (K.forget n).bind fun K => (K.un n).bind fun u => (K.setU n { u with lc := c, lv := v }).enter n

def _root_.Go.Proofs.YtenonfkfoedfmaaGreatDoor.B.Un.release (u : Un) : Un :=
  if u.state = 4 then { u with state := 2, asleep := false } else if u.state = 12 then { u with state := 8, asleep := false } else u

def wake (K : KM) (n c v : Int) : Option KM := (K.un n).bind fun u => (K.setU n u.release).told n c v

def woken (v : Int) : List Int → KM → Option KM
  | [], K => some K
  | n :: r, K => if n > 0 then (K.wake n 0 v).bind fun K => woken v r K else woken v r K

/-- a time-out is laid -/
def wait (K : KM) (d arg : Int) : Option (Int × KM) :=
  if 0 ≤ d ∧ d ≤ 2147483647 ∧ 0 ≤ arg ∧ arg ≤ 1000 ∧ K.ents.length < 256 ∧ 0 ≤ K.up ∧ K.up ≤ 2 ^ 40 ∧ 0 ≤ K.last ∧ K.last ≤ 2 ^ 40
  then some (K.last + 1, { K with last := K.last + 1, ents := insE ⟨K.up + d + K.tic, K.last + 1, arg⟩ K.ents }) else none

def stay (K : KM) (kind obj tmo : Int) : Option KM :=
  (K.un K.who).bind fun u =>
    let u1 : Un := if kind ≠ 1 ∧ u.state = 2 then { u with state := 4, asleep := false } else u
    let K1 : KM := { K with rdy := rmL K.rdy K.who }
    if tmo ≥ 0 then (K1.wait tmo K.who).bind fun r => (r.2.setU K.who { u1 with kind := kind, obj := obj, handle := r.1 }).settle
    else (K1.setU K.who { u1 with kind := kind, obj := obj }).settle

def _root_.Go.Proofs.YtenonfkfoedfmaaGreatDoor.B.Un.kill (u : Un) : Bool × Un :=
  if u.state = 16 then (false, u)
  else if u.acts = 0 then (false, { u with state := 16, asleep := false, wups := 0, susps := 0 })
  else (true, { u with state := 2, asleep := false, wups := 0, susps := 0, acts := u.acts - 1 })

def over (K : KM) (n : Int) : Option KM :=
  (K.leave n).bind fun K => (K.forget n).bind fun K => (K.un n).bind fun u => if ¬ (0 ≤ u.acts ∧ u.acts ≤ 7) then none else
    (K.mm.free n).bind fun f => (f.2.setBase n u.base).bind fun b =>
      let K1 : KM := { K.setU n u.kill.2 with rdy := rmL K.rdy n, mm := b.2 }
      (woken 0 f.1 K1).bind fun K => (if u.kill.1 = true then (K.un n).bind fun u => (K.setU n { u with lc := 0, lv := 0 }).enter n else some K).bind fun K => K.settle

def tickL : List Int → KM → Option KM
  | [], K => some K
  | n :: r, K => (K.un n).bind fun u => (K.leave n).bind fun K => (K.wake n (if u.kind = 2 then 0 else -50) 0).bind fun K => (K.settle).bind fun K => tickL r K

def tick (K : KM) : Option KM :=
  if 0 ≤ K.up ∧ K.up ≤ 2 ^ 40 then
    (tickL ((dueE (K.up + K.tic) K.ents).map Ent.arg) { K with up := K.up + K.tic, ents := restE (K.up + K.tic) K.ents }).map choose
  else none

def intr (K : KM) (level : Int) : Int × KM := ((K.pl.enter level).1, ({ K with pl := (K.pl.enter level).2 } : KM).choose)

def retn (K : KM) : Int × KM := (K.pl.exit.1, ({ K with pl := K.pl.exit.2 } : KM).choose)

/-! ### what is told -/
structure Fact where
  state : Int
  pri : Int
  base : Int
  kind : Int
  obj : Int
  lc : Int
  lv : Int
  acts : Int
  wups : Int
  susps : Int

def task (K : KM) (n : Int) : Option Fact :=
  (K.un n).bind fun u => (K.mm.pri n).bind fun p => (K.mm.base n).map fun b =>
    ⟨if n = K.who then 1 else u.state, p, b, u.kind, u.obj, u.lc, u.lv, u.acts, u.wups, u.susps⟩

def state (K : KM) (n : Int) : Option Int := (K.task n).map Fact.state

/-! ### calls -/
def may (K : KM) (kind : Int) : Int := K.pl.may kind (decide (K.who = 0))

/-- a call of a kind: its code, its value -/
def call (K : KM) (kind : Int) (f : KM → Option ((Int × Int) × KM)) : Option ((Int × Int) × KM) :=
  if K.may kind ≠ 0 then some ((K.may kind, 0), K) else (f K).map fun r => (r.1, r.2.choose)

end KM

end Go.Proofs.YtenonfkfoedfmaaGreatDoor.B


/- The kernel as plain Lean: how it is made, and its calls. -/
namespace Go.Proofs.YtenonfkfoedfmaaGreatDoor.B
open Go
set_option linter.unusedVariables false

structure ConfM where
  tic : Int
  tasks : List (Int × Bool)
  sems : List (Bool × Int × Int)
  datas : List (Bool × Int)
  mtxs : List (Int × Int)
  pools : List (Bool × Int × Int)

def layoutM : Int → List (Bool × Int × Int) → List Int
  | _, [] => []
  | a, p :: r => stp a :: layoutM (stp a + p.2.1 * stp p.2.2) r

def bytesM : Int → List (Bool × Int × Int) → Int
  | a, [] => a
  | a, p :: r => bytesM (stp a + p.2.1 * stp p.2.2) r

/-- may there be such pools, from a place on? -/
def poolsOk : Int → List (Bool × Int × Int) → Bool
  | _, [] => true
  | a, p :: r => decide (mpGood (stp a) p.2.1 p.2.2) && poolsOk (stp a + p.2.1 * stp p.2.2) r

namespace ConfM

def ok (c : ConfM) : Bool :=
  decide (1 ≤ c.tic ∧ c.tic ≤ 1000 ∧ 1 ≤ c.tasks.length ∧ c.tasks.length ≤ 16 ∧ c.sems.length ≤ 8 ∧ c.datas.length ≤ 8 ∧ c.mtxs.length ≤ 8 ∧ c.pools.length ≤ 8)
  && c.tasks.all (fun x => decide (1 ≤ x.1 ∧ x.1 ≤ 16)) && c.sems.all (fun x => decide (1 ≤ x.2.2 ∧ x.2.2 ≤ 65535 ∧ 0 ≤ x.2.1 ∧ x.2.1 ≤ x.2.2))
  && c.datas.all (fun x => decide (0 ≤ x.2 ∧ x.2 ≤ 64)) && c.mtxs.all MM.right && poolsOk 0 c.pools

end ConfM

namespace KM

def unNew (pri : Int) : Un := ⟨0, 0, 0, 16, false, pri, pri, 0, 0, 0, 0, 0⟩

def new0 (c : ConfM) : KM :=
  ⟨⟨[], false, false⟩, c.tic, 0, 0, 0, [], [], MM.new c.mtxs, [], c.sems.map (fun s => ⟨s.1, s.2.1, s.2.2, []⟩), c.datas.map (fun d => ⟨d.1, d.2, dqNew⟩),
    List.zipWith (fun a p => ⟨p.1, a, p.2.1, p.2.2, mp0⟩) (layoutM 0 c.pools) c.pools, 0⟩

def newT (i : Nat) : List (Int × Bool) → KM → Option KM
  | [], K => some K
  | x :: r, K => (K.mm.setBase ((i : Int) + 1) x.1).bind fun b => newT (i + 1) r { K with mm := b.2, us := K.us ++ [unNew x.1] }

def newA (i : Nat) : List (Int × Bool) → KM → Option KM
  | [], K => some K
  | x :: r, K => if x.2 = true then (K.act ((i : Int) + 1)).bind fun a => newA (i + 1) r a.2 else newA (i + 1) r K

def new (c : ConfM) : Option KM := ((newT 0 c.tasks (new0 c)).bind (newA 0 c.tasks)).map choose

abbrev Ans := Option ((Int × Int) × KM)

/-- the task that a call names -/
def named (K : KM) (n : Int) (poly : Bool) : Int := if 1 ≤ n ∧ n ≤ K.us.length then n else if n = 0 ∧ poly = true then K.who else 0

def byTask (K : KM) (n : Int) (poly : Bool) (f : Int → Ans) : Ans := if K.named n poly = 0 then some ((-18, 0), K) else f (K.named n poly)

def cAct (n : Int) (K : KM) : Ans := K.byTask n true fun n => (K.act n).map fun r => ((r.1, 0), r.2)

def cIact (n : Int) (K : KM) : Ans := K.byTask n false fun n => (K.act n).map fun r => ((r.1, 0), r.2)

def cExt (K : KM) : Ans := if K.who = 0 then some ((-18, 0), K) else (({ K with pl := { K.pl with locked := false, disabled := false } } : KM).over K.who).map fun K => ((0, 0), K)

def cTer (n : Int) (K : KM) : Ans := K.byTask n false fun n => (K.un n).bind fun u =>
  if n = K.who then some ((-28, 0), K) else if u.state = 16 then some ((-41, 0), K) else (K.over n).map fun K => ((0, 0), K)

def cChg (n pri : Int) (K : KM) : Ans := K.byTask n true fun n => (K.un n).bind fun u =>
  if pri < 0 ∨ pri > 16 then some ((-17, 0), K)
  else if u.state = 16 then some ((-41, 0), K)
  else (K.mm.setBase n (if pri = 0 then u.base else pri)).bind fun b =>
    if b.1 ≠ 0 then some ((b.1, 0), { K with mm := b.2 })
    else (({ K with mm := b.2 } : KM).settle).bind fun K => (K.mm.pri n).map fun p => ((0, 0), { K with rdy := (chgL true K.rdy n p).2 })

def cPri (n : Int) (K : KM) : Ans := K.byTask n true fun n => (K.un n).bind fun u => if u.state = 16 then some ((-41, 0), K) else (K.mm.pri n).map fun p => ((0, p), K)

def cTid (K : KM) : Ans := if K.who = 0 then some ((-18, 0), K) else some ((0, K.who), K)

def cItid (K : KM) : Ans := some ((0, K.who), K)

def cSlp (K : KM) : Ans := if K.who = 0 then some ((-18, 0), K) else (K.un K.who).bind fun u =>
  if ¬ (0 ≤ u.wups ∧ u.wups ≤ 7) then none
  else if u.state ≠ 2 then some ((-41, 0), K)
  else if u.wups > 0 then some ((0, 0), K.setU K.who { u with wups := u.wups - 1 })
  else ((K.setU K.who { u with state := 4, asleep := true }).stay 1 0 (-1)).map fun K => ((1, 0), K)

def wup (K : KM) (n : Int) : Ans := (K.un n).bind fun u =>
  if ¬ (0 ≤ u.wups ∧ u.wups ≤ 7) then none
  else if u.state = 16 then some ((-41, 0), K)
  else if u.asleep = true then ((K.setU n u.release).told n 0 0).map fun K => ((0, 0), K)
  else if u.wups ≥ 7 then some ((-43, 0), K)
  else some ((0, 0), K.setU n { u with wups := u.wups + 1 })

def cIwup (n : Int) (K : KM) : Ans := K.byTask n false fun n => K.wup n

def cSus (n : Int) (K : KM) : Ans := K.byTask n true fun n => (K.un n).bind fun u =>
  if ¬ (0 ≤ u.susps ∧ u.susps ≤ 7) then none
  else if n = K.who ∧ K.pl.disabled = true then some ((-25, 0), K)
  else if u.state = 16 then some ((-41, 0), K)
  else if u.susps ≥ 7 then some ((-43, 0), K)
  else some ((0, 0), { K.setU n { u with susps := u.susps + 1, state := if u.state = 2 then 8 else if u.state = 4 then 12 else u.state } with rdy := rmL K.rdy n })

def cDly (d : Int) (K : KM) : Ans := if K.who = 0 then some ((-18, 0), K) else if d < 0 ∨ d > 2147483647 then some ((-17, 0), K) else (K.stay 2 0 d).map fun K => ((1, 0), K)

def cSem (o tmo : Int) (K : KM) : Ans :=
  if ¬ (1 ≤ o ∧ o ≤ K.sems.length) then some ((-18, 0), K)
  else if ¬ (-1 ≤ tmo ∧ tmo ≤ 2147483647) then some ((-17, 0), K)
  else (getO K.sems (o - 1)).bind fun s =>
    if s.c > 0 then some ((0, 0), { K with sems := K.sems.set (o - 1).toNat { s with c := s.c - 1 } })
    else if tmo = 0 then some ((-50, 0), K)
    else (K.mm.pri K.who).bind fun p => (({ K with sems := K.sems.set (o - 1).toNat { s with l := (addL s.byPri s.l K.who p).2 } } : KM).stay 3 o tmo).map fun K => ((1, 0), K)

def cLoc (o : Int) (K : KM) : Ans :=
  if ¬ (1 ≤ o ∧ o < K.mm.m.length) then some ((-18, 0), K)
  else (K.mm.lock o K.who).bind fun r =>
    if r.1.1 = true ∨ r.1.2 ≠ 0 then (({ K with mm := r.2 } : KM).settle).map fun K => ((r.1.2, 0), K)
    else (({ K with mm := r.2 } : KM).stay 7 o (-1)).map fun K => ((1, 0), K)

def cUnl (o : Int) (K : KM) : Ans :=
  if ¬ (1 ≤ o ∧ o < K.mm.m.length) then some ((-18, 0), K)
  else (K.mm.unlock o K.who).bind fun r => (woken 0 [r.1.1] { K with mm := r.2 }).bind fun K => K.settle.map fun K => ((r.1.2, 0), K)

end KM

end Go.Proofs.YtenonfkfoedfmaaGreatDoor.B


/- The kernel as plain Lean: mutexes for which nobody waits. -/
namespace Go.Proofs.YtenonfkfoedfmaaGreatDoor.B
open Go
set_option linter.unusedVariables false

theorem getO_nat {α : Type} (l : List α) (n : Nat) : getO l (n : Int) = l[n]? := by simp [getO]

theorem getO_some {α : Type} {l : List α} {i : Int} {a : α} (h : getO l i = some a) : 0 ≤ i ∧ i.toNat < l.length ∧ l[i.toNat]? = some a := by
  unfold getO at h
  split at h
  · next h0 => exact ⟨h0, (List.getElem?_eq_some_iff.1 h).1, h⟩
  · cases h

theorem getO_of {α : Type} {l : List α} {i : Int} {a : α} (h0 : 0 ≤ i) (h : l[i.toNat]? = some a) : getO l i = some a := by
  unfold getO
  rw [if_pos h0, h]

theorem getO_ex {α : Type} {l : List α} {i : Int} (h0 : 0 ≤ i) (h : i.toNat < l.length) : ∃ a, getO l i = some a ∧ l[i.toNat]? = some a := ⟨_, getO_of h0 (List.getElem?_eq_getElem h), List.getElem?_eq_getElem h⟩

namespace MM

/-- a task's priority is its base -/
def fix (x : Mt) : Mt := ⟨x.base, x.base, x.waits⟩

theorem rkM_plain {rk : Int → Option Int} {n d : Int} : ∀ {l : List Mx} {p : Int}, (∀ x ∈ l, x.wait = [] ∧ x.attr ≠ 3) → rkM rk n d l p = some p := by
  intro l
  induction l with
  | nil => intro p _; rfl
  | cons x r ih =>
    intro p h
    have hx := h x (List.mem_cons_self ..)
    have hr := ih (p := p) fun y hy => h y (List.mem_cons_of_mem _ hy)
    rw [rkM, hx.1]
    split
    · exact hr
    · rw [if_neg hx.2]
      split
      · simp [rkL, hr]
      · exact hr

theorem reckon_plain {M : MM} (h : ∀ x ∈ M.m, x.wait = [] ∧ x.attr ≠ 3) (f : Nat) (n d : Int) : reckon M (f + 1) n d = (getO M.t n).map Mt.base := by
  rw [reckon]
  cases getO M.t n with
  | none => rfl
  | some t => exact rkM_plain fun x hx => h x (List.drop_subset _ _ hx)

theorem prs_plain {M : MM} (h : ∀ x ∈ M.m, x.wait = [] ∧ x.attr ≠ 3) : ∀ (k n : Nat), n + k ≤ M.t.length → prs M n k = some (((M.t.drop n).take k).map Mt.base) := by
  intro k
  induction k with
  | zero => intro n _; simp [prs]
  | succ k ih =>
    intro n hn
    have hlt : n < M.t.length := by omega
    rw [prs, reckon_plain h, getO_nat, List.getElem?_eq_getElem hlt, ih (n + 1) (by omega), List.drop_eq_getElem_cons hlt]
    rfl

theorem anew_plain (ps : List Int) : ∀ (k m : Nat) {M : MM}, (∀ x ∈ M.m, x.wait = [] ∧ x.attr ≠ 3) → m + k ≤ M.m.length → anew ps m k M = some () := by
  intro k
  induction k with
  | zero => intro m M _ _; rfl
  | succ k ih =>
    intro m M h hm
    have hlt : m < M.m.length := by omega
    rw [anew, getO_nat, List.getElem?_eq_getElem hlt]
    simp only [Option.bind_some]
    rw [(h _ (List.getElem_mem hlt)).1, if_pos (by simp)]
    simp only [anew1, Option.bind_some]
    exact ih (m + 1) h (by omega)

theorem setPris_spec (ps : List Int) : ∀ (k n : Nat) (M : MM), (∀ i, n ≤ i → i < n + k → ∃ x, M.t[i]? = some x ∧ ps[i]? = some x.base) →
    ∃ t, setPris ps n k M = some { M with t := t } ∧ ∀ i, t[i]? = if n ≤ i ∧ i < n + k then M.t[i]?.map fix else M.t[i]? := by
  intro k
  induction k with
  | zero => intro n M _; exact ⟨M.t, rfl, fun i => by rw [if_neg (by omega)]⟩
  | succ k ih =>
    intro n M h
    obtain ⟨x, hx, hp⟩ := h n (Nat.le_refl _) (by omega)
    have hlt := (List.getElem?_eq_some_iff.1 hx).1
    obtain ⟨t, ht, hi⟩ := ih (n + 1) { M with t := M.t.set n (fix x) } (fun i h1 h2 => by
      obtain ⟨y, hy, hq⟩ := h i (by omega) (by omega)
      exact ⟨y, by simp only [List.getElem?_set]; rw [if_neg (by omega)]; exact hy, hq⟩)
    refine ⟨t, ?_, fun i => ?_⟩
    · rw [setPris, getO_nat, hp]
      simp only [Option.bind_some]
      unfold setPri
      rw [getO_nat, hx]
      simp only [Option.map_some, Option.bind_some, Int.toNat_natCast]
      exact ht
    · rw [hi]
      simp only [List.getElem?_set]
      by_cases e : n = i
      · subst e
        have e1 : ¬ (n + 1 ≤ n ∧ n < n + 1 + k) := by omega
        have e2 : n ≤ n ∧ n < n + (k + 1) := by omega
        simp only [if_neg e1, if_pos e2, if_pos hlt, hx, if_true, Option.map_some]
      · by_cases e2 : n + 1 ≤ i ∧ i < n + 1 + k
        · have e3 : n ≤ i ∧ i < n + (k + 1) := by omega
          simp [e2, e3, e]
        · have e3 : ¬ (n ≤ i ∧ i < n + (k + 1)) := by omega
          simp only [if_neg e2, if_neg e3, if_neg e]

theorem setPris_plain {M : MM} (h : M.t.length = 17) (h0 : M.t[0]?.map fix = M.t[0]?) : setPris (0 :: ((M.t.drop 1).take 16).map Mt.base) 1 16 M = some { M with t := M.t.map fix } := by
  obtain ⟨t, ht, hi⟩ := setPris_spec (0 :: ((M.t.drop 1).take 16).map Mt.base) 16 1 M (fun i h1 h2 => by
    have hlt : i < M.t.length := by omega
    refine ⟨_, List.getElem?_eq_getElem hlt, ?_⟩
    obtain ⟨j, rfl⟩ : ∃ j, i = j + 1 := ⟨i - 1, by omega⟩
    rw [List.getElem?_cons_succ, List.getElem?_map, List.getElem?_take_of_lt (by omega), List.getElem?_drop, Nat.add_comm 1 j, List.getElem?_eq_getElem hlt]
    rfl)
  rw [ht]
  congr 2
  apply List.ext_getElem?
  intro i
  rw [hi, List.getElem?_map]
  by_cases e : 1 ≤ i ∧ i < 1 + 16
  · rw [if_pos e]
  · rw [if_neg e]
    by_cases e0 : i = 0
    · subst e0; exact h0.symm
    · rw [List.getElem?_eq_none (by omega)]; rfl

theorem settle_plain {M : MM} (hm : ∀ x ∈ M.m, x.wait = [] ∧ x.attr ≠ 3) (h : M.t.length = 17) (h0 : M.t[0]?.map fix = M.t[0]?) : M.settle = some { M with t := M.t.map fix } := by
  unfold settle
  rw [prs_plain hm 16 1 (by omega)]
  simp only [Option.bind_some]
  cases hl : M.m.length with
  | zero =>
    rw [anew]
    simp only [Option.bind_some]
    exact setPris_plain h h0
  | succ k =>
    rw [anew_plain _ (k + 1 - 1) 1 hm (by omega)]
    simp only [Option.bind_some]
    exact setPris_plain h h0

/-- nobody waits, no ceilings, and priorities are as they were given -/
structure Plain (M : MM) : Prop where
  m : ∀ x ∈ M.m, x.wait = [] ∧ x.attr ≠ 3
  len : M.t.length = 17
  t : ∀ x ∈ M.t, fix x = x ∧ x.waits = 0

theorem Plain.map {M : MM} (h : Plain M) : M.t.map fix = M.t := by
  have : M.t.map fix = M.t.map id := List.map_congr_left fun x hx => (h.t x hx).1
  rw [this, List.map_id]

theorem Plain.z {M : MM} (h : Plain M) : M.t[0]?.map fix = M.t[0]? := by
  cases h0 : M.t[0]? with
  | none => rfl
  | some x => simp [(h.t x (List.mem_of_getElem? h0)).1]

theorem Plain.settle {M : MM} (h : Plain M) : M.settle = some M := by
  rw [settle_plain h.m h.len h.z, h.map]

theorem Plain.get {M : MM} (h : Plain M) {n : Int} (hn : 1 ≤ n ∧ n ≤ 16) : ∃ b, getO M.t n = some ⟨b, b, 0⟩ ∧ M.t[n.toNat]? = some ⟨b, b, 0⟩ := by
  obtain ⟨x, h1, h2⟩ := getO_ex (l := M.t) (i := n) (by omega) (by rw [h.len]; omega)
  have := h.t x (List.mem_of_getElem? h2)
  obtain ⟨b, p, w⟩ := x
  have e1 : b = p := by have := congrArg Mt.pri this.1; simpa [fix] using this
  have e2 : w = 0 := this.2
  subst e1; subst e2
  exact ⟨b, h1, h2⟩

theorem against_plain {M : MM} {n p tw : Int} : ∀ {l : List Mx} {m : Nat}, (∀ x ∈ l, x.attr ≠ 3) → against M n p tw l m = false := by
  intro l
  induction l with
  | nil => intro m _; rfl
  | cons x r ih =>
    intro m h
    rw [against, if_neg (fun hc => h x (List.mem_cons_self ..) hc.1)]
    exact ih fun y hy => h y (List.mem_cons_of_mem _ hy)

theorem Plain.setBase {M : MM} (h : Plain M) {n p : Int} (hn : 1 ≤ n ∧ n ≤ 16) (hp : 1 ≤ p ∧ p ≤ 16) : M.setBase n p = some (0, { M with t := M.t.set n.toNat ⟨p, p, 0⟩ }) := by
  obtain ⟨b, h1, h2⟩ := h.get hn
  unfold MM.setBase
  rw [if_neg (by omega), if_neg (by omega), h1]
  simp only [Option.bind_some]
  rw [against_plain (fun x hx => (h.m x (List.drop_subset _ _ hx)).2)]
  simp only [Bool.false_eq_true, if_false]
  unfold setB
  rw [h1]
  simp only [Option.map_some, Option.bind_some]
  have hlt := (List.getElem?_eq_some_iff.1 h2).1
  rw [settle_plain (M := { M with t := M.t.set n.toNat ⟨p, b, 0⟩ }) h.m (by simp [h.len])]
  · simp only [Option.map_some, List.map_set]
    rw [h.map]
    rfl
  · have e := h.z
    simp only [List.getElem?_set]
    rw [if_neg (by omega)]
    exact e

theorem Plain.set {M : MM} (h : Plain M) {n p : Int} : Plain { M with t := M.t.set n.toNat ⟨p, p, 0⟩ } := by
  refine ⟨h.m, by simp [h.len], fun x hx => ?_⟩
  rcases List.mem_or_eq_of_mem_set hx with hx | rfl
  · exact h.t x hx
  · exact ⟨rfl, rfl⟩

theorem new_plain {l : List (Int × Int)} (h : ∀ x ∈ l, x.1 ≠ 3) : Plain (new l) := by
  refine ⟨fun x hx => ?_, rfl, fun x hx => ?_⟩
  · rcases List.mem_cons.1 hx with rfl | hx
    · exact ⟨rfl, by decide⟩
    · obtain ⟨y, hy, rfl⟩ := List.mem_map.1 hx
      exact ⟨rfl, h y hy⟩
  · have := (List.mem_replicate.1 hx).2
    subst this
    exact ⟨rfl, rfl⟩

theorem Plain.owned {M : MM} (h : Plain M) {m : Nat} {o : Int} : ∀ M', setO M m o = some M' → Plain M' := by
  intro M' hM
  unfold setO at hM
  obtain ⟨x, hx, rfl⟩ := Option.map_eq_some_iff.1 hM
  obtain ⟨-, -, h2⟩ := getO_some hx
  refine ⟨fun y hy => ?_, h.len, h.t⟩
  rcases List.mem_or_eq_of_mem_set hy with hy | rfl
  · exact h.m y hy
  · exact h.m x (List.mem_of_getElem? h2)

end MM

end Go.Proofs.YtenonfkfoedfmaaGreatDoor.B


/- Parts by number. -/
namespace Go.Proofs.YtenonfkfoedfmaaGreatDoor.B
open Go
set_option linter.unusedVariables false

abbrev starN (n : Nat) (F : Nat → SP) : List SP := (List.range n).map F

theorem star_perm {n i : Nat} (hi : i < n) (F : Nat → SP) : (starN n F).Perm (F i :: ((List.range n).erase i).map F) :=
  (List.perm_cons_erase (List.mem_range.2 hi)).map F

theorem star_back {n i : Nat} (hi : i < n) {F F' : Nat → SP} (h : ∀ j, j ≠ i → F' j = F j) : (F' i :: ((List.range n).erase i).map F).Perm (starN n F') := by
  have e : ((List.range n).erase i).map F = ((List.range n).erase i).map F' := by
    apply List.map_congr_left
    intro j hj
    have := (List.nodup_range (n := n)).mem_erase_iff.1 hj
    exact (h j this.1).symm
  rw [e]
  exact (star_perm hi F').symm

/-- one of them is taken out; another one may be laid in its place -/
theorem star_open {e w L n i} {F : Nat → SP} (h : Ok e (oksH (starN n F) :: L) w) (hi : i < n) :
    ∃ H : SP, Ok e (F i :: H :: L) w ∧ ∀ F' : Nat → SP, (∀ j, j ≠ i → F' j = F j) → ∀ e' L' w', Ok e' (F' i :: H :: L') w' → Ok e' (oksH (starN n F') :: L') w' := by
  refine ⟨oksH (((List.range n).erase i).map F), ?_, fun F' hF e' L' w' h' => ?_⟩
  · have h1 := h.unpack.perm ((star_perm hi F).append_right L)
    exact Ok.p1 (Ok.pack (h1.perm (List.perm_middle (l₁ := ((List.range n).erase i).map F) (a := F i) (l₂ := L)).symm))
  · have h1 : Ok e' (((List.range n).erase i).map F ++ (F' i :: L')) w' := h'.p1.unpack
    have h2 := h1.perm (List.perm_middle (l₁ := ((List.range n).erase i).map F) (a := F' i) (l₂ := L'))
    exact Ok.pack (h2.perm ((star_back hi hF).append_right L'))

theorem star_congr {n : Nat} {F G : Nat → SP} (h : ∀ i, i < n → F i = G i) : starN n F = starN n G := List.map_congr_left fun i hi => h i (List.mem_range.1 hi)

theorem star_zero {e w L} {F : Nat → SP} (h : Ok e L w) : Ok e (oksH (starN 0 F) :: L) w := Ok.pack (M := []) h

/-- one more -/
theorem star_snoc {e w L n} {F : Nat → SP} (h : Ok e (F n :: oksH (starN n F) :: L) w) : Ok e (oksH (starN (n + 1) F) :: L) w := by
  have h1 : Ok e (starN n F ++ (F n :: L)) w := h.p1.unpack
  have e1 : starN (n + 1) F = starN n F ++ [F n] := by simp [starN, List.range_succ]
  rw [e1]
  refine Ok.pack ?_
  rw [List.append_assoc]
  exact h1

end Go.Proofs.YtenonfkfoedfmaaGreatDoor.B


/- Those that may run, as one row in order: what its parts by priority are. -/
namespace Go.Proofs.YtenonfkfoedfmaaGreatDoor.B
open Go
set_option linter.unusedVariables false

/-- the tasks of a priority -/
def rowR (l : List (Int × Int)) (p : Int) : List Int := ids (l.filter fun x => x.2 == p)

structure RdOk (l : List (Int × Int)) : Prop where
  ok : okL l
  sorted : l.Pairwise fun a b => a.2 ≤ b.2
  bd : ∀ x ∈ l, 1 ≤ x.2 ∧ x.2 ≤ 16

theorem rdOk_nil : RdOk [] := ⟨okL_nil, List.Pairwise.nil, by simp⟩

theorem pp_drop (l : List (Int × Int)) (y : Int) : ∀ b ∈ l.drop (pp l y l.length), y < b.2 := by
  obtain ⟨s1, _⟩ := pp_spec l y l.length
  intro b hb
  obtain ⟨i, hi, rfl⟩ := List.getElem_of_mem hb
  rw [List.getElem_drop]
  have hlt : pp l y l.length + i < l.length := by simp at hi; omega
  have := s1 (pp l y l.length + i) (by omega) hlt
  rwa [List.getElem?_eq_getElem hlt] at this

theorem pp_take {l : List (Int × Int)} (y : Int) (h : l.Pairwise fun a b => a.2 ≤ b.2) : ∀ a ∈ l.take (pp l y l.length), a.2 ≤ y := by
  obtain ⟨_, s2⟩ := pp_spec l y l.length
  have hk := pp_le l y l.length
  have hg := List.pairwise_iff_getElem.1 h
  intro a ha
  obtain ⟨i, hi, rfl⟩ := List.getElem_of_mem ha
  rw [List.getElem_take]
  have hlt : i < pp l y l.length := by simp at hi; omega
  have h2 := s2 (by omega)
  rw [List.getElem?_eq_getElem (by omega)] at h2
  simp only [Option.getD_some] at h2
  rcases Nat.lt_or_ge i (pp l y l.length - 1) with h3 | h3
  · have := hg i (pp l y l.length - 1) (by omega) (by omega) h3
    omega
  · have : i = pp l y l.length - 1 := by omega
    simp only [this]
    omega

theorem rowR_put (l : List (Int × Int)) (n q p : Int) : rowR (putL true l (n, q)) p = if q = p then rowR l p ++ [n] else rowR l p := by
  have hd := pp_drop l q
  have hp : putK true l q = pp l q l.length := rfl
  unfold rowR putL ids
  rw [hp, List.filter_append, List.filter_append]
  have e1 : l.filter (fun x => x.2 == p) = (l.take (pp l q l.length)).filter (fun x => x.2 == p) ++ (l.drop (pp l q l.length)).filter (fun x => x.2 == p) := by
    rw [← List.filter_append, List.take_append_drop]
  by_cases h : q = p
  · subst h
    have e2 : (l.drop (pp l q l.length)).filter (fun x => x.2 == q) = [] := by
      rw [List.filter_eq_nil_iff]
      intro a ha
      have := hd a ha
      simp; omega
    rw [if_pos rfl, e1, e2]
    simp
  · rw [if_neg h, e1]
    simp [h]

theorem atI_cons (x : Int × Int) (l : List (Int × Int)) (n : Int) : atI (x :: l) n = if x.1 = n then 0 else if atI l n < 0 then -1 else atI l n + 1 := by
  unfold atI
  rw [List.findIdx?_cons]
  by_cases h : x.1 = n
  · simp [h]
  · have h2 : (x.1 == n) = false := by simpa using h
    simp only [h2, h, if_false, Bool.false_eq_true]
    cases hf : l.findIdx? (fun p => p.1 == n) with
    | none => simp
    | some i =>
      simp only [Option.map_some]
      rw [if_neg (by omega)]
      omega

theorem rmL_cons (x : Int × Int) (l : List (Int × Int)) (n : Int) : rmL (x :: l) n = if x.1 = n then l else x :: rmL l n := by
  have hb := atI_bd l n
  unfold rmL rmAt
  rw [atI_cons]
  by_cases h : x.1 = n
  · simp [h]
  · rw [if_neg h, if_neg h]
    by_cases h2 : atI l n < 0
    · rw [if_pos h2, if_pos h2]; rfl
    · rw [if_neg h2, if_neg h2, if_neg (by omega)]
      have e : (atI l n + 1).toNat = (atI l n).toNat + 1 := by omega
      rw [e]
      simp

theorem rmL_filter {l : List (Int × Int)} (n : Int) (h : (ids l).Nodup) : rmL l n = l.filter fun x => !(x.1 == n) := by
  induction l with
  | nil => rfl
  | cons x l ih =>
    have hn := List.nodup_cons.1 h
    rw [rmL_cons]
    by_cases hx : x.1 = n
    · rw [if_pos hx, List.filter_cons_of_neg (by simp [hx]), List.filter_eq_self.2]
      intro y hy
      have : y.1 ≠ n := fun e => hn.1 (List.mem_map.2 ⟨y, hy, by rw [e, hx]⟩)
      simpa using this
    · rw [if_neg hx, List.filter_cons_of_pos (by simpa using hx), ih hn.2]

theorem rowR_sub (l : List (Int × Int)) (p : Int) : (rowR l p).Sublist (ids l) := List.filter_sublist.map _

theorem rowR_rm {l : List (Int × Int)} (n p : Int) (h : (ids l).Nodup) : rowR (rmL l n) p = (rowR l p).erase n := by
  rw [List.Nodup.erase_eq_filter ((rowR_sub l p).nodup h), rmL_filter n h]
  unfold rowR ids
  rw [List.filter_map, List.filter_filter, List.filter_filter]
  congr 1
  apply List.filter_congr
  intro x _
  simp [Function.comp, Bool.and_comm, bne]

theorem priL_cons (x : Int × Int) (l : List (Int × Int)) (n : Int) : priL (x :: l) n = if x.1 = n then x.2 else priL l n := by
  have hb := atI_bd l n
  unfold priL
  rw [atI_cons]
  by_cases h : x.1 = n
  · simp [h]
  · rw [if_neg h, if_neg h]
    by_cases h2 : atI l n < 0
    · rw [if_pos h2, if_pos h2]; rfl
    · rw [if_neg h2, if_neg h2, if_neg (by omega)]
      have e : (atI l n + 1).toNat = (atI l n).toNat + 1 := by omega
      rw [e]
      simp

theorem priL_no {l : List (Int × Int)} {n : Int} (h : n ∉ ids l) : priL l n = 0 := by
  unfold priL
  rw [if_pos (atI_neg.2 h)]

theorem priL_mem {l : List (Int × Int)} {n p : Int} (h : (ids l).Nodup) (hm : (n, p) ∈ l) : priL l n = p := by
  induction l with
  | nil => cases hm
  | cons x l ih =>
    have hn := List.nodup_cons.1 h
    rw [priL_cons]
    rcases List.mem_cons.1 hm with rfl | hm
    · simp
    · have : x.1 ≠ n := fun e => hn.1 (List.mem_map.2 ⟨_, hm, e.symm⟩)
      rw [if_neg this, ih hn.2 hm]

theorem mem_ids {l : List (Int × Int)} {n : Int} : n ∈ ids l ↔ ∃ p, (n, p) ∈ l := by
  constructor
  · intro h
    obtain ⟨⟨a, b⟩, hx, rfl⟩ := List.mem_map.1 h
    exact ⟨b, hx⟩
  · rintro ⟨p, h⟩; exact List.mem_map.2 ⟨_, h, rfl⟩

theorem priL_perm {l m : List (Int × Int)} (h : (ids l).Nodup) (hp : m.Perm l) (n : Int) : priL m n = priL l n := by
  have hm : (ids m).Nodup := (hp.map Prod.fst).nodup_iff.2 h
  by_cases hn : n ∈ ids l
  · obtain ⟨p, hq⟩ := mem_ids.1 hn
    rw [priL_mem h hq, priL_mem hm (hp.mem_iff.2 hq)]
  · rw [priL_no hn, priL_no fun h2 => hn ((hp.map Prod.fst).mem_iff.1 h2)]

theorem priL_put {l : List (Int × Int)} {n q : Int} (h : (ids l).Nodup) (hn : n ∉ ids l) (i : Int) : priL (putL true l (n, q)) i = if i = n then q else priL l i := by
  have h2 : (ids ((n, q) :: l)).Nodup := List.nodup_cons.2 ⟨hn, h⟩
  rw [priL_perm h2 (putL_perm true l (n, q)), priL_cons]
  by_cases e : n = i
  · simp [e]
  · simp [e, Ne.symm e]

theorem priL_rm {l : List (Int × Int)} (n i : Int) (h : (ids l).Nodup) : priL (rmL l n) i = if i = n then 0 else priL l i := by
  have hs := rmL_sub l n
  have hn2 : (ids (rmL l n)).Nodup := (hs.map Prod.fst).nodup h
  by_cases e : i = n
  · subst e
    rw [if_pos rfl, priL_no]
    rw [rmL_filter i h]
    intro hm
    obtain ⟨p, hp⟩ := mem_ids.1 hm
    simp at hp
  · rw [if_neg e]
    by_cases hi : i ∈ ids l
    · obtain ⟨p, hp⟩ := mem_ids.1 hi
      rw [priL_mem h hp, priL_mem hn2]
      rw [rmL_filter n h]
      exact List.mem_filter.2 ⟨hp, by simpa using e⟩
    · rw [priL_no hi, priL_no fun hm => hi ((hs.map Prod.fst).subset hm)]

theorem priL_pos {l : List (Int × Int)} (h : RdOk l) (n : Int) : (0 < priL l n ↔ n ∈ ids l) ∧ 0 ≤ priL l n ∧ priL l n ≤ 16 := by
  by_cases hn : n ∈ ids l
  · obtain ⟨p, hp⟩ := mem_ids.1 hn
    rw [priL_mem h.ok.1 hp]
    have := h.bd _ hp
    simp only at this
    exact ⟨⟨fun _ => hn, fun _ => by omega⟩, by omega, by omega⟩
  · rw [priL_no hn]
    exact ⟨⟨fun h => by omega, fun h => absurd h hn⟩, by omega, by omega⟩

theorem rdOk_put {l : List (Int × Int)} {n p : Int} (h : RdOk l) (hn : 1 ≤ n ∧ n ≤ 16) (hp : 1 ≤ p ∧ p ≤ 16) (hm : n ∉ ids l) : RdOk (putL true l (n, p)) := by
  refine ⟨okL_put h.ok hn hm, ?_, fun x hx => ?_⟩
  · have hd := pp_drop l p
    have ht := pp_take p h.sorted
    have hk : putK true l p = pp l p l.length := rfl
    unfold putL
    rw [hk]
    rw [List.append_assoc]
    refine List.pairwise_append.2 ⟨h.sorted.sublist (List.take_sublist ..), ?_, ?_⟩
    · refine List.pairwise_append.2 ⟨List.pairwise_singleton .., h.sorted.sublist (List.drop_sublist ..), ?_⟩
      intro a ha b hb
      simp only [List.mem_singleton] at ha
      subst ha
      have := hd b hb
      simp only; omega
    · intro a ha b hb
      have h1 := ht a ha
      rcases List.mem_append.1 hb with hb | hb
      · simp only [List.mem_singleton] at hb
        subst hb
        exact h1
      · have := hd b hb
        omega
  · rcases putL_mem.1 hx with rfl | hx
    · exact hp
    · exact h.bd x hx

theorem rdOk_sub {l m : List (Int × Int)} (h : RdOk l) (hs : m.Sublist l) : RdOk m := ⟨okL_sub h.ok hs, h.sorted.sublist hs, fun x hx => h.bd x (hs.subset hx)⟩

theorem rdOk_rm {l : List (Int × Int)} {n : Int} (h : RdOk l) : RdOk (rmL l n) := rdOk_sub h (rmL_sub l n)

theorem rowR_mem {l : List (Int × Int)} {n p : Int} : n ∈ rowR l p ↔ (n, p) ∈ l := by
  unfold rowR
  rw [mem_ids]
  constructor
  · rintro ⟨q, h⟩
    obtain ⟨h1, h2⟩ := List.mem_filter.1 h
    simp at h2; subst h2; exact h1
  · intro h; exact ⟨p, List.mem_filter.2 ⟨h, by simp⟩⟩

theorem filter_le_succ {l : List (Int × Int)} (h : l.Pairwise fun a b => a.2 ≤ b.2) (k : Int) :
    l.filter (fun x => decide (x.2 ≤ k + 1)) = l.filter (fun x => decide (x.2 ≤ k)) ++ l.filter (fun x => x.2 == k + 1) := by
  induction l with
  | nil => rfl
  | cons x l ih =>
    have hp := List.pairwise_cons.1 h
    have ih := ih hp.2
    by_cases h1 : x.2 ≤ k
    · rw [List.filter_cons_of_pos (by simp; omega), List.filter_cons_of_pos (by simpa using h1), List.filter_cons_of_neg (by simp; omega), ih]
      rfl
    · have e0 : l.filter (fun x => decide (x.2 ≤ k)) = [] := by
        rw [List.filter_eq_nil_iff]
        intro a ha
        have := hp.1 a ha
        simp; omega
      rw [e0, List.nil_append] at ih
      by_cases h2 : x.2 = k + 1
      · rw [List.filter_cons_of_pos (by simp; omega), List.filter_cons_of_neg (by simpa using h1), List.filter_cons_of_pos (by simpa using h2), ih, e0]
        rfl
      · rw [List.filter_cons_of_neg (by simp; omega), List.filter_cons_of_neg (by simpa using h1), List.filter_cons_of_neg (by simpa using h2), ih, e0]
        rfl

/-- the priorities that have tasks, rising -/
def psR (l : List (Int × Int)) : Nat → List Int
  | 0 => []
  | k + 1 => psR l k ++ if rowR l ((k : Int) + 1) = [] then [] else [(k : Int) + 1]

theorem psR_le {l : List (Int × Int)} (h : l.Pairwise fun a b => a.2 ≤ b.2) (hb : ∀ x ∈ l, 1 ≤ x.2) (k : Nat) : (psR l k).flatMap (rowR l) = ids (l.filter fun x => decide (x.2 ≤ (k : Int))) := by
  induction k with
  | zero =>
    have : l.filter (fun x => decide (x.2 ≤ ((0 : Nat) : Int))) = [] := by
      rw [List.filter_eq_nil_iff]
      intro a ha
      have := hb a ha
      simp; omega
    rw [this]; rfl
  | succ k ih =>
    rw [psR, List.flatMap_append, ih]
    have := filter_le_succ h (k : Int)
    rw [show ((k + 1 : Nat) : Int) = (k : Int) + 1 by omega, this]
    unfold ids
    rw [List.map_append]
    congr 1
    by_cases he : rowR l ((k : Int) + 1) = []
    · rw [if_pos he]
      exact he.symm
    · rw [if_neg he]
      simp [rowR]

theorem psR_all {l : List (Int × Int)} (h : RdOk l) : (psR l 16).flatMap (rowR l) = ids l := by
  rw [psR_le h.sorted (fun x hx => (h.bd x hx).1) 16, List.filter_eq_self.2]
  intro x hx
  have := (h.bd x hx).2
  simpa using this

theorem rowR_first {x : Int × Int} {l : List (Int × Int)} (h : RdOk (x :: l)) : (rowR (x :: l) x.2).head? = some x.1 ∧ ∀ p, p < x.2 → rowR (x :: l) p = [] := by
  refine ⟨by simp [rowR, ids], fun p hp => ?_⟩
  have hs := (List.pairwise_cons.1 h.sorted).1
  unfold rowR ids
  rw [List.filter_eq_nil_iff.2, List.map_nil]
  intro a ha
  rcases List.mem_cons.1 ha with rfl | ha
  · simp; omega
  · have := hs a ha
    simp; omega

/-! ### the word of bits -/
structure BitsR (W : Nat) (l : List (Int × Int)) : Prop where
  lt : W < 2 ^ 16
  bit : ∀ i : Nat, i < 16 → (W.testBit i = true ↔ rowR l ((i : Int) + 1) ≠ [])

theorem bitsR_nil : BitsR 0 [] := ⟨by decide, fun i _ => by simp [rowR]⟩

theorem bitsR_zero {W : Nat} {l : List (Int × Int)} (h : BitsR W l) (hl : RdOk l) : W = 0 ↔ l = [] := by
  constructor
  · rintro rfl
    cases l with
    | nil => rfl
    | cons x l =>
      have hb := hl.bd x (List.mem_cons_self ..)
      have := h.bit (x.2 - 1).toNat (by omega)
      rw [show (((x.2 - 1).toNat : Nat) : Int) + 1 = x.2 by omega] at this
      have h2 := (rowR_first hl).1
      have h3 : rowR (x :: l) x.2 ≠ [] := by intro e; rw [e] at h2; cases h2
      have := this.2 h3
      simp at this
  · rintro rfl
    apply Nat.eq_of_testBit_eq
    intro i
    rw [Nat.zero_testBit]
    by_cases hi : i < 16
    · have := h.bit i hi
      cases hb : W.testBit i with
      | false => rfl
      | true => exact absurd rfl (this.1 hb)
    · exact Nat.testBit_lt_two_pow (Nat.lt_of_lt_of_le h.lt (Nat.pow_le_pow_right (by decide) (by omega)))

theorem bitsR_put {W : Nat} {l : List (Int × Int)} {n p : Int} (h : BitsR W l) (hp : 1 ≤ p ∧ p ≤ 16) : BitsR (W ||| 2 ^ (p - 1).toNat) (putL true l (n, p)) := by
  refine ⟨Nat.or_lt_two_pow h.lt (Nat.pow_lt_pow_right (by decide) (by omega)), fun i hi => ?_⟩
  rw [Nat.testBit_or, Nat.testBit_two_pow, rowR_put]
  by_cases e : p = (i : Int) + 1
  · rw [if_pos e]
    have : (p - 1).toNat = i := by omega
    simp [this]
  · rw [if_neg e]
    have h2 : ¬ (p - 1).toNat = i := by omega
    simp only [h2, decide_false, Bool.or_false]
    exact h.bit i hi

end Go.Proofs.YtenonfkfoedfmaaGreatDoor.B

