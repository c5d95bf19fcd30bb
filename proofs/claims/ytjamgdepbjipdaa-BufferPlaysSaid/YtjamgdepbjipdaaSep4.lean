/- Parts of owned slices as what is appended. -/
import Derived.Test.YtjamgdepbjipdaaSep3
namespace Go.Proofs.Ytjamgdepbjipdaa.B
open Go
set_option linter.unusedVariables false
section
variable {e : World} {L : List SP} {w : World} {P : Program} {b o sz : Nat} {cs us vs ds post : List Value} {s d x : Sl}
theorem Ok.dropAll {L : List SP} : ∀ {M : List SP}, Ok e (M ++ L) w → Ok e L w
  | [], h => h
  | _ :: M, h => Ok.dropAll (M := M) (Ok.drop h)
theorem Ok.only {A : SP} {L : List SP} (h : Ok e (A :: L) w) : Ok e [A] w := (h.perm (List.perm_append_comm (l₁ := [A]) (l₂ := L))).dropAll
/-- a part of a slice -/
structure SubOf (s : Sl) (sz i j : Nat) (x : Sl) : Prop where
  len : x.len = j - i
  at' : i < j → ∃ b, s.a = some ⟨b, 0, none⟩ ∧ x.a = some ⟨b, i * sz, none⟩
theorem sb_sub {lo hi : Int} {f : Sl → Prop} (h : Ok e (slc sz s vs :: L) w) (h0 : 0 ≤ lo) (h1 : lo ≤ hi) (h2 : hi ≤ s.len) (k : ∀ x, SubOf s sz lo.toNat hi.toNat x → f x) : sb s lo hi s.cap sz f := by
  obtain ⟨-, -, hc, hcase⟩ := h.slcE
  rcases hcase with ⟨ha, hcap, -⟩ | ⟨b, post, ha, -, -⟩
  · refine ⟨h0, h1, by omega, Int.le_refl _, k _ ⟨by simp [Sl.sub], fun h => by omega⟩⟩
  · refine sb_at ha h0 h1 (by omega) (Int.le_refl _) fun s' o hs' hl hcp _ ho => k s' ⟨hl, fun hlt => ⟨b, ha, ?_⟩⟩
    rw [hs', ho (by omega)]
theorem ef.appendSub {t : TypeId} {i j : Nat} {K : TK [kS] → World → Prop} (T : SlT P t sz) (hsz : 0 < sz) (h : Ok e (slc sz d ds :: slc sz s vs :: L) w) (hx : SubOf s sz i j x) (hj : j ≤ s.len) (hb : d.len + s.len ≤ 2 ^ 31)
    (k : ∀ s' w', s'.len = d.len + (j - i) → Ok e (slc sz s' (ds ++ (vs.take (j * sz)).drop (i * sz)) :: slc sz s vs :: L) w' → K (s', ()) w') : ef P (Builtin.append_ #[t, t] t #[vS d, vS x]) [kS] w K := by
  have hl := h.p1.slc_len
  have hjs : j * sz ≤ vs.length := by rw [hl]; exact Nat.mul_le_mul_right _ hj
  have hul : ((vs.take (j * sz)).drop (i * sz)).length = x.len * sz := by
    rw [List.length_drop, List.length_take, hx.len, Nat.sub_mul]
    omega
  have hnil : ¬ i < j → (vs.take (j * sz)).drop (i * sz) = [] := fun h => List.eq_nil_of_length_eq_zero (by rw [hul, hx.len, show j - i = 0 by omega]; simp)
  refine ef.append T hsz h hul (fun ha => ?_) (fun a ha q u hu => ?_) (fun v hm => h.p1.slcE.2.1 v (List.mem_of_mem_take (List.mem_of_mem_drop hm))) (by rw [hx.len]; omega) fun s' w' hl' hk => k s' w' (by rw [hl', hx.len]) hk
  · refine hnil fun hlt => ?_
    obtain ⟨b, _, h2⟩ := hx.at' hlt
    rw [h2] at ha
    cases ha
  · by_cases hlt : i < j
    · obtain ⟨b, h1, h2⟩ := hx.at' hlt
      rw [h2] at ha
      cases ha
      rw [List.getElem?_drop] at hu
      have hq : i * sz + q < j * sz := by
        have := (List.getElem?_eq_some_iff.1 hu).1
        rw [List.length_take] at this
        omega
      rw [List.getElem?_take_of_lt hq] at hu
      have := h.p1.slc_cells h1 _ _ hu
      rw [Addr.add_lit] at this ⊢
      rw [Nat.zero_add] at this
      exact this
    · rw [hnil hlt] at hu
      simp at hu
end
/-! ### a list of parts out of another one: some are left out, the others stand in another order -/
inductive Sel (A : SP) : List SP → List SP → Prop
  | here (L : List SP) : Sel A (A :: L) L
  | there {B : SP} {L L' : List SP} (h : Sel A L L') : Sel A (B :: L) (B :: L')
theorem Sel.perm {A : SP} {L L' : List SP} (h : Sel A L L') : L.Perm (A :: L') := by
  induction h with
  | here L => exact List.Perm.refl _
  | there h ih => exact (ih.cons _).trans (List.Perm.swap ..)
inductive Emb : List SP → List SP → Prop
  | same (L : List SP) : Emb L L
  | nil (L : List SP) : Emb L []
  | cons {A : SP} {L L' M : List SP} (hs : Sel A L L') (h : Emb L' M) : Emb L (A :: M)
  | skip {A : SP} {L M : List SP} (h : Emb L M) : Emb (A :: L) M
theorem Emb.ok {L M : List SP} (m : Emb L M) : ∀ {h : Hp}, oksH L h → oksH M h := by
  induction m with
  | same L => intro h H; exact H
  | nil L => intro h _; trivial
  | cons hs _ ih =>
    intro h H
    obtain ⟨h1, h2, hd, e, hA, hL⟩ := oksH_perm hs.perm H
    exact ⟨h1, h2, hd, e, hA, ih hL⟩
  | skip _ ih =>
    intro h H
    obtain ⟨h1, h2, hd, rfl, hA, hL⟩ := H
    exact ih (oksH_le hL fun b o hb => by
      simp only [Hp.un]
      rcases hd b with e | e
      · simp [e, hb]
      · rw [hb] at e; cases e)
theorem Ok.emb {e : World} {L M : List SP} {w : World} (h : Ok e L w) (m : Emb L M) : Ok e M w := ⟨h.os, h.tape, h.output, m.ok h.heap⟩
theorem Ok.bring {e : World} {A : SP} {L L' : List SP} {w : World} (h : Ok e L w) (s : Sel A L L') : Ok e (A :: L') w := h.perm s.perm
theorem Ok.cellS {e : World} {L L' : List SP} {w : World} {b i : Nat} {cs : List Value} {v : Value} (h : Ok e L w) (s : Sel (pts b cs) L L') (hv : cs[i]? = some v) : w.cell? ⟨b, i, none⟩ = some v := (h.bring s).cell hv
theorem sl0 {A : SP} {L : List SP} : Sel A (A :: L) (L) := .here _
theorem sl1 {A B0 : SP} {L : List SP} : Sel A (B0 :: A :: L) (B0 :: L) := .there (.here _)
theorem sl2 {A B0 B1 : SP} {L : List SP} : Sel A (B0 :: B1 :: A :: L) (B0 :: B1 :: L) := .there (.there (.here _))
theorem sl3 {A B0 B1 B2 : SP} {L : List SP} : Sel A (B0 :: B1 :: B2 :: A :: L) (B0 :: B1 :: B2 :: L) := .there (.there (.there (.here _)))
theorem sl4 {A B0 B1 B2 B3 : SP} {L : List SP} : Sel A (B0 :: B1 :: B2 :: B3 :: A :: L) (B0 :: B1 :: B2 :: B3 :: L) := .there (.there (.there (.there (.here _))))
theorem sl5 {A B0 B1 B2 B3 B4 : SP} {L : List SP} : Sel A (B0 :: B1 :: B2 :: B3 :: B4 :: A :: L) (B0 :: B1 :: B2 :: B3 :: B4 :: L) := .there (.there (.there (.there (.there (.here _)))))
theorem sl6 {A B0 B1 B2 B3 B4 B5 : SP} {L : List SP} : Sel A (B0 :: B1 :: B2 :: B3 :: B4 :: B5 :: A :: L) (B0 :: B1 :: B2 :: B3 :: B4 :: B5 :: L) := .there (.there (.there (.there (.there (.there (.here _))))))
theorem sl7 {A B0 B1 B2 B3 B4 B5 B6 : SP} {L : List SP} : Sel A (B0 :: B1 :: B2 :: B3 :: B4 :: B5 :: B6 :: A :: L) (B0 :: B1 :: B2 :: B3 :: B4 :: B5 :: B6 :: L) := .there (.there (.there (.there (.there (.there (.there (.here _)))))))
theorem sl8 {A B0 B1 B2 B3 B4 B5 B6 B7 : SP} {L : List SP} : Sel A (B0 :: B1 :: B2 :: B3 :: B4 :: B5 :: B6 :: B7 :: A :: L) (B0 :: B1 :: B2 :: B3 :: B4 :: B5 :: B6 :: B7 :: L) := .there (.there (.there (.there (.there (.there (.there (.there (.here _))))))))
theorem sl9 {A B0 B1 B2 B3 B4 B5 B6 B7 B8 : SP} {L : List SP} : Sel A (B0 :: B1 :: B2 :: B3 :: B4 :: B5 :: B6 :: B7 :: B8 :: A :: L) (B0 :: B1 :: B2 :: B3 :: B4 :: B5 :: B6 :: B7 :: B8 :: L) := .there (.there (.there (.there (.there (.there (.there (.there (.there (.here _)))))))))
theorem sl10 {A B0 B1 B2 B3 B4 B5 B6 B7 B8 B9 : SP} {L : List SP} : Sel A (B0 :: B1 :: B2 :: B3 :: B4 :: B5 :: B6 :: B7 :: B8 :: B9 :: A :: L) (B0 :: B1 :: B2 :: B3 :: B4 :: B5 :: B6 :: B7 :: B8 :: B9 :: L) := .there (.there (.there (.there (.there (.there (.there (.there (.there (.there (.here _))))))))))
theorem sl11 {A B0 B1 B2 B3 B4 B5 B6 B7 B8 B9 B10 : SP} {L : List SP} : Sel A (B0 :: B1 :: B2 :: B3 :: B4 :: B5 :: B6 :: B7 :: B8 :: B9 :: B10 :: A :: L) (B0 :: B1 :: B2 :: B3 :: B4 :: B5 :: B6 :: B7 :: B8 :: B9 :: B10 :: L) := .there (.there (.there (.there (.there (.there (.there (.there (.there (.there (.there (.here _)))))))))))
theorem sl12 {A B0 B1 B2 B3 B4 B5 B6 B7 B8 B9 B10 B11 : SP} {L : List SP} : Sel A (B0 :: B1 :: B2 :: B3 :: B4 :: B5 :: B6 :: B7 :: B8 :: B9 :: B10 :: B11 :: A :: L) (B0 :: B1 :: B2 :: B3 :: B4 :: B5 :: B6 :: B7 :: B8 :: B9 :: B10 :: B11 :: L) := .there (.there (.there (.there (.there (.there (.there (.there (.there (.there (.there (.there (.here _))))))))))))
theorem sl13 {A B0 B1 B2 B3 B4 B5 B6 B7 B8 B9 B10 B11 B12 : SP} {L : List SP} : Sel A (B0 :: B1 :: B2 :: B3 :: B4 :: B5 :: B6 :: B7 :: B8 :: B9 :: B10 :: B11 :: B12 :: A :: L) (B0 :: B1 :: B2 :: B3 :: B4 :: B5 :: B6 :: B7 :: B8 :: B9 :: B10 :: B11 :: B12 :: L) := .there (.there (.there (.there (.there (.there (.there (.there (.there (.there (.there (.there (.there (.here _)))))))))))))
end Go.Proofs.Ytjamgdepbjipdaa.B
