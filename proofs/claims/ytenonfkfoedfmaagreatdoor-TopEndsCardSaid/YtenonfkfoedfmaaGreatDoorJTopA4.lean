/- Texts of ours, joined: Sep3, Sep4, Ctx, Sep5, Order, Order2, Order3, Sorted, Ids, Dtq, Dtq2, Up, Mpf, Mpf2, Km, Km2, Kp, Star, Rdp, Rdb, Rdy, Rdy2, Tcb. -/
import Derived.MapKept
import Derived.Test.YtenonfkfoedfmaaGreatDoorJTopA3
set_option linter.unusedSimpArgs false
set_option linter.unusedVariables false
/- slices.Delete, slices.Insert and slices.Clone as shallow programs, for elements of any size. -/
namespace Go.Proofs.YtenonfkfoedfmaaGreatDoor.B
open Go
set_option linter.unusedVariables false
/-- what is known of slices.overlaps -/
structure OvT (P : Program) (f : FuncId) (t : TypeId) : Prop where
  ex : ∃ fn tr, P.funcs[f]? = some fn ∧ (fn.name == "runtime.NumGoroutine") = false ∧ fn.body.isNone = true ∧ Extern.findNext fn = none ∧ Extern.find fn = some (Extern.SlicesOverlaps.overlaps #[t, t] #[tr])
section
variable {e : World} {L : List SP} {w : World} {P : Program} {b o sz : Nat} {cs us vs post : List Value} {s d x : Sl} {R : List Value → World → Prop}
theorem Ok.slc_block (h : Ok e (slc sz s vs :: L) w) (h0 : 0 < s.cap) : ∃ b post, s.a = some ⟨b, 0, none⟩ ∧ s.cap * sz ≤ vs.length + post.length ∧ Ok e (pts b (vs ++ post) :: L) w := by
  rcases h.slcE.2.2.2 with ⟨_, hc, _⟩ | h
  · omega
  · exact h
set_option maxHeartbeats 2000000 in
theorem del_body {t : TypeId} {i j : Int} (T : SlT P t sz) (hsz : 0 < sz) (h : Ok e (slc sz s vs :: L) w) (hi : 0 ≤ i) (hij : i < j) (hj : j ≤ s.len) (hb : s.len ≤ 2 ^ 31)
    (k : ∀ s' w', s'.len = s.len - (j.toNat - i.toNat) → Ok e (slc sz s' (vs.take (i.toNat * sz) ++ vs.drop (j.toNat * sz)) :: L) w' → R [vS s'] w') :
    sb s i j (s.len : Int) sz fun s1 =>
    B.cs (i == j) (R [vS s] w) (
    dr w fun w2 =>
    sb s 0 i s.cap sz fun s3 =>
    sb s j s.len s.cap sz fun s4 =>
    ef P (Builtin.append_ #[t, t] t #[vS s3, vS s4]) [kS] w2 fun (r5 : Sl × Unit) w6 =>
    sb r5.1 (r5.1.len : Int) (s.len : Int) r5.1.cap sz fun s7 =>
    ef P (Builtin.clear_ #[t] 0 #[vS s7]) [] w6 fun (r8 : Unit) w9 =>
    R [vS r5.1] w9) := by
  obtain ⟨hl, hv, hc, -⟩ := h.slcE
  obtain ⟨b, post, ha, hp, hk⟩ := h.slc_block (by omega)
  refine ⟨hi, by omega, hj, by omega, ?_⟩
  refine cs.no (by simp; omega) ?_
  refine dr.mk hk fun w2 hk => ?_
  refine sb_at ha (by omega) hi (by omega) (Int.le_refl _) fun s3 o3 ha3 hl3 hc3 ho3 _ => ?_
  have ho3 : o3 = 0 := by simpa using ho3
  subst ho3
  refine sb_at ha (by omega) hj (by omega) (Int.le_refl _) fun s4 o4 ha4 hl4 hc4 ho4 ho4' => ?_
  have hin : i.toNat * sz ≤ vs.length := by rw [hl]; exact Nat.mul_le_mul_right _ (by omega)
  have hjn : j.toNat * sz ≤ vs.length := by rw [hl]; exact Nat.mul_le_mul_right _ (by omega)
  have h3 : Ok e (slc sz s3 (vs.take (i.toNat * sz)) :: L) w2 := by
    have hk' : Ok e (pts b (vs.take (i.toNat * sz) ++ (vs.drop (i.toNat * sz) ++ post)) :: L) w2 := by
      rw [← List.append_assoc, List.take_append_drop]; exact hk
    refine hk'.slcI ha3 (by simp [hl3, hin]) (fun v hm => hv v (List.mem_of_mem_take hm)) (by omega) ?_
    simp only [List.length_take, List.length_drop, List.length_append, hc3]
    simp only [Int.toNat_natCast, Int.toNat_zero, Nat.sub_zero]
    omega
  have hus : (vs.drop (j.toNat * sz)).length = s4.len * sz := by
    rw [List.length_drop, hl, hl4, ← Nat.sub_mul]; simp
  obtain ⟨s5, w6, hr, hl5, h5, hroom⟩ := append_run (P := P) (ty := t) (x := s4) (us := vs.drop (j.toNat * sz)) T hsz h3 hus (fun h => by rw [ha4] at h; cases h) (fun a ha j' u hu => by
      rw [ha4] at ha
      cases ha
      rw [Addr.add_lit]
      rw [List.getElem?_drop] at hu
      have hlt := (List.getElem?_eq_some_iff.1 hu).1
      have : j.toNat < s.len := by
        rcases Nat.lt_or_ge j.toNat s.len with h | h
        · exact h
        · have : s.len * sz ≤ j.toNat * sz := Nat.mul_le_mul_right _ h
          omega
      rw [ho4' (by omega)]
      exact hk.cell (by rw [List.getElem?_append_left hlt]; exact hu)) (fun v hm => hv v (List.mem_of_mem_drop hm)) (by omega)
  obtain ⟨ha5, hc5⟩ := hroom (by rw [ha3]; rfl) (by omega)
  rw [ha3] at ha5
  refine ⟨(s5, ()), w6, hr, ?_⟩
  dsimp only
  have hl5' : s5.len = s.len - (j.toNat - i.toNat) := by omega
  refine sb_at ha5 (by omega) (by omega) (by omega) (Int.le_refl _) fun s7 o7 ha7 hl7 hc7 ho7 ho7' => ?_
  have ho7 := ho7' (by omega)
  obtain ⟨hll5, hv5, hcc5, -⟩ := h5.slcE
  obtain ⟨b', post5, hb', hp5, hk5⟩ := h5.slc_block (by omega)
  rw [ha5] at hb'
  cases hb'
  have hfit : o7 + s7.len * sz ≤ (vs.take (i.toNat * sz) ++ vs.drop (j.toNat * sz) ++ post5).length := by
    rw [List.length_append]
    refine Nat.le_trans ?_ hp5
    rw [ho7, ← Nat.add_mul]
    exact Nat.mul_le_mul_right _ (by simp at hl7 ⊢; omega)
  refine ef.clear T hsz hk5 ha7 (.inr hfit) fun w9 zs hzs h9 => ?_
  refine k s5 w9 hl5' ?_
  have ho7l : o7 = (vs.take (i.toNat * sz) ++ vs.drop (j.toNat * sz)).length := by rw [ho7, hll5]; simp
  have e1 : (vs.take (i.toNat * sz) ++ vs.drop (j.toNat * sz) ++ post5).take o7 = vs.take (i.toNat * sz) ++ vs.drop (j.toNat * sz) := by
    rw [ho7l, List.take_left]
  rw [e1, List.append_assoc] at h9
  refine h9.slcI ha5 hll5 hv5 hcc5 ?_
  refine Nat.le_trans hp5 ?_
  have hf : o7 + zs.length ≤ (vs.take (i.toNat * sz) ++ vs.drop (j.toNat * sz) ++ post5).length := by rw [hzs]; exact hfit
  clear hk5 h9 h5 hr hroom hus h3 hk hp hp5 hin hjn
  revert ho7l hf
  generalize vs.take (i.toNat * sz) ++ vs.drop (j.toNat * sz) = A
  intro ho7l hf
  rw [List.length_append] at hf
  rw [List.length_append, List.length_drop, List.length_append]
  clear hzs hll5 hfit ho7 hl hl7 e1
  omega
theorem splice {α : Type} {A Z us post : List α} {o : Nat} (ho : o = A.length) (h : us.length ≤ Z.length) : (A ++ Z ++ post).take o ++ us ++ (A ++ Z ++ post).drop (o + us.length) = A ++ us ++ (Z.drop us.length ++ post) := by
  subst ho
  rw [List.append_assoc A Z post, List.take_left, ← List.drop_drop, List.drop_left, List.drop_append_of_le_length h]
theorem ef.copyAt {t ty : TypeId} {n : Nat} {A Z : List Value} {K : TK [kI] → World → Prop} (T : SlT P t sz) (h : Ok e (pts b (A ++ Z ++ post) :: L) w) (hd : d.a = some ⟨b, o, none⟩) (hn : n = Nat.min x.len d.len) (hul : us.length = n * sz)
    (hxa : x.a = none → us = []) (hu : ∀ a, x.a = some a → ∀ j u, us[j]? = some u → w.cell? (a.add j) = some u) (h1 : ∀ v ∈ us, v.oneCell' = true) (ho : o = A.length) (hfit : us.length ≤ Z.length)
    (k : ∀ w', Ok e (pts b (A ++ us ++ (Z.drop us.length ++ post)) :: L) w' → K ((n : Int), ()) w') : ef P (Builtin.copy_ #[t, t] ty #[vS d, vS x]) [kI] w K := by
  refine ef.copy T h hd hn hul hxa hu h1 ?_ fun w' h' => k w' ?_
  · rw [ho, List.length_append, List.length_append]; omega
  · rw [splice ho hfit] at h'; exact h'
theorem w64_i (n : Nat) (h : n ≤ 2 ^ 32) : w64 ((n : Nat) : Int) = (n : Int) := IntWalk.i64_in _ ⟨by omega, by omega⟩
set_option maxHeartbeats 2000000 in
theorem ins_body {t ti : TypeId} {ki : IntKind} {fo : FuncId} {i : Int} {Z : Sl → TK [kB] → World → Prop} (T : SlT P t sz) (hti : P.underlying ti = some (.int ki)) (O : OvT P fo t) (hsz : 0 < sz)
    (h : Ok e (slc sz x us :: slc sz s vs :: L) w) (hi : 0 ≤ i) (hin : i ≤ s.len) (hm : 0 < x.len) (hb : s.len + x.len ≤ 2 ^ 31)
    (k : ∀ s' w', s'.len = s.len + x.len → Ok e (slc sz s' (vs.take (i.toNat * sz) ++ us ++ vs.drop (i.toNat * sz)) :: L) w' → R [vS s'] w') :
    sb s i s.len s.cap sz fun s1 =>
    B.cs (((x.len : Int) : Int) == (0 : Int)) (R [vS s] w) (
    B.cs (i == ((s.len : Int) : Int)) (
    ef P (Builtin.append_ #[t, t] t #[vS s, vS x]) [kS] w fun (r2 : Sl × Unit) w3 =>
    R [vS r2.1] w3) (
    B.cs (decide ((w64 ((s.len : Int) + (x.len : Int)) : Int) > ((s.cap : Int) : Int))) (
    sb s 0 i s.cap sz fun s4 =>
    ef P (Builtin.append_ #[t, ti] t #[vS s4, .int .i64 (w64 ((w64 ((s.len : Int) + (x.len : Int))) - i))]) [kS] w fun (r5 : Sl × Unit) w6 =>
    sb r5.1 i r5.1.len r5.1.cap sz fun s7 =>
    ef P (Builtin.copy_ #[t, t] ti #[vS s7, vS x]) [kI] w6 fun (r8 : Int × Unit) w9 =>
    dr w9 fun w10 =>
    sb r5.1 (w64 (i + (x.len : Int))) r5.1.len r5.1.cap sz fun s11 =>
    sb s i s.len s.cap sz fun s12 =>
    ef P (Builtin.copy_ #[t, t] ti #[vS s11, vS s12]) [kI] w10 fun (r13 : Int × Unit) w14 =>
    R [vS r5.1] w14) (
    sb s 0 (w64 ((s.len : Int) + (x.len : Int))) s.cap sz fun s15 =>
    sb s15 (w64 (i + (x.len : Int))) s15.len s15.cap sz fun s16 =>
    xt P fo [vS x, vS s16] [kB] w fun (r17 : Bool × Unit) w18 =>
    B.cs (!r17.1) (
    dr w18 fun w19 =>
    sb s15 (w64 (i + (x.len : Int))) s15.len s15.cap sz fun s20 =>
    sb s15 i s15.len s15.cap sz fun s21 =>
    ef P (Builtin.copy_ #[t, t] ti #[vS s20, vS s21]) [kI] w19 fun (r22 : Int × Unit) w23 =>
    sb s15 i s15.len s15.cap sz fun s24 =>
    ef P (Builtin.copy_ #[t, t] ti #[vS s24, vS x]) [kI] w23 fun (r25 : Int × Unit) w26 =>
    R [vS s15] w26) (Z s15 r17 w18)))) := by
  obtain ⟨hlx, hvx, hcx, -⟩ := h.slcE
  obtain ⟨hl, hv, hc, -⟩ := h.p1.slcE
  obtain ⟨n, rfl⟩ : ∃ n : Nat, i = n := ⟨i.toNat, by omega⟩
  simp only [Int.toNat_natCast] at k ⊢
  have hn : n ≤ s.len := by omega
  have e1 : w64 ((s.len : Int) + (x.len : Int)) = ((s.len + x.len : Nat) : Int) := by rw [← Int.natCast_add]; exact w64_i _ (by omega)
  have e2 : w64 ((n : Int) + (x.len : Int)) = ((n + x.len : Nat) : Int) := by rw [← Int.natCast_add]; exact w64_i _ (by omega)
  rw [e1, e2]
  refine ⟨hi, hin, by omega, Int.le_refl _, ?_⟩
  refine cs.no (by simp; omega) ?_
  refine cs.mk (fun he => ?_) (fun hne => ?_)
  · have he : n = s.len := by have := eq_of_beq he; omega
    refine ef.append2 T hsz h.p1 (by omega) fun s' w' hl' hk => k s' w' hl' ?_
    rw [he, ← hl, List.take_length, List.drop_length, List.append_nil]
    exact hk.p1.drop
  have hlt : n < s.len := by
    have : n ≠ s.len := by intro h; simp [h] at hne
    omega
  obtain ⟨c, post2, hxa, hpx, hkx⟩ := h.slc_block (by omega)
  obtain ⟨b, post, ha, hp, hk⟩ := hkx.p1.slc_block (by omega)
  have hin : n * sz ≤ vs.length := by rw [hl]; exact Nat.mul_le_mul_right _ hn
  have htl : (vs.take (n * sz)).length = n * sz := by rw [List.length_take]; omega
  have hdl : (vs.drop (n * sz)).length = (s.len - n) * sz := by rw [List.length_drop, hl, ← Nat.sub_mul]
  have hd1 : ∀ v ∈ vs.drop (n * sz), v.oneCell' = true := fun v hm => hv v (List.mem_of_mem_drop hm)
  have hall : ∀ v ∈ vs.take (n * sz) ++ us ++ vs.drop (n * sz), v.oneCell' = true := by
    intro v hm
    rcases List.mem_append.1 hm with hm | hm
    · rcases List.mem_append.1 hm with hm | hm
      · exact hv v (List.mem_of_mem_take hm)
      · exact hvx v hm
    · exact hd1 v hm
  have hflen : (vs.take (n * sz) ++ us ++ vs.drop (n * sz)).length = (s.len + x.len) * sz := by
    rw [List.length_append, List.length_append, htl, hdl, hlx, ← Nat.add_mul, ← Nat.add_mul]
    congr 1
    omega
  have hread : ∀ {w0 : World} {L0 : List SP} {o0 : Nat}, Ok e (pts b (vs ++ post) :: L0) w0 → o0 = n * sz → ∀ a, (some ⟨b, o0, none⟩ : Option Addr) = some a → ∀ j u, (vs.drop (n * sz))[j]? = some u → w0.cell? (a.add j) = some u := by
    intro w0 L0 o0 hk0 ho a ha' j u hu
    cases ha'
    rw [Addr.add_lit, ho]
    rw [List.getElem?_drop] at hu
    have hlt := (List.getElem?_eq_some_iff.1 hu).1
    exact hk0.cell (by rw [List.getElem?_append_left hlt]; exact hu)
  refine cs.mk (fun hg => ?_) (fun hroom => ?_)
  · have hg : s.cap < s.len + x.len := by
      have := of_decide_eq_true hg
      omega
    refine sb_at ha (by omega) (by omega) (by omega) (Int.le_refl _) fun s4 o4 ha4 hl4 hc4 ho4 _ => ?_
    have ho4 : o4 = 0 := by simpa using ho4
    subst ho4
    have hcnt : w64 (((s.len + x.len : Nat) : Int) - (n : Int)) = ((s.len + x.len - n : Nat) : Int) := by
      rw [show ((s.len + x.len : Nat) : Int) - (n : Int) = ((s.len + x.len - n : Nat) : Int) by omega]
      exact w64_i _ (by omega)
    rw [hcnt]
    have hk' : Ok e (pts b (vs.take (n * sz) ++ (vs.drop (n * sz) ++ post)) :: pts c (us ++ post2) :: L) w := by
      rw [← List.append_assoc, List.take_append_drop]; exact hk
    simp only [Int.toNat_natCast, Int.toNat_zero, Nat.sub_zero] at hl4 hc4
    refine ef.appendMake T hti hsz hk' ha4 (by rw [htl, hl4]) (by omega) (by omega) (by omega) fun s5 c5 w6 zs ps ha5 hl5 hc5 hzs hcap5 h6 => ?_
    dsimp only
    rw [← List.append_assoc (vs.take (n * sz)), List.take_append_drop] at h6
    have hl5 : s5.len = s.len + x.len := by omega
    refine sb_at ha5 (by omega) (by omega) (by omega) (Int.le_refl _) fun s7 o7 ha7 hl7 hc7 _ ho7 => ?_
    have ho7 := ho7 (by omega)
    simp only [Int.toNat_natCast] at ho7 hl7
    have hzl : zs.length = x.len * sz + (s.len - n) * sz := by
      rw [hzs, ← Nat.add_mul]
      congr 1
      omega
    refine ef.copyAt (us := us) (n := x.len) T h6 ha7 (by rw [show Nat.min x.len s7.len = min x.len s7.len from rfl]; omega) hlx (fun h => by rw [hxa] at h; cases h) (fun a ha' j u hu => ?_) hvx (by rw [ho7, htl]) (by omega) fun w9 h9 => ?_
    · rw [hxa] at ha'
      cases ha'
      rw [Addr.add_lit]
      have hlt := (List.getElem?_eq_some_iff.1 hu).1
      exact h6.p2.cell (by rw [Nat.zero_add, List.getElem?_append_left hlt]; exact hu)
    rw [← List.append_assoc] at h9
    refine dr.mk h9 fun w10 h9 => ?_
    refine sb_at ha5 (by omega) (by omega) (by omega) (Int.le_refl _) fun s11 o11 ha11 hl11 hc11 _ ho11 => ?_
    have ho11 := ho11 (by omega)
    simp only [Int.toNat_natCast] at ho11 hl11
    refine sb_at ha (by omega) (by omega) (by omega) (Int.le_refl _) fun s12 o12 ha12 hl12 hc12 _ ho12 => ?_
    have ho12 := ho12 (by omega)
    simp only [Int.toNat_natCast] at ho12 hl12
    have hzd : (zs.drop us.length).length = (s.len - n) * sz := by rw [List.length_drop, hzl, hlx]; omega
    have hA : (vs.take (n * sz) ++ us).length = o11 := by rw [List.length_append, htl, hlx, ho11, Nat.add_mul]
    refine ef.copyAt (us := vs.drop (n * sz)) (n := s.len - n) T h9 ha11 (by rw [show Nat.min s12.len s11.len = min s12.len s11.len from rfl]; omega) hdl (fun h => by rw [ha12] at h; cases h) (by rw [ha12]; exact hread h9.p1 ho12) hd1 hA.symm (by rw [hzd, hdl]; exact Nat.le_refl _) fun w14 h14 => ?_
    refine k s5 w14 hl5 ?_
    have hps : s5.cap * sz ≤ (s.len + x.len) * sz + ps.length := by
      refine Nat.le_trans hcap5 ?_
      rw [List.length_append, List.length_append, htl, hzl, Nat.add_mul, Nat.sub_mul]
      have : n * sz ≤ s.len * sz := Nat.mul_le_mul_right _ hn
      omega
    refine Ok.slcI (h14.p1.drop.p1.drop) ha5 (by rw [hflen, hl5]) hall hc5 ?_
    refine Nat.le_trans hps ?_
    rw [hflen, List.length_append]
    omega
  · have hroom : s.len + x.len ≤ s.cap := by
      have := of_decide_eq_false hroom
      omega
    refine sb_at ha (by omega) (by omega) (by omega) (Int.le_refl _) fun s15 o15 ha15 hl15 hc15 ho15 _ => ?_
    have ho15 : o15 = 0 := by simpa using ho15
    subst ho15
    simp only [Int.toNat_natCast, Int.toNat_zero, Nat.sub_zero] at hl15 hc15
    refine sb_at ha15 (by omega) (by omega) (by omega) (Int.le_refl _) fun s16 o16 ha16 hl16 hc16 _ ho16 => ?_
    have hne : vs ++ post ≠ [] := by
      intro h0
      have h1 := (List.append_eq_nil_iff.1 h0).1
      rw [h1] at hl
      have : 0 < s.len * sz := Nat.mul_pos (by omega) hsz
      simp only [List.length_nil] at hl
      omega
    obtain ⟨fn, tr, hf1, hf2, hf3, hf4, hf5⟩ := O.ex
    refine xt.overlaps hf1 hf2 hf3 hf4 hf5 T hk.p1 hxa ha16 hne ?_
    refine cs.yes rfl ?_
    refine dr.mk hk fun w19 hk => ?_
    refine sb_at ha15 (by omega) (by omega) (by omega) (Int.le_refl _) fun s20 o20 ha20 hl20 hc20 _ ho20 => ?_
    refine sb_at ha15 (by omega) (by omega) (by omega) (Int.le_refl _) fun s21 o21 ha21 hl21 hc21 _ ho21 => ?_
    have ho20 := ho20 (by omega)
    have ho21 := ho21 (by omega)
    simp only [Int.toNat_natCast] at ho20 hl20 ho21 hl21
    have htot : (s.len + x.len) * sz ≤ vs.length + post.length := Nat.le_trans (Nat.mul_le_mul_right _ hroom) hp
    have hsp : ((vs ++ post).take o20).length = o20 := by
      rw [List.length_take, List.length_append]
      have : o20 ≤ (s.len + x.len) * sz := by rw [ho20]; exact Nat.mul_le_mul_right _ (by omega)
      omega
    have hk2 : Ok e (pts b ((vs ++ post).take o20 ++ (vs ++ post).drop o20 ++ []) :: pts c (us ++ post2) :: L) w19 := by
      rw [List.append_nil, List.take_append_drop]; exact hk
    refine ef.copyAt (us := vs.drop (n * sz)) (n := s.len - n) T hk2 ha20 (by rw [show Nat.min s21.len s20.len = min s21.len s20.len from rfl]; omega) hdl (fun h => by rw [ha21] at h; cases h) (by rw [ha21]; exact hread hk ho21) hd1 hsp.symm ?_ fun w23 h23 => ?_
    · rw [hdl, List.length_drop, List.length_append, ho20, Nat.sub_mul, Nat.add_mul]
      rw [Nat.add_mul] at htot
      omega
    refine sb_at ha15 (by omega) (by omega) (by omega) (Int.le_refl _) fun s24 o24 ha24 hl24 hc24 _ ho24 => ?_
    have ho24 := ho24 (by omega)
    simp only [Int.toNat_natCast] at ho24 hl24
    have htk : (vs ++ post).take o20 = vs.take (n * sz) ++ ((vs ++ post).take o20).drop (n * sz) := by
      have h1 : ((vs ++ post).take o20).take (n * sz) = vs.take (n * sz) := by
        rw [List.take_take, Nat.min_eq_left (by rw [ho20, Nat.add_mul]; omega), List.take_append_of_le_length hin]
      rw [← h1, List.take_append_drop]
    have hdl2 : (((vs ++ post).take o20).drop (n * sz)).length = us.length := by
      rw [List.length_drop, hsp, ho20, hlx, Nat.add_mul]; omega
    rw [htk, List.append_assoc (vs.take (n * sz) ++ _)] at h23
    refine ef.copyAt (us := us) (n := x.len) T h23 ha24 (by rw [show Nat.min x.len s24.len = min x.len s24.len from rfl]; omega) hlx (fun h => by rw [hxa] at h; cases h) (fun a ha' j u hu => ?_) hvx (by rw [ho24, htl]) (by omega) fun w26 h26 => ?_
    · rw [hxa] at ha'
      cases ha'
      rw [Addr.add_lit]
      have hlt := (List.getElem?_eq_some_iff.1 hu).1
      exact h23.p1.cell (by rw [Nat.zero_add, List.getElem?_append_left hlt]; exact hu)
    refine k s15 w26 hl15 ?_
    rw [List.drop_eq_nil_of_le (Nat.le_of_eq hdl2), List.nil_append, ← List.append_assoc] at h26
    refine Ok.slcI (h26.p1.drop) ha15 (by rw [hflen, hl15]) hall (by omega) ?_
    rw [hflen, hc15]
    refine Nat.le_trans hp ?_
    simp only [List.length_append, List.length_drop, List.append_nil, hdl]
    have h5 : (s.len + x.len) * sz = s.len * sz + x.len * sz := Nat.add_mul ..
    have h6 : (s.len - n) * sz = s.len * sz - n * sz := Nat.sub_mul ..
    have h7 : o20 = n * sz + x.len * sz := by rw [ho20, Nat.add_mul]
    omega
end
end Go.Proofs.YtenonfkfoedfmaaGreatDoor.B


/- Parts of owned slices as what is appended. -/
namespace Go.Proofs.YtenonfkfoedfmaaGreatDoor.B
open Go
set_option linter.unusedVariables false
section
variable {e : World} {L : List SP} {w : World} {P : Program} {b o sz : Nat} {cs us vs ds post : List Value} {s d x : Sl}
theorem Ok.dropAll {L : List SP} : ∀ {M : List SP}, Ok e (M ++ L) w → Ok e L w
  | [], h => h
  | _ :: M, h => Ok.dropAll (M := M) (Ok.drop h)
theorem Ok.only {A : SP} {L : List SP} (h : Ok e (A :: L) w) : Ok e [A] w := (h.perm (List.perm_append_comm (l₁ := [A]) (l₂ := L))).dropAll
/-- a part of a slice -/
structure SubOf (s : Sl) (sz i j : Nat) (x : Sl) : Prop where
  len : x.len = j - i
  at' : i < j → ∃ b, s.a = some ⟨b, 0, none⟩ ∧ x.a = some ⟨b, i * sz, none⟩
theorem sb_sub {lo hi : Int} {f : Sl → Prop} (h : Ok e (slc sz s vs :: L) w) (h0 : 0 ≤ lo) (h1 : lo ≤ hi) (h2 : hi ≤ s.len) (k : ∀ x, SubOf s sz lo.toNat hi.toNat x → f x) : sb s lo hi s.cap sz f := by
  obtain ⟨-, -, hc, hcase⟩ := h.slcE
  rcases hcase with ⟨ha, hcap, -⟩ | ⟨b, post, ha, -, -⟩
  · refine ⟨h0, h1, by omega, Int.le_refl _, k _ ⟨by simp [Sl.sub], fun h => by omega⟩⟩
  · refine sb_at ha h0 h1 (by omega) (Int.le_refl _) fun s' o hs' hl hcp _ ho => k s' ⟨hl, fun hlt => ⟨b, ha, ?_⟩⟩
    rw [hs', ho (by omega)]
theorem ef.appendSub {t : TypeId} {i j : Nat} {K : TK [kS] → World → Prop} (T : SlT P t sz) (hsz : 0 < sz) (h : Ok e (slc sz d ds :: slc sz s vs :: L) w) (hx : SubOf s sz i j x) (hj : j ≤ s.len) (hb : d.len + s.len ≤ 2 ^ 31)
    (k : ∀ s' w', s'.len = d.len + (j - i) → Ok e (slc sz s' (ds ++ (vs.take (j * sz)).drop (i * sz)) :: slc sz s vs :: L) w' → K (s', ()) w') : ef P (Builtin.append_ #[t, t] t #[vS d, vS x]) [kS] w K := by
  have hl := h.p1.slc_len
  have hjs : j * sz ≤ vs.length := by rw [hl]; exact Nat.mul_le_mul_right _ hj
  have hul : ((vs.take (j * sz)).drop (i * sz)).length = x.len * sz := by
    rw [List.length_drop, List.length_take, hx.len, Nat.sub_mul]
    omega
  have hnil : ¬ i < j → (vs.take (j * sz)).drop (i * sz) = [] := fun h => List.eq_nil_of_length_eq_zero (by rw [hul, hx.len, show j - i = 0 by omega]; simp)
  refine ef.append T hsz h hul (fun ha => ?_) (fun a ha q u hu => ?_) (fun v hm => h.p1.slcE.2.1 v (List.mem_of_mem_take (List.mem_of_mem_drop hm))) (by rw [hx.len]; omega) fun s' w' hl' hk => k s' w' (by rw [hl', hx.len]) hk
  · refine hnil fun hlt => ?_
    obtain ⟨b, _, h2⟩ := hx.at' hlt
    rw [h2] at ha
    cases ha
  · by_cases hlt : i < j
    · obtain ⟨b, h1, h2⟩ := hx.at' hlt
      rw [h2] at ha
      cases ha
      rw [List.getElem?_drop] at hu
      have hq : i * sz + q < j * sz := by
        have := (List.getElem?_eq_some_iff.1 hu).1
        rw [List.length_take] at this
        omega
      rw [List.getElem?_take_of_lt hq] at hu
      have := h.p1.slc_cells h1 _ _ hu
      rw [Addr.add_lit] at this ⊢
      rw [Nat.zero_add] at this
      exact this
    · rw [hnil hlt] at hu
      simp at hu
end
/-! ### a list of parts out of another one: some are left out, the others stand in another order -/
inductive Sel (A : SP) : List SP → List SP → Prop
  | here (L : List SP) : Sel A (A :: L) L
  | there {B : SP} {L L' : List SP} (h : Sel A L L') : Sel A (B :: L) (B :: L')
theorem Sel.perm {A : SP} {L L' : List SP} (h : Sel A L L') : L.Perm (A :: L') := by
  induction h with
  | here L => exact List.Perm.refl _
  | there h ih => exact (ih.cons _).trans (List.Perm.swap ..)
inductive Emb : List SP → List SP → Prop
  | same (L : List SP) : Emb L L
  | nil (L : List SP) : Emb L []
  | cons {A : SP} {L L' M : List SP} (hs : Sel A L L') (h : Emb L' M) : Emb L (A :: M)
  | skip {A : SP} {L M : List SP} (h : Emb L M) : Emb (A :: L) M
theorem Emb.ok {L M : List SP} (m : Emb L M) : ∀ {h : Hp}, oksH L h → oksH M h := by
  induction m with
  | same L => intro h H; exact H
  | nil L => intro h _; trivial
  | cons hs _ ih =>
    intro h H
    obtain ⟨h1, h2, hd, e, hA, hL⟩ := oksH_perm hs.perm H
    exact ⟨h1, h2, hd, e, hA, ih hL⟩
  | skip _ ih =>
    intro h H
    obtain ⟨h1, h2, hd, rfl, hA, hL⟩ := H
    exact ih (oksH_le hL fun b o hb => by
      simp only [Hp.un]
      rcases hd b with e | e
      · simp [e, hb]
      · rw [hb] at e; cases e)
theorem Ok.emb {e : World} {L M : List SP} {w : World} (h : Ok e L w) (m : Emb L M) : Ok e M w := ⟨h.os, h.tape, h.output, m.ok h.heap⟩
theorem Ok.bring {e : World} {A : SP} {L L' : List SP} {w : World} (h : Ok e L w) (s : Sel A L L') : Ok e (A :: L') w := h.perm s.perm
theorem Ok.cellS {e : World} {L L' : List SP} {w : World} {b i : Nat} {cs : List Value} {v : Value} (h : Ok e L w) (s : Sel (pts b cs) L L') (hv : cs[i]? = some v) : w.cell? ⟨b, i, none⟩ = some v := (h.bring s).cell hv
theorem sl0 {A : SP} {L : List SP} : Sel A (A :: L) (L) := .here _
theorem sl1 {A B0 : SP} {L : List SP} : Sel A (B0 :: A :: L) (B0 :: L) := .there (.here _)
theorem sl2 {A B0 B1 : SP} {L : List SP} : Sel A (B0 :: B1 :: A :: L) (B0 :: B1 :: L) := .there (.there (.here _))
theorem sl3 {A B0 B1 B2 : SP} {L : List SP} : Sel A (B0 :: B1 :: B2 :: A :: L) (B0 :: B1 :: B2 :: L) := .there (.there (.there (.here _)))
theorem sl4 {A B0 B1 B2 B3 : SP} {L : List SP} : Sel A (B0 :: B1 :: B2 :: B3 :: A :: L) (B0 :: B1 :: B2 :: B3 :: L) := .there (.there (.there (.there (.here _))))
theorem sl5 {A B0 B1 B2 B3 B4 : SP} {L : List SP} : Sel A (B0 :: B1 :: B2 :: B3 :: B4 :: A :: L) (B0 :: B1 :: B2 :: B3 :: B4 :: L) := .there (.there (.there (.there (.there (.here _)))))
theorem sl6 {A B0 B1 B2 B3 B4 B5 : SP} {L : List SP} : Sel A (B0 :: B1 :: B2 :: B3 :: B4 :: B5 :: A :: L) (B0 :: B1 :: B2 :: B3 :: B4 :: B5 :: L) := .there (.there (.there (.there (.there (.there (.here _))))))
theorem sl7 {A B0 B1 B2 B3 B4 B5 B6 : SP} {L : List SP} : Sel A (B0 :: B1 :: B2 :: B3 :: B4 :: B5 :: B6 :: A :: L) (B0 :: B1 :: B2 :: B3 :: B4 :: B5 :: B6 :: L) := .there (.there (.there (.there (.there (.there (.there (.here _)))))))
theorem sl8 {A B0 B1 B2 B3 B4 B5 B6 B7 : SP} {L : List SP} : Sel A (B0 :: B1 :: B2 :: B3 :: B4 :: B5 :: B6 :: B7 :: A :: L) (B0 :: B1 :: B2 :: B3 :: B4 :: B5 :: B6 :: B7 :: L) := .there (.there (.there (.there (.there (.there (.there (.there (.here _))))))))
theorem sl9 {A B0 B1 B2 B3 B4 B5 B6 B7 B8 : SP} {L : List SP} : Sel A (B0 :: B1 :: B2 :: B3 :: B4 :: B5 :: B6 :: B7 :: B8 :: A :: L) (B0 :: B1 :: B2 :: B3 :: B4 :: B5 :: B6 :: B7 :: B8 :: L) := .there (.there (.there (.there (.there (.there (.there (.there (.there (.here _)))))))))
theorem sl10 {A B0 B1 B2 B3 B4 B5 B6 B7 B8 B9 : SP} {L : List SP} : Sel A (B0 :: B1 :: B2 :: B3 :: B4 :: B5 :: B6 :: B7 :: B8 :: B9 :: A :: L) (B0 :: B1 :: B2 :: B3 :: B4 :: B5 :: B6 :: B7 :: B8 :: B9 :: L) := .there (.there (.there (.there (.there (.there (.there (.there (.there (.there (.here _))))))))))
theorem sl11 {A B0 B1 B2 B3 B4 B5 B6 B7 B8 B9 B10 : SP} {L : List SP} : Sel A (B0 :: B1 :: B2 :: B3 :: B4 :: B5 :: B6 :: B7 :: B8 :: B9 :: B10 :: A :: L) (B0 :: B1 :: B2 :: B3 :: B4 :: B5 :: B6 :: B7 :: B8 :: B9 :: B10 :: L) := .there (.there (.there (.there (.there (.there (.there (.there (.there (.there (.there (.here _)))))))))))
theorem sl12 {A B0 B1 B2 B3 B4 B5 B6 B7 B8 B9 B10 B11 : SP} {L : List SP} : Sel A (B0 :: B1 :: B2 :: B3 :: B4 :: B5 :: B6 :: B7 :: B8 :: B9 :: B10 :: B11 :: A :: L) (B0 :: B1 :: B2 :: B3 :: B4 :: B5 :: B6 :: B7 :: B8 :: B9 :: B10 :: B11 :: L) := .there (.there (.there (.there (.there (.there (.there (.there (.there (.there (.there (.there (.here _))))))))))))
theorem sl13 {A B0 B1 B2 B3 B4 B5 B6 B7 B8 B9 B10 B11 B12 : SP} {L : List SP} : Sel A (B0 :: B1 :: B2 :: B3 :: B4 :: B5 :: B6 :: B7 :: B8 :: B9 :: B10 :: B11 :: B12 :: A :: L) (B0 :: B1 :: B2 :: B3 :: B4 :: B5 :: B6 :: B7 :: B8 :: B9 :: B10 :: B11 :: B12 :: L) := .there (.there (.there (.there (.there (.there (.there (.there (.there (.there (.there (.there (.there (.here _)))))))))))))
end Go.Proofs.YtenonfkfoedfmaaGreatDoor.B


/- Contracts of the package ctx. -/
namespace Go.Proofs.YtenonfkfoedfmaaGreatDoor.B
open Go
set_option linter.unusedVariables false

/-- where the kernel is -/
structure PlaceM where
  lv : List Int
  locked : Bool
  disabled : Bool
  deriving DecidableEq

namespace PlaceM

def inn (m : PlaceM) : Bool := decide ((m.lv.length : Int) > 0)

def dispatch (m : PlaceM) : Bool := !m.inn && !m.locked && !m.disabled

/-- the top level -/
def top (m : PlaceM) : Int := m.lv.getLast?.getD 0

def enter (m : PlaceM) (l : Int) : Int × PlaceM :=
  if l < 1 ∨ l > 15 then (-17, m)
  else if m.locked ∨ (m.inn ∧ l ≤ m.top) then (-25, m)
  else (0, { m with lv := m.lv ++ [l] })

def exit (m : PlaceM) : Int × PlaceM :=
  if m.inn then (0, { m with lv := m.lv.take (m.lv.length - 1) }) else (-25, m)

def ok3 (m : PlaceM) (k : Int) : Bool := if k = 3 then m.inn && !m.locked else false

def ok2 (m : PlaceM) (k : Int) (idle : Bool) : Bool := if k = 2 then ((!m.inn && !idle) && !m.locked) && !m.disabled else m.ok3 k

def ok1 (m : PlaceM) (k : Int) (idle : Bool) : Bool := if k = 1 then (!m.inn && !idle) && !m.locked else m.ok2 k idle

def ok4 (m : PlaceM) (k : Int) (idle : Bool) : Bool := if k = 4 then !m.inn && !idle else m.ok1 k idle

def ok (m : PlaceM) (k : Int) (idle : Bool) : Bool := if k = 0 then true else m.ok4 k idle

def may (m : PlaceM) (k : Int) (idle : Bool) : Int := if m.ok k idle then 0 else -25

end PlaceM

def placeP (p : Nat) (m : PlaceM) : SP := fun h => ∃ s, oksH [pts p [vS s, .bool m.locked, .bool m.disabled], slc 1 s (ints m.lv)] h

theorem placeE {e w L p m} (h : Ok e (placeP p m :: L) w) : ∃ s, s.len = m.lv.length ∧ Ok e (pts p [vS s, .bool m.locked, .bool m.disabled] :: slc 1 s (ints m.lv) :: L) w := by
  obtain ⟨s, h⟩ := h.exE
  have h := h.unpack
  refine ⟨s, ?_, h⟩
  have := h.p1.slc_len
  rw [ints_len] at this
  omega

theorem placeI {e w L p m s} (h : Ok e (pts p [vS s, .bool m.locked, .bool m.disabled] :: slc 1 s (ints m.lv) :: L) w) : Ok e (placeP p m :: L) w :=
  (Ok.pack (M := [pts p [vS s, .bool m.locked, .bool m.disabled], slc 1 s (ints m.lv)]) h).imp fun k hk => ⟨s, hk⟩

theorem New_ctx {e w L R} (h : Ok e L w) (k : ∀ p w', Ok e (placeP p ⟨[], false, false⟩ :: L) w' → R [.pointer (some ⟨p, 0, none⟩)] w') : sh99 R w := by
  unfold sh99
  refine al.mk h fun p w1 h => k p w1 ?_
  exact placeI (s := ⟨none, 0, 0⟩) (m := ⟨[], false, false⟩) (h.slcNil 1).p1

theorem In_ctx {e w L p m R} (h : Ok e (placeP p m :: L) w) (k : R [.bool m.inn] w) : sh128 (some ⟨p, 0, none⟩) R w := by
  obtain ⟨s, hs, h⟩ := placeE h
  unfold sh128
  (repeat (first | with_reducible refine nn.mk ?_ | ((first | with_reducible apply ldI.mk | with_reducible apply ldB.mk | with_reducible apply ldP.mk | with_reducible apply ldS.mk | with_reducible apply ldM.mk | with_reducible apply ldF.mk | with_reducible apply ldG.mk); (· exact (by refine Ok.cellS h (by with_reducible first | exact sl0 | exact .there sl0 | exact .there sl1 | exact .there sl2 | exact .there sl3 | exact .there sl4 | exact .there sl5 | exact .there sl6 | exact .there sl7 | exact .there sl8 | exact .there sl9 | exact .there sl10 | exact .there sl11 | exact .there sl12) ?_; rfl)))))
  rw [hs]; exact k

theorem Disabled_ctx {e w L p m R} (h : Ok e (placeP p m :: L) w) (k : R [.bool m.disabled] w) : sh166 (some ⟨p, 0, none⟩) R w := by
  obtain ⟨s, hs, h⟩ := placeE h
  unfold sh166
  (repeat (first | with_reducible refine nn.mk ?_ | ((first | with_reducible apply ldI.mk | with_reducible apply ldB.mk | with_reducible apply ldP.mk | with_reducible apply ldS.mk | with_reducible apply ldM.mk | with_reducible apply ldF.mk | with_reducible apply ldG.mk); (· exact (by refine Ok.cellS h (by with_reducible first | exact sl0 | exact .there sl0 | exact .there sl1 | exact .there sl2 | exact .there sl3 | exact .there sl4 | exact .there sl5 | exact .there sl6 | exact .there sl7 | exact .there sl8 | exact .there sl9 | exact .there sl10 | exact .there sl11 | exact .there sl12) ?_; rfl)))))
  exact k

theorem Lock_ctx {e w L p m b R} (h : Ok e (placeP p m :: L) w) (k : ∀ w', Ok e (placeP p { m with locked := b } :: L) w' → R [] w') : sh131 (some ⟨p, 0, none⟩) b R w := by
  obtain ⟨s, hs, h⟩ := placeE h
  unfold sh131
  (repeat (first | with_reducible refine nn.mk ?_ | ((first | with_reducible apply ldI.mk | with_reducible apply ldB.mk | with_reducible apply ldP.mk | with_reducible apply ldS.mk | with_reducible apply ldM.mk | with_reducible apply ldF.mk | with_reducible apply ldG.mk); (· exact (by refine Ok.cellS h (by with_reducible first | exact sl0 | exact .there sl0 | exact .there sl1 | exact .there sl2 | exact .there sl3 | exact .there sl4 | exact .there sl5 | exact .there sl6 | exact .there sl7 | exact .there sl8 | exact .there sl9 | exact .there sl10 | exact .there sl11 | exact .there sl12) ?_; rfl)))))
  refine st1.mk h (by simp) fun w1 h => k w1 (placeI (m := { m with locked := b }) h)

theorem Disable_ctx {e w L p m b R} (h : Ok e (placeP p m :: L) w) (k : ∀ w', Ok e (placeP p { m with disabled := b } :: L) w' → R [] w') : sh132 (some ⟨p, 0, none⟩) b R w := by
  obtain ⟨s, hs, h⟩ := placeE h
  unfold sh132
  (repeat (first | with_reducible refine nn.mk ?_ | ((first | with_reducible apply ldI.mk | with_reducible apply ldB.mk | with_reducible apply ldP.mk | with_reducible apply ldS.mk | with_reducible apply ldM.mk | with_reducible apply ldF.mk | with_reducible apply ldG.mk); (· exact (by refine Ok.cellS h (by with_reducible first | exact sl0 | exact .there sl0 | exact .there sl1 | exact .there sl2 | exact .there sl3 | exact .there sl4 | exact .there sl5 | exact .there sl6 | exact .there sl7 | exact .there sl8 | exact .there sl9 | exact .there sl10 | exact .there sl11 | exact .there sl12) ?_; rfl)))))
  refine st1.mk h (by simp) fun w1 h => k w1 (placeI (m := { m with disabled := b }) h)

theorem Dispatch_ctx {e w L p m R} (h : Ok e (placeP p m :: L) w) (k : R [.bool m.dispatch] w) : sh120 (some ⟨p, 0, none⟩) R w := by
  unfold sh120
  refine call128 (In_ctx h ⟨(m.inn, ()), rfl, ?_⟩)
  dsimp only
  obtain ⟨s, hs, h⟩ := placeE h
  refine jn.bool (!m.inn && !m.locked) (fun J hJ => cs.mk (fun h1 => ?_) (fun h1 => ?_)) ?_
  · (repeat (first | with_reducible refine nn.mk ?_ | ((first | with_reducible apply ldI.mk | with_reducible apply ldB.mk | with_reducible apply ldP.mk | with_reducible apply ldS.mk | with_reducible apply ldM.mk | with_reducible apply ldF.mk | with_reducible apply ldG.mk); (· exact (by refine Ok.cellS h (by with_reducible first | exact sl0 | exact .there sl0 | exact .there sl1 | exact .there sl2 | exact .there sl3 | exact .there sl4 | exact .there sl5 | exact .there sl6 | exact .there sl7 | exact .there sl8 | exact .there sl9 | exact .there sl10 | exact .there sl11 | exact .there sl12) ?_; rfl)))))
    simpa [show m.inn = false by simpa using h1] using hJ
  · simpa [show m.inn = true by simpa using h1] using hJ
  dsimp only
  refine jn.bool m.dispatch (fun J hJ => cs.mk (fun h1 => ?_) (fun h1 => ?_)) k
  · (repeat (first | with_reducible refine nn.mk ?_ | ((first | with_reducible apply ldI.mk | with_reducible apply ldB.mk | with_reducible apply ldP.mk | with_reducible apply ldS.mk | with_reducible apply ldM.mk | with_reducible apply ldF.mk | with_reducible apply ldG.mk); (· exact (by refine Ok.cellS h (by with_reducible first | exact sl0 | exact .there sl0 | exact .there sl1 | exact .there sl2 | exact .there sl3 | exact .there sl4 | exact .there sl5 | exact .there sl6 | exact .there sl7 | exact .there sl8 | exact .there sl9 | exact .there sl10 | exact .there sl11 | exact .there sl12) ?_; rfl)))))
    simpa [PlaceM.dispatch, h1] using hJ
  · simpa [PlaceM.dispatch, h1] using hJ

theorem may_ctx {e w L p m kd idle R} (h : Ok e (placeP p m :: L) w) (k : R [.bool (m.ok kd idle)] w) : sh129 (some ⟨p, 0, none⟩) kd idle R w := by
  unfold sh129
  refine call128 (In_ctx h ⟨(m.inn, ()), rfl, ?_⟩)
  dsimp only
  have h0 := h
  obtain ⟨s, hs, h⟩ := placeE h
  refine jn.bool (!m.inn && !idle) (fun J hJ => cs.mk (fun h1 => ?_) (fun h1 => ?_)) ?_
  · simpa [show m.inn = false by simpa using h1] using hJ
  · simpa [show m.inn = true by simpa using h1] using hJ
  dsimp only
  simp only [PlaceM.ok, PlaceM.ok4, PlaceM.ok1, PlaceM.ok2, PlaceM.ok3] at k
  refine cs.mk (fun h0 => ?_) (fun n0 => ?_)
  · rw [if_pos (by simpa using h0)] at k; exact k
  rw [if_neg (by simpa using n0)] at k
  refine cs.mk (fun h0 => ?_) (fun n1 => ?_)
  · rw [if_pos (by simpa using h0)] at k; exact k
  rw [if_neg (by simpa using n1)] at k
  refine cs.mk (fun h0 => ?_) (fun n2 => ?_)
  · rw [if_pos (by simpa using h0)] at k
    refine jn.bool ((!m.inn && !idle) && !m.locked) (fun J hJ => cs.mk (fun h1 => ?_) (fun h1 => ?_)) k
    · (repeat (first | with_reducible refine nn.mk ?_ | ((first | with_reducible apply ldI.mk | with_reducible apply ldB.mk | with_reducible apply ldP.mk | with_reducible apply ldS.mk | with_reducible apply ldM.mk | with_reducible apply ldF.mk | with_reducible apply ldG.mk); (· exact (by refine Ok.cellS h (by with_reducible first | exact sl0 | exact .there sl0 | exact .there sl1 | exact .there sl2 | exact .there sl3 | exact .there sl4 | exact .there sl5 | exact .there sl6 | exact .there sl7 | exact .there sl8 | exact .there sl9 | exact .there sl10 | exact .there sl11 | exact .there sl12) ?_; rfl)))))
      simpa [h1] using hJ
    · simpa [h1] using hJ
  rw [if_neg (by simpa using n2)] at k
  refine cs.mk (fun h0 => ?_) (fun n3 => ?_)
  · rw [if_pos (by simpa using h0)] at k
    refine jn.bool ((!m.inn && !idle) && !m.locked) (fun J hJ => cs.mk (fun h1 => ?_) (fun h1 => ?_)) ?_
    · (repeat (first | with_reducible refine nn.mk ?_ | ((first | with_reducible apply ldI.mk | with_reducible apply ldB.mk | with_reducible apply ldP.mk | with_reducible apply ldS.mk | with_reducible apply ldM.mk | with_reducible apply ldF.mk | with_reducible apply ldG.mk); (· exact (by refine Ok.cellS h (by with_reducible first | exact sl0 | exact .there sl0 | exact .there sl1 | exact .there sl2 | exact .there sl3 | exact .there sl4 | exact .there sl5 | exact .there sl6 | exact .there sl7 | exact .there sl8 | exact .there sl9 | exact .there sl10 | exact .there sl11 | exact .there sl12) ?_; rfl)))))
      simpa [h1] using hJ
    · simpa [h1] using hJ
    dsimp only
    refine jn.bool (((!m.inn && !idle) && !m.locked) && !m.disabled) (fun J hJ => cs.mk (fun h1 => ?_) (fun h1 => ?_)) k
    · (repeat (first | with_reducible refine nn.mk ?_ | ((first | with_reducible apply ldI.mk | with_reducible apply ldB.mk | with_reducible apply ldP.mk | with_reducible apply ldS.mk | with_reducible apply ldM.mk | with_reducible apply ldF.mk | with_reducible apply ldG.mk); (· exact (by refine Ok.cellS h (by with_reducible first | exact sl0 | exact .there sl0 | exact .there sl1 | exact .there sl2 | exact .there sl3 | exact .there sl4 | exact .there sl5 | exact .there sl6 | exact .there sl7 | exact .there sl8 | exact .there sl9 | exact .there sl10 | exact .there sl11 | exact .there sl12) ?_; rfl)))))
      simpa [h1] using hJ
    · simpa [h1] using hJ
  rw [if_neg (by simpa using n3)] at k
  refine cs.mk (fun h1 => ?_) (fun n4 => ?_)
  · rw [if_pos (by simpa using h1)] at k
    refine call128 (In_ctx h0 ⟨(m.inn, ()), rfl, ?_⟩)
    dsimp only
    refine jn.bool (m.inn && !m.locked) (fun J hJ => cs.mk (fun h1 => ?_) (fun h1 => ?_)) k
    · (repeat (first | with_reducible refine nn.mk ?_ | ((first | with_reducible apply ldI.mk | with_reducible apply ldB.mk | with_reducible apply ldP.mk | with_reducible apply ldS.mk | with_reducible apply ldM.mk | with_reducible apply ldF.mk | with_reducible apply ldG.mk); (· exact (by refine Ok.cellS h (by with_reducible first | exact sl0 | exact .there sl0 | exact .there sl1 | exact .there sl2 | exact .there sl3 | exact .there sl4 | exact .there sl5 | exact .there sl6 | exact .there sl7 | exact .there sl8 | exact .there sl9 | exact .there sl10 | exact .there sl11 | exact .there sl12) ?_; rfl)))))
      simpa [h1] using hJ
    · simpa [h1] using hJ
  · rw [if_neg (by simpa using n4)] at k; exact k

theorem May_ctx {e w L p m kd idle R} (h : Ok e (placeP p m :: L) w) (k : R [.int .i64 (m.may kd idle)] w) : sh78 (some ⟨p, 0, none⟩) kd idle R w := by
  unfold sh78
  (repeat (first | with_reducible refine nn.mk ?_ | ((first | with_reducible apply ldI.mk | with_reducible apply ldB.mk | with_reducible apply ldP.mk | with_reducible apply ldS.mk | with_reducible apply ldM.mk | with_reducible apply ldF.mk | with_reducible apply ldG.mk); (· exact (by refine Ok.cellS h (by with_reducible first | exact sl0 | exact .there sl0 | exact .there sl1 | exact .there sl2 | exact .there sl3 | exact .there sl4 | exact .there sl5 | exact .there sl6 | exact .there sl7 | exact .there sl8 | exact .there sl9 | exact .there sl10 | exact .there sl11 | exact .there sl12) ?_; rfl)))))
  refine call129 (may_ctx h ⟨(m.ok kd idle, ()), rfl, ?_⟩)
  dsimp only
  unfold PlaceM.may at k
  refine cs.mk (fun h1 => ?_) (fun h1 => ?_)
  · have h1 : m.ok kd idle = false := by simpa using h1
    rw [h1] at k; exact k
  · have h1 : m.ok kd idle = true := by simpa using h1
    rw [h1] at k; exact k

end Go.Proofs.YtenonfkfoedfmaaGreatDoor.B


/- Maps from whole numbers that are owned. -/
namespace Go.Proofs.YtenonfkfoedfmaaGreatDoor.B
open Go
open Go.MapKept (Stamped IsKey heap_set stamped_push stamped_modify stamped_erase stamped_empty isKey_modify findNow_spec)
set_option linter.unusedVariables false
def mapIs (es : Array MapEntry) (clock : Nat) (f : Int → Option Value) : Prop :=
  Stamped es clock ∧ (∀ x ∈ es.toList, IsKey (.int .i64) x.key) ∧ ∀ k v, f k = some v ↔ ∃ x ∈ es.toList, x.key = .int .i64 k ∧ x.val = v
/-- a map from whole numbers -/
def mpP (b : Nat) (f : Int → Option Value) : SP := fun h => ∃ es clock, h b = some (.map es clock) ∧ mapIs es clock f
def upd (f : Int → Option Value) (k : Int) (o : Option Value) : Int → Option Value := fun j => if j = k then o else f j
theorem upd_same (f : Int → Option Value) (k : Int) (o : Option Value) : upd f k o k = o := if_pos rfl
theorem upd_other {f : Int → Option Value} {k j : Int} {o : Option Value} (h : j ≠ k) : upd f k o j = f j := if_neg h
/-- what is known of a map's type -/
structure MapT (P : Program) (t : TypeId) (z : Value) : Prop where
  ex : ∃ kt el i, P.underlying t = some (.map kt el) ∧ P.underlying kt = some (.int .i64) ∧ P.info? el = some i ∧ i.zero = some z
def mapTok (P : Program) (t : TypeId) : Option Value :=
  match P.underlying t with
  | some (.map kt el) => match P.underlying kt with
    | some (.int .i64) => match P.info? el with
      | some i => i.zero
      | none => none
    | _ => none
  | _ => none
theorem MapT.of {P : Program} {t : TypeId} {z : Value} (h : mapTok P t = some z) : MapT P t z := by
  unfold mapTok at h
  split at h
  · rename_i kt el hu
    split at h
    · rename_i hk
      split at h
      · rename_i i hi
        exact ⟨kt, el, i, hu, hk, hi, h⟩
      · cases h
    · cases h
  · cases h
section
variable {P : Program} {e : World} {L : List SP} {w : World} {t : TypeId} {z : Value} {b : Nat} {f : Int → Option Value} {k : Int} {v : Value}
theorem Ok.mapE (h : Ok e (mpP b f :: L) w) : ∃ es clock, w.heap[b]? = some (.map es clock) ∧ mapIs es clock f := by
  obtain ⟨h1, h2, hd, he, ⟨es, clock, hb, hm⟩, hL⟩ := h.heap
  refine ⟨es, clock, ?_, hm⟩
  have := congrFun he b
  simp only [hpOf, Hp.un, hb] at this
  exact this
theorem Ok.mapSet {es : Array MapEntry} {clock : Nat} {g : Int → Option Value} (h : Ok e (mpP b f :: L) w) (hm : mapIs es clock g) : Ok e (mpP b g :: L) { w with heap := w.heap.setIfInBounds b (.map es clock) } := by
  obtain ⟨es0, clock0, hb, -⟩ := h.mapE
  have hs := heap_set (o' := .map es clock) hb
  refine ⟨h.os, h.tape, h.output, ?_⟩
  obtain ⟨h1, h2, hd, he, ⟨es1, clock1, hp, _⟩, hL⟩ := h.heap
  have h2b : h2 b = none := by
    rcases hd b with e | e
    · rw [hp] at e; cases e
    · exact e
  refine ⟨fun j => if j = b then some (.map es clock) else h1 j, h2, fun j => ?_, ?_, ⟨es, clock, by simp, hm⟩, hL⟩
  · by_cases hk : j = b
    · subst hk; exact .inr h2b
    · simpa [hk] using hd j
  · funext j
    have := congrFun he j
    simp only [hpOf, Hp.un] at this ⊢
    by_cases hk : j = b
    · subst hk; simp [hs.1]
    · simp only [hk, if_false]; rw [hs.2 j hk, this]
theorem mapIs_find {es : Array MapEntry} {clock : Nat} (h : mapIs es clock f) (k : Int) :
    (Instr.findNow (.int .i64) (.int .i64 k) es.toList 0 = some none ∧ f k = none ∧ ∀ x ∈ es.toList, x.key ≠ .int .i64 k) ∨ ∃ j x, Instr.findNow (.int .i64) (.int .i64 k) es.toList 0 = some (some (j, x.val)) ∧ es.toList[j]? = some x ∧ x.key = .int .i64 k ∧ f k = some x.val := by
  rcases findNow_spec (d := .int .i64) (k := .int .i64 k) rfl es.toList 0 h.2.1 with ⟨h1, h2⟩ | ⟨j, x, h1, h2, h3⟩
  · refine .inl ⟨h1, ?_, h2⟩
    cases hf : f k with
    | none => rfl
    | some v =>
      obtain ⟨x, hx, hk, _⟩ := (h.2.2 k v).1 hf
      exact absurd hk (h2 x hx)
  · exact .inr ⟨j, x, by simpa using h1, h2, h3, (h.2.2 k x.val).2 ⟨x, List.mem_of_getElem? h2, h3, rfl⟩⟩
theorem lookup_run (T : MapT P t z) (h : Ok e (mpP b f :: L) w) (c : Bool) : (Instr.lookup t (.map (some b)) (.int .i64 k) c).run P w = .ok (if c then .tuple #[(f k).getD z, .bool (f k).isSome] else (f k).getD z) w := by
  obtain ⟨kt, el, i, ht, hk, hi, hz⟩ := T.ex
  obtain ⟨es, clock, hb, hm⟩ := h.mapE
  have hc := MapKept.run_checkKey (P := P) (w := w) (k := .int .i64 k) hk rfl es.isEmpty 9999
  rcases mapIs_find hm k with ⟨h1, h2, _⟩ | ⟨j, x, h1, _, _, h2⟩
  · have hf := MapKept.run_findKey (P := P) (w := w) hk h1
    simp [Instr.lookup, run_underlying ht, MapKept.run_getObj_map hb, hc, hf, zeroValue, typeInfo, hi, hz, h2]
  · have hf := MapKept.run_findKey (P := P) (w := w) hk h1
    simp [Instr.lookup, run_underlying ht, MapKept.run_getObj_map hb, hc, hf, h2]
theorem ef.lookup {ks : List Kd} {K : TK ks → World → Prop} (T : MapT P t z) (h : Ok e (mpP b f :: L) w) (x : TK ks) (hx : ret1 (encK ks x) = (f k).getD z) (kk : K x w) : ef P (Instr.lookup t (.map (some b)) (.int .i64 k) false) ks w K :=
  ⟨x, w, by rw [lookup_run T h, hx]; rfl, kk⟩
theorem ef.lookupOk {ks : List Kd} {K : TK ks → World → Prop} (T : MapT P t z) (h : Ok e (mpP b f :: L) w) (x : TK ks) (hx : ret1 (encK ks x) = .tuple #[(f k).getD z, .bool (f k).isSome]) (kk : K x w) : ef P (Instr.lookup t (.map (some b)) (.int .i64 k) true) ks w K :=
  ⟨x, w, by rw [lookup_run T h, hx]; rfl, kk⟩
theorem mapIs_upd {es es' : Array MapEntry} {clock clock' : Nat} (h : mapIs es clock f) (hs : Stamped es' clock') (hk : ∀ x ∈ es'.toList, IsKey (.int .i64) x.key) {o : Option Value}
    (h1 : ∀ v, o = some v ↔ ∃ x ∈ es'.toList, x.key = .int .i64 k ∧ x.val = v) (h2 : ∀ x, x.key ≠ .int .i64 k → (x ∈ es'.toList ↔ x ∈ es.toList)) : mapIs es' clock' (upd f k o) := by
  refine ⟨hs, hk, fun j v => ?_⟩
  by_cases hj : j = k
  · subst hj
    rw [upd_same]; exact h1 v
  · rw [upd_other hj, h.2.2 j v]
    have hne : ∀ x : MapEntry, x.key = .int .i64 j → x.key ≠ .int .i64 k := fun x hx he => by rw [hx] at he; cases he; exact hj rfl
    constructor
    · rintro ⟨x, hx, hxk, hv⟩; exact ⟨x, (h2 x (hne x hxk)).2 hx, hxk, hv⟩
    · rintro ⟨x, hx, hxk, hv⟩; exact ⟨x, (h2 x (hne x hxk)).1 hx, hxk, hv⟩
theorem efU.mapUpdate {K : World → Prop} (T : MapT P t z) (h : Ok e (mpP b f :: L) w) (kk : ∀ w', Ok e (mpP b (upd f k (some v)) :: L) w' → K w') : efU P (Instr.mapUpdate t (.map (some b)) (.int .i64 k) v) w K := by
  obtain ⟨kt, el, i, ht, hk, hi, hz⟩ := T.ex
  obtain ⟨es, clock, hb, hm⟩ := h.mapE
  have hc := MapKept.run_checkKey (P := P) (w := w) (k := .int .i64 k) hk rfl false 9999
  rcases mapIs_find hm k with ⟨h1, h2, h3⟩ | ⟨j, x, h1, hj, hxk, h2⟩
  · have hf := MapKept.run_findKey (P := P) (w := w) hk h1
    refine ⟨{ w with heap := w.heap.setIfInBounds b (.map (es.push { key := .int .i64 k, val := v, born := clock }) (clock + 1)) }, ?_, kk _ (h.mapSet ?_)⟩
    · simp [Instr.mapUpdate, run_underlying ht, MapKept.run_getObj_map hb, hc, hf, MapKept.run_setObj_map _ hb]
    · refine mapIs_upd hm (stamped_push hm.1 h3) (fun x hx => ?_) (fun u => ?_) (fun x hx => ?_)
      · simp only [Array.toList_push, List.mem_append, List.mem_singleton] at hx
        rcases hx with hx | rfl
        · exact hm.2.1 x hx
        · rfl
      · simp only [Array.toList_push, List.mem_append, List.mem_singleton, Option.some.injEq]
        constructor
        · rintro rfl; exact ⟨_, .inr rfl, rfl, rfl⟩
        · rintro ⟨x, hx | rfl, hxk, rfl⟩
          · exact absurd hxk (h3 x hx)
          · rfl
      · simp only [Array.toList_push, List.mem_append, List.mem_singleton]
        constructor
        · rintro (h | rfl)
          · exact h
          · exact absurd rfl hx
        · exact .inl
  · have hf := MapKept.run_findKey (P := P) (w := w) hk h1
    have hj' : es[j]? = some x := by simpa using hj
    refine ⟨{ w with heap := w.heap.setIfInBounds b (.map (es.modify j fun e => { e with key := .int .i64 k, val := v }) clock) }, ?_, kk _ (h.mapSet ?_)⟩
    · simp [Instr.mapUpdate, run_underlying ht, MapKept.run_getObj_map hb, hc, hf, hj', hxk, Instr.keyThatStays, Instr.sameBits, MapKept.run_setObj_map _ hb]
    · have hkey : ∀ e', es[j]? = some e' → ({ e' with key := .int .i64 k, val := v } : MapEntry).key = e'.key := fun e' he' => by rw [hj'] at he'; cases he'; exact hxk.symm
      have hjl : j < es.size := (Array.getElem?_eq_some_iff.1 hj').1
      have hmem : ∀ y, y ∈ (es.modify j fun e => { e with key := .int .i64 k, val := v }).toList ↔ (∃ i, i ≠ j ∧ es.toList[i]? = some y) ∨ y = { x with key := .int .i64 k, val := v } := by
        intro y
        rw [List.mem_iff_getElem?]
        constructor
        · rintro ⟨i, hi⟩
          rw [Array.getElem?_toList, Array.getElem?_modify] at hi
          by_cases hij : j = i
          · subst hij
            rw [if_pos rfl, hj'] at hi
            simp only [Option.map_some, Option.some.injEq] at hi
            exact .inr hi.symm
          · rw [if_neg hij] at hi
            exact .inl ⟨i, fun h => hij h.symm, by simpa using hi⟩
        · rintro (⟨i, hij, hi⟩ | rfl)
          · refine ⟨i, ?_⟩
            rw [Array.getElem?_toList, Array.getElem?_modify, if_neg (fun h => hij h.symm)]
            simpa using hi
          · refine ⟨j, ?_⟩
            rw [Array.getElem?_toList, Array.getElem?_modify, if_pos rfl, hj']
            rfl
      have huniq : ∀ i y, es.toList[i]? = some y → y.key = .int .i64 k → i = j := fun i y hi hy => by
        have hnd := hm.1.2.2
        have hi1 : (es.toList.map (·.key))[i]? = some (.int .i64 k) := by rw [List.getElem?_map, hi]; simp [hy]
        have hj1 : (es.toList.map (·.key))[j]? = some (.int .i64 k) := by rw [List.getElem?_map, hj]; simp [hxk]
        obtain ⟨hi2, hi3⟩ := List.getElem?_eq_some_iff.1 hi1
        obtain ⟨hj2, hj3⟩ := List.getElem?_eq_some_iff.1 hj1
        exact (List.getElem_inj hnd).1 (hi3.trans hj3.symm)
      refine mapIs_upd hm (stamped_modify hm.1 j (fun e => { e with key := .int .i64 k, val := v }) (fun _ _ => rfl) (fun e' _ he' => hkey e' he')) (isKey_modify hm.2.1 j (fun e => { e with key := .int .i64 k, val := v }) hkey) (fun u => ?_) (fun y hy => ?_)
      · constructor
        · rintro h; cases h; exact ⟨_, (hmem _).2 (.inr rfl), rfl, rfl⟩
        · rintro ⟨y, hy, hyk, rfl⟩
          rcases (hmem y).1 hy with ⟨i, hij, hi⟩ | rfl
          · exact absurd (huniq i y hi hyk) hij
          · rfl
      · rw [hmem y]
        constructor
        · rintro (⟨i, _, hi⟩ | rfl)
          · exact List.mem_of_getElem? hi
          · exact absurd rfl hy
        · intro hy2
          obtain ⟨i, hi⟩ := List.mem_iff_getElem?.1 hy2
          refine .inl ⟨i, fun hij => ?_, hi⟩
          subst hij
          rw [hj] at hi
          cases hi
          exact hy hxk
theorem ef.delete {ty kt : TypeId} {K : TK [] → World → Prop} (T : MapT P t z) (h : Ok e (mpP b f :: L) w) (kk : ∀ w', Ok e (mpP b (upd f k none) :: L) w' → K () w') : ef P (Builtin.delete_ #[t, kt] ty #[.map (some b), .int .i64 k]) [] w K := by
  obtain ⟨kt', el, i, ht, hk, hi, hz⟩ := T.ex
  obtain ⟨es, clock, hb, hm⟩ := h.mapE
  have hc := MapKept.run_checkKey (P := P) (w := w) (k := .int .i64 k) hk rfl es.isEmpty 9999
  rcases mapIs_find hm k with ⟨h1, h2, h3⟩ | ⟨j, x, h1, hj, hxk, h2⟩
  · have hf := MapKept.run_findKey (P := P) (w := w) hk h1
    refine ⟨(), { w with heap := w.heap.setIfInBounds b (.map es clock) }, ?_, kk _ (h.mapSet ?_)⟩
    · simp [Builtin.delete_, run_underlying ht, MapKept.run_getObj_map hb, hc, hf, MapKept.run_setObj_map _ hb, ret1, encK]
    · refine mapIs_upd hm hm.1 hm.2.1 (fun u => ?_) (fun x _ => Iff.rfl)
      constructor
      · intro h; cases h
      · rintro ⟨x, hx, hxk, _⟩; exact absurd hxk (h3 x hx)
  · have hf := MapKept.run_findKey (P := P) (w := w) hk h1
    have hj' : es[j]? = some x := by simpa using hj
    have hjl : j < es.size := (Array.getElem?_eq_some_iff.1 hj').1
    refine ⟨(), { w with heap := w.heap.setIfInBounds b (.map (es.eraseIdxIfInBounds j) clock) }, ?_, kk _ (h.mapSet ?_)⟩
    · simp [Builtin.delete_, run_underlying ht, MapKept.run_getObj_map hb, hc, hf, MapKept.run_setObj_map _ hb, ret1, encK]
    · have hel : (es.eraseIdxIfInBounds j).toList = es.toList.eraseIdx j := by simp [Array.eraseIdxIfInBounds, hjl]
      have hsub : (es.toList.eraseIdx j).Sublist es.toList := List.eraseIdx_sublist _ _
      have hnd := hm.1.2.2
      have huniq : ∀ i y, es.toList[i]? = some y → y.key = .int .i64 k → i = j := fun i y hi hy => by
        have hi1 : (es.toList.map (·.key))[i]? = some (.int .i64 k) := by rw [List.getElem?_map, hi]; simp [hy]
        have hj1 : (es.toList.map (·.key))[j]? = some (.int .i64 k) := by rw [List.getElem?_map, hj]; simp [hxk]
        obtain ⟨hi2, hi3⟩ := List.getElem?_eq_some_iff.1 hi1
        obtain ⟨hj2, hj3⟩ := List.getElem?_eq_some_iff.1 hj1
        exact (List.getElem_inj hnd).1 (hi3.trans hj3.symm)
      refine mapIs_upd hm (stamped_erase hm.1 j) (fun x hx => hm.2.1 x (hsub.subset (by rw [← hel]; exact hx))) (fun u => ?_) (fun y hy => ?_)
      · constructor
        · intro h; cases h
        · rintro ⟨y, hy, hyk, _⟩
          rw [hel] at hy
          obtain ⟨i, hi⟩ := List.mem_iff_getElem?.1 hy
          rw [List.getElem?_eraseIdx] at hi
          split at hi
          · have := huniq i y hi hyk; omega
          · have := huniq (i + 1) y hi hyk; omega
      · rw [hel]
        constructor
        · intro h; exact hsub.subset h
        · intro hy2
          obtain ⟨i, hi⟩ := List.mem_iff_getElem?.1 hy2
          rw [List.mem_iff_getElem?]
          rcases Nat.lt_trichotomy i j with hij | hij | hij
          · exact ⟨i, by rw [List.getElem?_eraseIdx, if_pos hij]; exact hi⟩
          · subst hij
            rw [hj] at hi
            cases hi
            exact absurd hxk hy
          · exact ⟨i - 1, by rw [List.getElem?_eraseIdx, if_neg (by omega), show i - 1 + 1 = i by omega]; exact hi⟩
theorem Ok.mapNew {es : Array MapEntry} {clock : Nat} (h : Ok e L w) (hm : mapIs es clock f) : Ok e (mpP w.heap.size f :: L) (w.alloc (.map es clock)) := by
  refine ⟨h.os, h.tape, h.output, fun k => if k = w.heap.size then some (.map es clock) else none, hpOf w, fun k => ?_, ?_, ⟨es, clock, by simp, hm⟩, h.heap⟩
  · by_cases hk : k = w.heap.size
    · subst hk; right; simp [hpOf]
    · left; simp [hk]
  · funext k
    simp only [hpOf, World.alloc, Hp.un, Array.getElem?_push]
    by_cases hk : k = w.heap.size <;> simp [hk]
theorem mapIs_empty : mapIs #[] 0 fun _ => none := ⟨stamped_empty 0, by simp, by simp⟩
theorem ef.makeMap {K : TK [kM] → World → Prop} (h : Ok e L w) (kk : ∀ b w', Ok e (mpP b (fun _ => none) :: L) w' → K (some b, ()) w') : ef P (Instr.makeMap t none) [kM] w K :=
  ⟨(some w.heap.size, ()), w.alloc (.map #[] 0), by simp [Instr.makeMap, ret1, encK]; rfl, kk _ _ (h.mapNew mapIs_empty)⟩
theorem ef.assertMap {K : TK [kM] → World → Prop} {u : TypeId} {m : Option Nat} (T : MapT P t z) (kk : K (m, ()) w) : ef P (Instr.typeAssert (.iface t (.map m)) u t false) [kM] w K := by
  obtain ⟨kt, el, i, ht, hk, hi, hz⟩ := T.ex
  exact ⟨(m, ()), w, by simp [Instr.typeAssert, run_underlying ht, ret1, encK]; rfl, kk⟩
/-- 'maps.clone' -/
structure McT (P : Program) (f : FuncId) : Prop where
  ex : ∃ fn, P.funcs[f]? = some fn ∧ (fn.name == "runtime.NumGoroutine") = false ∧ fn.body.isNone = true ∧ Extern.findNext fn = none ∧ Extern.find fn = some Extern.MapsClone.clone
theorem xt.mapClone {fid : FuncId} {ty : TypeId} {K : TK [.l .n] → World → Prop} (T : McT P fid) (h : Ok e (mpP b f :: L) w) (kk : ∀ b' w', Ok e (mpP b' f :: mpP b f :: L) w' → K ((⟨ty, .map (some b')⟩ : Iv), ()) w') : xt P fid [.iface ty (.map (some b))] [.l .n] w K := by
  obtain ⟨fn, hf, hname, hb, hn, he⟩ := T.ex
  obtain ⟨es, clock, hbl, hm⟩ := h.mapE
  refine ⟨((⟨ty, .map (some w.heap.size)⟩ : Iv), ()), w.alloc (.map es clock), ?_, kk _ _ (h.mapNew hm)⟩
  have hc : Extern.MapsClone.clone #[.iface ty (.map (some b))] = (getObj b >>= fun o => match o with | .map entries clock => (newObj (.map entries clock) >>= fun r => pure (.iface ty (.map (some r)))) | _ => stuck "maps.clone: a map expected") := rfl
  have hr : (Extern.MapsClone.clone #[.iface ty (.map (some b))]).run P w = .ok (.iface ty (.map (some w.heap.size))) (w.alloc (.map es clock)) := by
    rw [hc, Sem.run_bind, MapKept.run_getObj_map hbl]
    rfl
  have := run_callFunc_extern hf hname hb hn he #[.iface ty (.map (some b))] w
  rw [show [Value.iface ty (.map (some b))].toArray = #[.iface ty (.map (some b))] from rfl, this, hr]
  rfl
end
end Go.Proofs.YtenonfkfoedfmaaGreatDoor.B


/- Contracts of the package order: rows of pairs (who, priority). -/
namespace Go.Proofs.YtenonfkfoedfmaaGreatDoor.B
open Go
set_option linter.unusedVariables false

def prs (l : List (Int × Int)) : List Value := l.flatMap fun p => [.int .i64 p.1, .int .i64 p.2]

theorem prs_cons (p : Int × Int) (l : List (Int × Int)) : prs (p :: l) = .int .i64 p.1 :: .int .i64 p.2 :: prs l := rfl

theorem prs_append (l m : List (Int × Int)) : prs (l ++ m) = prs l ++ prs m := by simp [prs]

theorem prs_len (l : List (Int × Int)) : (prs l).length = l.length * 2 := by
  induction l with
  | nil => rfl
  | cons p l ih => rw [prs_cons]; simp only [List.length_cons, ih]; omega

theorem prs_take (l : List (Int × Int)) (n : Nat) : (prs l).take (n * 2) = prs (l.take n) := by
  induction l generalizing n with
  | nil => simp [prs]
  | cons p l ih =>
    cases n with
    | zero => simp [prs]
    | succ n => rw [show (n + 1) * 2 = n * 2 + 1 + 1 by omega, List.take_succ_cons, prs_cons, prs_cons, List.take_succ_cons, List.take_succ_cons, ih]

theorem prs_drop (l : List (Int × Int)) (n : Nat) : (prs l).drop (n * 2) = prs (l.drop n) := by
  induction l generalizing n with
  | nil => simp [prs]
  | cons p l ih =>
    cases n with
    | zero => simp [prs]
    | succ n => rw [show (n + 1) * 2 = n * 2 + 1 + 1 by omega, List.drop_succ_cons, prs_cons, List.drop_succ_cons, List.drop_succ_cons, ih]

theorem prs_get {l : List (Int × Int)} {i : Nat} {p : Int × Int} (h : l[i]? = some p) : (prs l)[i * 2]? = some (.int .i64 p.1) ∧ (prs l)[i * 2 + 1]? = some (.int .i64 p.2) := by
  induction l generalizing i with
  | nil => simp at h
  | cons q l ih =>
    cases i with
    | zero => simp at h; subst h; exact ⟨rfl, rfl⟩
    | succ i =>
      have := ih (i := i) (by simpa using h)
      rw [prs_cons, show (i + 1) * 2 = i * 2 + 1 + 1 by omega]
      simpa using this

theorem slc_prs_len {e w L s l} (h : Ok e (slc 2 s (prs l) :: L) w) : s.len = l.length := by
  have := h.slc_len
  rw [prs_len] at this
  omega

/-- an element of a row of pairs -/
theorem ix_pr {e w L s l} {i : Int} {f : Nat → Nat → Prop} (h : Ok e (slc 2 s (prs l) :: L) w) (h0 : 0 ≤ i) (h1 : i < l.length)
    (k : ∀ b o p, l[i.toNat]? = some p → s.a = some ⟨b, 0, none⟩ → o = i.toNat * 2 → (∀ w', (∃ L', Ok e (slc 2 s (prs l) :: L') w') → w'.cell? ⟨b, o, none⟩ = some (.int .i64 p.1)) → (∀ w', (∃ L', Ok e (slc 2 s (prs l) :: L') w') → w'.cell? ⟨b, o + 1, none⟩ = some (.int .i64 p.2)) → f b o) : ix s i 2 f := by
  have hl := slc_prs_len h
  obtain ⟨-, -, hc, hcase⟩ := h.slcE
  rcases hcase with ⟨ha, hcap, hL⟩ | ⟨b, post, ha, hp, hk⟩
  · omega
  · have hlt : i.toNat < l.length := by omega
    have hg := prs_get (List.getElem?_eq_getElem hlt)
    refine ⟨b, 0, ha, h0, by omega, k b _ _ (List.getElem?_eq_getElem hlt) ha (by omega) ?_ ?_⟩
    · rintro w' ⟨L', h'⟩
      have := h'.slc_cells ha _ _ hg.1
      rw [Addr.add_lit] at this
      exact this
    · rintro w' ⟨L', h'⟩
      have := h'.slc_cells ha _ _ hg.2
      rw [Addr.add_lit] at this
      exact this

/-- where someone stands -/
def atI (l : List (Int × Int)) (id : Int) : Int := match l.findIdx? (fun p => p.1 == id) with
  | some i => (i : Int)
  | none => -1

theorem atI_none {l : List (Int × Int)} {id : Int} (h : ∀ p ∈ l, p.1 ≠ id) : atI l id = -1 := by
  have : l.findIdx? (fun p => p.1 == id) = none := by
    rw [List.findIdx?_eq_none_iff]
    intro p hp
    simpa using h p hp
  simp [atI, this]

theorem atI_some {l : List (Int × Int)} {id : Int} {n : Nat} {p : Int × Int} (h : l[n]? = some p) (hp : p.1 = id) (hn : ∀ m, m < n → ∀ q, l[m]? = some q → q.1 ≠ id) : atI l id = n := by
  have : l.findIdx? (fun p => p.1 == id) = some n := by
    rw [List.findIdx?_eq_some_iff_getElem]
    have hlt := (List.getElem?_eq_some_iff.1 h).1
    have hv := (List.getElem?_eq_some_iff.1 h).2
    refine ⟨hlt, by rw [hv]; simpa using hp, fun j hj => ?_⟩
    have := hn j hj _ (List.getElem?_eq_getElem (by omega))
    simpa using this
  simp [atI, this]

theorem atI_lt {l : List (Int × Int)} {id : Int} (h : 0 ≤ atI l id) : (atI l id).toNat < l.length ∧ ∃ p, l[(atI l id).toNat]? = some p ∧ p.1 = id := by
  unfold atI at h ⊢
  split at h
  · next i hi =>
    obtain ⟨hlt, hp, _⟩ := List.findIdx?_eq_some_iff_getElem.1 hi
    exact ⟨by simpa using hlt, l[i], List.getElem?_eq_getElem hlt, by simpa using hp⟩
  · omega

theorem atI_bd (l : List (Int × Int)) (id : Int) : -1 ≤ atI l id ∧ (atI l id < 0 → atI l id = -1) := by
  unfold atI
  split <;> constructor <;> omega

theorem slT_item : SlT Pg 108 2 := .of (by kernel_rfl)

theorem Delete_item {e w L s l R} {i : Int} (h : Ok e (slc 2 s (prs l) :: L) w) (hi : 0 ≤ i) (hil : i < l.length) (hb : l.length ≤ 2 ^ 31)
    (k : ∀ s' w', Ok e (slc 2 s' (prs (l.take i.toNat ++ l.drop (i.toNat + 1))) :: L) w' → R [vS s'] w') : sh193 s i (i + 1) R w := by
  unfold sh193
  have hl := slc_prs_len h
  refine del_body slT_item (by decide) h hi (by omega) (by omega) (by omega) fun s' w' _ h' => k s' w' ?_
  rw [prs_append, ← prs_take, ← prs_drop]
  rw [show (i + 1).toNat = i.toNat + 1 by omega] at h'
  exact h'

end Go.Proofs.YtenonfkfoedfmaaGreatDoor.B


/- Contracts of order.Line and order.Queue. -/
namespace Go.Proofs.YtenonfkfoedfmaaGreatDoor.B
open Go
set_option linter.unusedVariables false

/-- the line without the one that stands at a place -/
def rmAt (l : List (Int × Int)) (i : Nat) : List (Int × Int) := l.take i ++ l.drop (i + 1)

def rmL (l : List (Int × Int)) (id : Int) : List (Int × Int) := if atI l id < 0 then l else rmAt l (atI l id).toNat

def priL (l : List (Int × Int)) (id : Int) : Int := if atI l id < 0 then 0 else (l[(atI l id).toNat]?.getD (0, 0)).2

/-- where a newcomer is put -/
def pp (l : List (Int × Int)) (y : Int) : Nat → Nat
  | 0 => 0
  | n + 1 => if y < (l[n]?.getD (0, 0)).2 then pp l y n else n + 1

theorem pp_le (l : List (Int × Int)) (y : Int) (n : Nat) : pp l y n ≤ n := by
  induction n with
  | zero => exact Nat.le_refl _
  | succ n ih => unfold pp; split <;> omega

def putK (byPri : Bool) (l : List (Int × Int)) (y : Int) : Nat := if byPri then pp l y l.length else l.length

theorem putK_le (byPri : Bool) (l : List (Int × Int)) (y : Int) : putK byPri l y ≤ l.length := by
  unfold putK; split
  · exact pp_le ..
  · exact Nat.le_refl _

def putL (byPri : Bool) (l : List (Int × Int)) (x : Int × Int) : List (Int × Int) := l.take (putK byPri l x.2) ++ [x] ++ l.drop (putK byPri l x.2)

def addL (byPri : Bool) (l : List (Int × Int)) (id pri : Int) : Int × List (Int × Int) :=
  if id < 1 ∨ id > 16 ∨ pri < 1 ∨ pri > 16 then (-17, l) else if 0 ≤ atI l id then (-41, l) else (0, putL byPri l (id, pri))

def chgL (byPri : Bool) (l : List (Int × Int)) (id pri : Int) : Bool × List (Int × Int) :=
  if atI l id < 0 ∨ pri < 1 ∨ pri > 16 then (false, l) else if byPri then (true, putL byPri (rmL l id) (id, pri)) else (true, l.set (atI l id).toNat (id, pri))

theorem putL_len (byPri : Bool) (l : List (Int × Int)) (x : Int × Int) : (putL byPri l x).length = l.length + 1 := by
  have := putK_le byPri l x.2
  simp [putL]; omega

def lineP (p : Nat) (rest : List Value) (l : List (Int × Int)) : SP := fun h => ∃ s, oksH [pts p (vS s :: rest), slc 2 s (prs l)] h

theorem lineE {e w L p rest l} (h : Ok e (lineP p rest l :: L) w) : ∃ s, s.len = l.length ∧ Ok e (pts p (vS s :: rest) :: slc 2 s (prs l) :: L) w := by
  obtain ⟨s, h⟩ := h.exE
  have h := h.unpack
  exact ⟨s, slc_prs_len h.p1, h⟩

theorem lineI {e w L p rest l s} (h : Ok e (pts p (vS s :: rest) :: slc 2 s (prs l) :: L) w) : Ok e (lineP p rest l :: L) w :=
  (Ok.pack (M := [pts p (vS s :: rest), slc 2 s (prs l)]) h).imp fun k hk => ⟨s, hk⟩

theorem IndexFunc_at {e w L s l c id R} (h : Ok e (slc 2 s (prs l) :: pts c [.int .i64 id] :: L) w) (hb : l.length ≤ 2 ^ 31)
    (k : ∀ w', Ok e (slc 2 s (prs l) :: pts c [.int .i64 id] :: L) w' → R [.int .i64 (atI l id)] w') : sh225 s ⟨226, [], [.pointer (some ⟨c, 0, none⟩)]⟩ R w := by
  unfold sh225
  have hl := slc_prs_len h
  refine lp.mk (fun t w' => ∃ n : Nat, t.1 = (n : Int) ∧ n ≤ l.length ∧ (∀ m, m < n → ∀ q, l[m]? = some q → q.1 ≠ id) ∧ Ok e (slc 2 s (prs l) :: pts c [.int .i64 id] :: L) w')
    (fun t _ => l.length - t.1.toNat) ⟨0, rfl, Nat.zero_le _, fun m hm => absurd hm (Nat.not_lt_zero _), h⟩ ?_
  rintro ⟨i, _⟩ w1 ⟨n, hn, hnl, hno, h⟩
  dsimp only at hn
  subst hn
  refine cs.mk (fun hlt => ?_) (fun hge => ?_)
  · have hlt : n < l.length := by have := of_decide_eq_true hlt; dsimp only at this; omega
    refine ix_pr h (by simp) (by simpa using hlt) fun b o p hp ha ho hc1 hc2 => ?_
    refine ldI.mk (hc1 _ ⟨_, h⟩) (ldI.mk (hc2 _ ⟨_, h⟩) ?_)
    refine ob.mk (by kernel_rfl) ?_
    have hp : l[n]? = some p := by simpa using hp
    refine call226 (a0 := (p.1, p.2, ())) (c0 := c) ?_
    unfold sh226
    refine al.mk h fun b1 w2 h => ?_
    refine ldI.mk (h.cell rfl) (ldI.mk (h.p2.cell rfl) ?_)
    refine ⟨(p.1 == id, ()), rfl, ?_⟩
    dsimp only
    refine cs.mk (fun he => ?_) (fun hne => ?_)
    · have he : p.1 = id := by simpa using he
      have := k w2 h.drop
      rw [atI_some hp he hno] at this
      exact this
    · have hne : p.1 ≠ id := by simpa using hne
      refine ⟨⟨n + 1, ?_, hlt, fun m hm q hq => ?_, h.drop⟩, ?_⟩
      · show w64 _ = _
        rw [w64_in (by omega) (by omega)]; rfl
      · rcases Nat.lt_or_ge m n with hm' | hm'
        · exact hno m hm' q hq
        · have : m = n := by omega
          subst this
          rw [hp] at hq
          cases hq
          exact hne
      · show _ - (w64 _).toNat < _ - Int.toNat _
        rw [w64_in (by omega) (by omega)]
        omega
  · have hge : l.length ≤ n := by have := of_decide_eq_false hge; dsimp only at this; omega
    have := k w1 h
    rw [atI_none fun p hp => by
      obtain ⟨m, hm, rfl⟩ := List.getElem_of_mem hp
      exact hno m (by omega) _ (List.getElem?_eq_getElem hm)] at this
    exact this

theorem at_order {e w L p rest l id R} (h : Ok e (lineP p rest l :: L) w) (hb : l.length ≤ 2 ^ 31) (k : ∀ w', Ok e (lineP p rest l :: L) w' → R [.int .i64 (atI l id)] w') : sh171 (some ⟨p, 0, none⟩) id R w := by
  obtain ⟨s, hs, h⟩ := lineE h
  unfold sh171
  refine al.mk h fun b1 w1 h => ?_
  refine nn.mk (ldS.mk (h.p1.cell rfl) ?_)
  refine call225 (a1 := ⟨226, [], [.pointer (some ⟨b1, 0, none⟩)]⟩) (IndexFunc_at (c := b1) (id := id) h.p2 hb fun w2 h => ⟨(atI l id, ()), rfl, ?_⟩)
  dsimp only
  exact k w2 (lineI h.p2.p2.drop)

theorem Remove_order {e w L p rest l id R} (h : Ok e (lineP p rest l :: L) w) (hb : l.length ≤ 2 ^ 31) (k : ∀ w', Ok e (lineP p rest (rmL l id) :: L) w' → R [.bool (decide (0 ≤ atI l id))] w') : sh111 (some ⟨p, 0, none⟩) id R w := by
  unfold sh111
  refine call171 (at_order h hb fun w1 h => ⟨(atI l id, ()), rfl, ?_⟩)
  dsimp only
  refine cs.mk (fun h0 => ?_) (fun h0 => ?_)
  · have h0 : atI l id < 0 := by simpa using h0
    have := k w1 (by rw [rmL, if_pos h0]; exact h)
    rw [show decide (0 ≤ atI l id) = false by simp; omega] at this
    exact this
  · have h0 : ¬ atI l id < 0 := by simpa using h0
    obtain ⟨hlt, q, hq, hq1⟩ := atI_lt (by omega : 0 ≤ atI l id)
    obtain ⟨s, hs, h⟩ := lineE h
    refine nn.mk (ldS.mk (h.cell rfl) ?_)
    rw [w64_in (by omega) (by omega)]
    refine call193 (Delete_item h.p1 (by omega) (by omega) (by omega) fun s2 w2 h => ⟨(s2, ()), rfl, ?_⟩)
    dsimp only
    refine nn.mk (st1.mk h.p1 (by simp) fun w3 h => ?_)
    have := k w3 (by rw [rmL, if_neg h0]; exact lineI h)
    rw [show decide (0 ≤ atI l id) = true by simp; omega] at this
    exact this

theorem New_order {e w L byPri R} (h : Ok e L w) (k : ∀ p w', Ok e (lineP p [.bool byPri] [] :: L) w' → R [.pointer (some ⟨p, 0, none⟩)] w') : sh44 byPri R w := by
  unfold sh44
  refine al.mk h fun p w1 h => k p w1 ?_
  exact lineI (s := ⟨none, 0, 0⟩) (h.slcNil 2).p1

end Go.Proofs.YtenonfkfoedfmaaGreatDoor.B


/- Contracts of order.Queue. -/
namespace Go.Proofs.YtenonfkfoedfmaaGreatDoor.B
open Go
set_option linter.unusedVariables false

end Go.Proofs.YtenonfkfoedfmaaGreatDoor.B


/- The order in which a queue keeps those that wait. -/
namespace Go.Proofs.YtenonfkfoedfmaaGreatDoor.B
open Go
set_option linter.unusedVariables false

theorem pp_spec (l : List (Int × Int)) (y : Int) (n : Nat) : (∀ j, pp l y n ≤ j → j < n → y < (l[j]?.getD (0, 0)).2) ∧ (0 < pp l y n → ¬ y < (l[pp l y n - 1]?.getD (0, 0)).2) := by
  induction n with
  | zero => exact ⟨fun j _ h => absurd h (Nat.not_lt_zero _), fun h => absurd h (Nat.lt_irrefl _)⟩
  | succ n ih =>
    rw [show pp l y (n + 1) = if y < (l[n]?.getD (0, 0)).2 then pp l y n else n + 1 from rfl]
    split
    · next h =>
      refine ⟨fun j h1 h2 => ?_, ih.2⟩
      rcases Nat.lt_or_ge j n with h3 | h3
      · exact ih.1 j h1 h3
      · have : j = n := by omega
        rw [this]; exact h
    · next h => exact ⟨fun j h1 h2 => by omega, fun _ => h⟩

/-- before another: a lower number, or the same and came first -/
abbrev bef (a b : Int × Int) : Prop := a.2 < b.2 ∨ (a.2 = b.2 ∧ a.1 < b.1)

theorem putL_mem {byPri : Bool} {l : List (Int × Int)} {x p : Int × Int} : p ∈ putL byPri l x ↔ p = x ∨ p ∈ l := by
  unfold putL
  generalize putK byPri l x.2 = k
  have : p ∈ l ↔ p ∈ l.take k ∨ p ∈ l.drop k := by
    rw [← List.mem_append, List.take_append_drop]
  rw [List.mem_append, List.mem_append, List.mem_singleton, this]
  constructor
  · rintro ((h | h) | h)
    · exact .inr (.inl h)
    · exact .inl h
    · exact .inr (.inr h)
  · rintro (h | h | h)
    · exact .inl (.inr h)
    · exact .inl (.inl h)
    · exact .inr h

/-- the order of a queue: by number, then by who came first; or by who came first alone -/
abbrev ordR (byPri : Bool) (a b : Int × Int) : Prop := if byPri then bef a b else a.1 < b.1

end Go.Proofs.YtenonfkfoedfmaaGreatDoor.B


/- Who stands in a queue: each once, each a task. -/
namespace Go.Proofs.YtenonfkfoedfmaaGreatDoor.B
open Go
set_option linter.unusedVariables false

abbrev ids (l : List (Int × Int)) : List Int := l.map Prod.fst

theorem atI_neg {l : List (Int × Int)} {id : Int} : atI l id < 0 ↔ id ∉ ids l := by
  constructor
  · intro h hm
    obtain ⟨p, hp, he⟩ := List.mem_map.1 hm
    unfold atI at h
    split at h
    · omega
    · next h1 =>
      rw [List.findIdx?_eq_none_iff] at h1
      have := h1 p hp
      simp [he] at this
  · intro h
    rw [atI_none fun p hp he => h (List.mem_map.2 ⟨p, hp, he⟩)]
    decide

theorem atI_pos {l : List (Int × Int)} {id : Int} : 0 ≤ atI l id ↔ id ∈ ids l := by
  rw [← Decidable.not_iff_not, Int.not_le]
  exact atI_neg

theorem putL_perm (byPri : Bool) (l : List (Int × Int)) (x : Int × Int) : (putL byPri l x).Perm (x :: l) := by
  unfold putL
  rw [List.append_assoc]
  refine List.perm_middle.trans (List.Perm.cons _ ?_)
  show (l.take (putK byPri l x.2) ++ l.drop (putK byPri l x.2)).Perm l
  rw [List.take_append_drop]

theorem putL_ids {byPri : Bool} {l : List (Int × Int)} {x : Int × Int} : (ids (putL byPri l x)).Perm (x.1 :: ids l) := (putL_perm byPri l x).map Prod.fst

theorem rmL_sub (l : List (Int × Int)) (id : Int) : (rmL l id).Sublist l := by
  unfold rmL
  split
  · exact List.Sublist.refl _
  · rw [rmAt, ← List.eraseIdx_eq_take_drop_succ]
    exact List.eraseIdx_sublist ..

theorem rmL_none {l : List (Int × Int)} {id : Int} (h : atI l id < 0) : rmL l id = l := by rw [rmL, if_pos h]

theorem rmL_perm {l : List (Int × Int)} {id : Int} (h : 0 ≤ atI l id) : ∃ p, p.1 = id ∧ l.Perm (p :: rmL l id) := by
  obtain ⟨hlt, p, hp, hp1⟩ := atI_lt h
  refine ⟨p, hp1, ?_⟩
  rw [rmL, if_neg (by omega), rmAt]
  have hd : l.drop (atI l id).toNat = p :: l.drop ((atI l id).toNat + 1) := by
    rw [List.drop_eq_getElem_cons hlt]
    rw [List.getElem?_eq_getElem hlt] at hp
    cases hp
    rfl
  have h2 : l = l.take (atI l id).toNat ++ p :: l.drop ((atI l id).toNat + 1) := by rw [← hd, List.take_append_drop]
  exact (List.Perm.of_eq h2).trans List.perm_middle

/-- each once, each a task -/
def okL (l : List (Int × Int)) : Prop := (ids l).Nodup ∧ ∀ i ∈ ids l, 1 ≤ i ∧ i ≤ 16

theorem okL_nil : okL [] := ⟨List.nodup_nil, by simp⟩

theorem nodup_bound : ∀ (n : Nat) (l : List Int), l.Nodup → (∀ i ∈ l, 1 ≤ i ∧ i ≤ (n : Int)) → l.length ≤ n
  | 0, [], _, _ => Nat.le_refl _
  | 0, a :: l, _, h => by have := h a (List.mem_cons_self ..); omega
  | n + 1, l, hn, h => by
    by_cases ha : ((n : Int) + 1) ∈ l
    · have := nodup_bound n (l.erase ((n : Int) + 1)) (hn.erase _) (fun i hi => by
        have h1 := (List.Nodup.mem_erase_iff hn).1 hi
        have := h i h1.2
        omega)
      rw [List.length_erase_of_mem ha] at this
      omega
    · have := nodup_bound n l hn (fun i hi => by
        have h1 := h i hi
        have : i ≠ (n : Int) + 1 := fun e => ha (e ▸ hi)
        omega)
      omega

theorem okL_len {l : List (Int × Int)} (h : okL l) : l.length ≤ 16 := by
  have := nodup_bound 16 (ids l) h.1 h.2
  simpa using this

theorem okL_sub {l m : List (Int × Int)} (h : okL l) (hs : m.Sublist l) : okL m := by
  have := hs.map Prod.fst
  exact ⟨this.nodup h.1, fun i hi => h.2 i (this.subset hi)⟩

theorem okL_put {byPri : Bool} {l : List (Int × Int)} {x : Int × Int} (h : okL l) (h1 : 1 ≤ x.1 ∧ x.1 ≤ 16) (h2 : x.1 ∉ ids l) : okL (putL byPri l x) := by
  have hp := putL_ids (byPri := byPri) (l := l) (x := x)
  refine ⟨hp.nodup_iff.2 (List.nodup_cons.2 ⟨h2, h.1⟩), fun i hi => ?_⟩
  rcases List.mem_cons.1 (hp.mem_iff.1 hi) with rfl | hi
  · exact h1
  · exact h.2 i hi

theorem okL_rm {l : List (Int × Int)} {id : Int} (h : okL l) : okL (rmL l id) := okL_sub h (rmL_sub l id)

theorem rmL_ids {l : List (Int × Int)} {id : Int} (h : okL l) : id ∉ ids (rmL l id) := by
  by_cases h0 : 0 ≤ atI l id
  · obtain ⟨p, hp, hpm⟩ := rmL_perm h0
    have := (hpm.map Prod.fst).nodup_iff.1 h.1
    rw [List.map_cons, hp] at this
    exact (List.nodup_cons.1 this).1
  · have h1 : atI l id < 0 := by omega
    rw [rmL_none h1]
    exact atI_neg.1 h1

end Go.Proofs.YtenonfkfoedfmaaGreatDoor.B


/- Contracts of the package dtq. -/
namespace Go.Proofs.YtenonfkfoedfmaaGreatDoor.B
open Go
set_option linter.unusedVariables false

/-- what a data queue has -/
structure DQ where
  S : List (Int × Int)
  V : List (Int × Int)
  D : List Int
  g : Int → Int

def DQ.ok (room : Int) (q : DQ) : Prop := okL q.S ∧ okL q.V ∧ (q.D.length : Int) ≤ room ∧ room ≤ 64

def dqNew : DQ := ⟨[], [], [], fun _ => 0⟩

def DQ.trySend (room : Int) (q : DQ) (d : Int) : (Bool × Int) × DQ :=
  match q.V with
  | x :: r => ((true, x.1), ⟨q.S, r, q.D, q.g⟩)
  | [] => if (q.D.length : Int) ≥ room then ((false, 0), q) else ((true, 0), ⟨q.S, [], q.D ++ [d], q.g⟩)

def DQ.send (byPri : Bool) (room : Int) (q : DQ) (task pri d : Int) : (Bool × Int × Int) × DQ :=
  if (q.trySend room d).1.1 then ((true, (q.trySend room d).1.2, 0), (q.trySend room d).2)
  else ((false, 0, (addL byPri q.S task pri).1), ⟨(addL byPri q.S task pri).2, q.V, q.D, if (addL byPri q.S task pri).1 = 0 then fun i => if i = task then d else q.g i else q.g⟩)

def DQ.tryRecv (q : DQ) : (Int × Bool × Int) × DQ :=
  match q.D, q.S with
  | d :: D, x :: r => ((d, true, x.1), ⟨r, q.V, D ++ [q.g x.1], q.g⟩)
  | d :: D, [] => ((d, true, 0), ⟨[], q.V, D, q.g⟩)
  | [], x :: r => ((q.g x.1, true, x.1), ⟨r, q.V, [], q.g⟩)
  | [], [] => ((0, false, 0), q)

def DQ.recv (q : DQ) (task pri : Int) : ((Int × Bool × Int) × Int) × DQ :=
  if q.tryRecv.1.2.1 then ((q.tryRecv.1, 0), q.tryRecv.2) else (((0, false, 0), (addL false q.V task pri).1), ⟨q.S, (addL false q.V task pri).2, q.D, q.g⟩)

def DQ.force (room : Int) (q : DQ) (d : Int) : (Int × Int) × DQ :=
  if room = 0 then ((0, -28), q)
  else if (q.trySend room d).1.1 then (((q.trySend room d).1.2, 0), (q.trySend room d).2)
  else ((0, 0), ⟨q.S, q.V, q.D.tail ++ [d], q.g⟩)

def DQ.drop (q : DQ) (task : Int) : Bool × DQ :=
  if 0 ≤ atI q.S task then (true, ⟨rmL q.S task, q.V, q.D, q.g⟩) else (decide (0 ≤ atI q.V task), ⟨q.S, rmL q.V task, q.D, q.g⟩)

def DQ.change (byPri : Bool) (q : DQ) (task pri : Int) : Bool × DQ :=
  if (chgL byPri q.S task pri).1 then (true, ⟨(chgL byPri q.S task pri).2, q.V, q.D, q.g⟩) else ((chgL false q.V task pri).1, ⟨q.S, (chgL false q.V task pri).2, q.D, q.g⟩)

theorem dqNew_ok {room : Int} (h : 0 ≤ room ∧ room ≤ 64) : dqNew.ok room := ⟨okL_nil, okL_nil, h.1, h.2⟩

def heldF (S : List (Int × Int)) (g : Int → Int) (f : Int → Option Value) : Prop := ∀ i ∈ ids S, f i = some (.int .i64 (g i))

def dtqP (b : Nat) (byPri : Bool) (room : Int) (q : DQ) : SP := fun h => ∃ p r s m, ∃ f : Int → Option Value, heldF q.S q.g f ∧
  oksH [pts b [.pointer (some ⟨p, 0, none⟩), .pointer (some ⟨r, 0, none⟩), .int .i64 room, vS s, .map (some m)], lineP p [.bool byPri] q.S, lineP r [.bool false] q.V, slc 1 s (ints q.D), mpP m f] h

theorem dtqI {e w L b byPri room q p r s m f} (hf : heldF q.S q.g f) (h : Ok e (pts b [.pointer (some ⟨p, 0, none⟩), .pointer (some ⟨r, 0, none⟩), .int .i64 room, vS s, .map (some m)] :: lineP p [.bool byPri] q.S :: lineP r [.bool false] q.V :: slc 1 s (ints q.D) :: mpP m f :: L) w) : Ok e (dtqP b byPri room q :: L) w :=
  (Ok.pack (M := [pts b [.pointer (some ⟨p, 0, none⟩), .pointer (some ⟨r, 0, none⟩), .int .i64 room, vS s, .map (some m)], lineP p [.bool byPri] q.S, lineP r [.bool false] q.V, slc 1 s (ints q.D), mpP m f]) h).imp fun k hk => ⟨p, r, s, m, f, hf, hk⟩

theorem New_dtq {e w L byPri room R} (h : Ok e L w) (k0 : ¬ (0 ≤ room ∧ room ≤ 64) → R [.pointer none, .int .i64 (-17)] w) (k1 : 0 ≤ room ∧ room ≤ 64 → ∀ b w', Ok e (dtqP b byPri room dqNew :: L) w' → R [.pointer (some ⟨b, 0, none⟩), .int .i64 0] w') : sh179 byPri room R w := by
  unfold sh179
  refine jn.bool (decide (¬ (0 ≤ room ∧ room ≤ 64))) (fun J hJ => cs.mk (fun h1 => ?_) (fun h1 => ?_)) ?_
  · have h1 := of_decide_eq_true h1
    rw [decide_eq_true (by omega)] at hJ
    exact hJ
  · have h1 := of_decide_eq_false h1
    rw [show decide (room > 64) = decide (¬ (0 ≤ room ∧ room ≤ 64)) from decide_eq_decide.2 (by omega)]
    exact hJ
  refine cs.mk (fun h1 => k0 (of_decide_eq_true h1)) (fun h1 => ?_)
  have h1 : 0 ≤ room ∧ room ≤ 64 := Decidable.not_not.1 (of_decide_eq_false h1)
  refine call44 (New_order h fun p w1 h => ⟨(some ⟨p, 0, none⟩, ()), rfl, ?_⟩)
  refine call44 (New_order h fun r w2 h => ⟨(some ⟨r, 0, none⟩, ()), rfl, ?_⟩)
  refine ef.makeMap h fun m w3 h => ?_
  refine al.mk h fun b w4 h => k1 h1 b w4 ?_
  refine dtqI (p := p) (r := r) (s := ⟨none, 0, 0⟩) (m := m) (f := fun _ => none) (q := dqNew) (fun i hi => by simp [dqNew] at hi) ?_
  have h := h.slcNil 1
  have h := (Ok.emb (h) (.cons (A := pts b _) (by with_reducible first | exact sl0 | exact .there sl0 | exact .there sl1 | exact .there sl2 | exact .there sl3 | exact .there sl4 | exact .there sl5 | exact .there sl6 | exact .there sl7 | exact .there sl8 | exact .there sl9 | exact .there sl10 | exact .there sl11 | exact .there sl12) (.cons (A := lineP p _ _) (by with_reducible first | exact sl0 | exact .there sl0 | exact .there sl1 | exact .there sl2 | exact .there sl3 | exact .there sl4 | exact .there sl5 | exact .there sl6 | exact .there sl7 | exact .there sl8 | exact .there sl9 | exact .there sl10 | exact .there sl11 | exact .there sl12) (.cons (A := lineP r _ _) (by with_reducible first | exact sl0 | exact .there sl0 | exact .there sl1 | exact .there sl2 | exact .there sl3 | exact .there sl4 | exact .there sl5 | exact .there sl6 | exact .there sl7 | exact .there sl8 | exact .there sl9 | exact .there sl10 | exact .there sl11 | exact .there sl12) (.cons (A := slc 1 _ _) (by with_reducible first | exact sl0 | exact .there sl0 | exact .there sl1 | exact .there sl2 | exact .there sl3 | exact .there sl4 | exact .there sl5 | exact .there sl6 | exact .there sl7 | exact .there sl8 | exact .there sl9 | exact .there sl10 | exact .there sl11 | exact .there sl12) (.cons (A := mpP m _) (by with_reducible first | exact sl0 | exact .there sl0 | exact .there sl1 | exact .there sl2 | exact .there sl3 | exact .there sl4 | exact .there sl5 | exact .there sl6 | exact .there sl7 | exact .there sl8 | exact .there sl9 | exact .there sl10 | exact .there sl11 | exact .there sl12) (.same _)))))))
  exact h

end Go.Proofs.YtenonfkfoedfmaaGreatDoor.B


/- Contracts of the package dtq: receiving, forcing, dropping, what is told. -/
namespace Go.Proofs.YtenonfkfoedfmaaGreatDoor.B
open Go
set_option linter.unusedVariables false

end Go.Proofs.YtenonfkfoedfmaaGreatDoor.B


/- Rising rows: where a number lies, with it, without it; slices' search in them. -/
namespace Go.Proofs.YtenonfkfoedfmaaGreatDoor.B
open Go
set_option linter.unusedVariables false

/-- how many are less, of a rising row -/
def pos : List Int → Int → Nat
  | [], _ => 0
  | b :: l, a => if b < a then pos l a + 1 else 0

abbrev Up (l : List Int) : Prop := l.Pairwise (· < ·)

def insU (l : List Int) (a : Int) : List Int := l.take (pos l a) ++ [a] ++ l.drop (pos l a)

def delU (l : List Int) (a : Int) : List Int := l.take (pos l a) ++ l.drop (pos l a + 1)

theorem ov_int : OvT Pg 199 72 := ⟨Tryz.f199, 4, Tryz.func199, by kernel_rfl, by kernel_rfl, by kernel_rfl, by kernel_rfl⟩

theorem Delete_int {e w L s l R} {i : Nat} (h : Ok e (slc 1 s (ints l) :: L) w) (hil : i < l.length) (hb : l.length ≤ 2 ^ 31)
    (k : ∀ s' w', Ok e (slc 1 s' (ints (l.take i ++ l.drop (i + 1))) :: L) w' → R [vS s'] w') : sh219 s i (i + 1) R w := by
  unfold sh219
  have hl := h.slc_len
  rw [ints_len, Nat.mul_one] at hl
  refine del_body slT_int (by decide) h (by omega) (by omega) (by omega) (by omega) fun s' w' _ h' => k s' w' ?_
  rw [show ((i : Int) + 1).toNat = i + 1 by omega, Int.toNat_natCast, Nat.mul_one, Nat.mul_one] at h'
  simpa [ints, List.map_take, List.map_drop] using h'

theorem Insert_int {e w L s x l R} {i : Nat} {y : Int} (h : Ok e (slc 1 x (ints [y]) :: slc 1 s (ints l) :: L) w) (hil : i ≤ l.length) (hb : l.length ≤ 2 ^ 30)
    (k : ∀ s' w', Ok e (slc 1 s' (ints (l.take i ++ [y] ++ l.drop i)) :: L) w' → R [vS s'] w') : sh126 s i x R w := by
  unfold sh126
  have hl := h.p1.slc_len
  rw [ints_len, Nat.mul_one] at hl
  have hx := h.slc_len
  rw [ints_len, Nat.mul_one] at hx
  simp only [List.length_singleton] at hx
  refine ins_body (ki := .i64) slT_int (by kernel_rfl) ov_int (by decide) h (by omega) (by omega) (by omega) (by omega) fun s' w' _ h' => k s' w' ?_
  rw [Int.toNat_natCast, Nat.mul_one] at h'
  simpa [ints, List.map_take, List.map_drop] using h'

end Go.Proofs.YtenonfkfoedfmaaGreatDoor.B


/- Contracts of the package mpf: blocks. -/
namespace Go.Proofs.YtenonfkfoedfmaaGreatDoor.B
open Go
set_option linter.unusedVariables false

/-- how far apart blocks lie -/
def stp (z : Int) : Int := (z + 3) / 4 * 4

theorem stp_bd {z : Int} (h : 1 ≤ z ∧ z ≤ 4096) : 4 ≤ stp z ∧ z ≤ stp z ∧ stp z ≤ 4096 := by
  unfold stp
  omega

theorem Align_nums {e w L z R} (h : Ok e L w) (hz : 1 ≤ z ∧ z ≤ 4096) (k : ∀ w', Ok e L w' → R [.int .i64 (stp z)] w') : sh127 z 4 R w := by
  unfold sh127
  refine jn.bool (false) (fun J hJ => ?_) ?_
  · refine cs.no (decide_eq_false (by omega)) ?_
    rw [show decide (z > 1073741824) = false from decide_eq_false (by omega)]
    exact hJ
  refine jn.bool (false) (fun J hJ => ?_) ?_
  · exact cs.no rfl hJ
  refine jn.bool (false) (fun J hJ => ?_) ?_
  · exact cs.no rfl hJ
  refine cs.no rfl (ob.mk (by decide) ?_)
  rw [w64_in (x := z + 4) (by omega) (by omega), w64_in (x := z + 4 - 1) (by omega) (by omega), Int.tdiv_eq_ediv_of_nonneg (by omega), w64_in (x := (z + 4 - 1) / 4) (by omega) (by omega), w64_in (by omega) (by omega), show z + 4 - 1 = z + 3 by omega]
  exact k _ h

/-- what a pool has -/
structure MP where
  S : List (Int × Int)
  had : Int
  back : List Int
  held : List Int

def blks (a z had : Int) : List Int := (List.range had.toNat).map fun (k : Nat) => a + (k : Int) * stp z

structure MPo (a n z : Int) (q : MP) : Prop where
  c : 0 ≤ a ∧ a ≤ 65536 ∧ 1 ≤ n ∧ n ≤ 256 ∧ 1 ≤ z ∧ z ≤ 4096 ∧ n * stp z ≤ 65536 - a
  line : okL q.S
  had : 0 ≤ q.had ∧ q.had ≤ n
  up : Up q.held
  perm : (q.back ++ q.held).Perm (blks a z q.had)

def MP.poll (a n z : Int) (q : MP) : (Int × Bool) × MP :=
  match q.back.getLast? with
  | some x => ((x, true), ⟨q.S, q.had, q.back.dropLast, insU q.held x⟩)
  | none => if q.had < n then ((a + q.had * stp z, true), ⟨q.S, q.had + 1, q.back, insU q.held (a + q.had * stp z)⟩) else ((0, false), q)

def MP.get (a n z : Int) (byPri : Bool) (q : MP) (task pri : Int) : (Int × Bool × Int) × MP :=
  if (q.poll a n z).1.2 then (((q.poll a n z).1.1, true, 0), (q.poll a n z).2)
  else ((0, false, (addL byPri q.S task pri).1), ⟨(addL byPri q.S task pri).2, q.had, q.back, q.held⟩)

def MP.put (q : MP) (x : Int) : (Int × Int) × MP :=
  if x ∈ q.held then
    match q.S with
    | y :: r => ((y.1, 0), ⟨r, q.had, q.back, q.held⟩)
    | [] => ((0, 0), ⟨[], q.had, q.back ++ [x], delU q.held x⟩)
  else ((0, -17), q)

def MP.holds (z : Int) (q : MP) (at' n : Int) : Bool := decide (1 ≤ n ∧ n ≤ z) && q.held.any fun h => decide (h ≤ at' ∧ at' ≤ h + z - n)

def mp0 : MP := ⟨[], 0, [], []⟩

theorem blks_mem {a z had x : Int} : x ∈ blks a z had ↔ ∃ k : Nat, (k : Int) < had ∧ x = a + k * stp z := by
  unfold blks
  rw [List.mem_map]
  exact ⟨fun ⟨k, hk, he⟩ => ⟨k, by have := List.mem_range.1 hk; omega, he.symm⟩, fun ⟨k, hk, he⟩ => ⟨k, List.mem_range.2 (by omega), he.symm⟩⟩

theorem blks_len {a z had : Int} : (blks a z had).length = had.toNat := by simp [blks]

theorem mul_lt_stp {z : Int} (h : 1 ≤ z ∧ z ≤ 4096) {i j : Int} (hij : i < j) : i * stp z + stp z ≤ j * stp z := by
  have h4 := (stp_bd h).1
  have := Int.mul_le_mul_of_nonneg_right (show i + 1 ≤ j by omega) (show 0 ≤ stp z by omega)
  rw [Int.add_mul, Int.one_mul] at this
  exact this

theorem blks_nodup {a z had : Int} (h : 1 ≤ z ∧ z ≤ 4096) : (blks a z had).Nodup := by
  refine List.pairwise_map.2 (List.nodup_range.imp fun {i j} hij => ?_)
  intro he
  have h4 := (stp_bd h).1
  rcases Nat.lt_or_ge i j with h1 | h1
  · have := mul_lt_stp h (i := i) (j := j) (by omega); omega
  · have := mul_lt_stp h (i := j) (j := i) (by omega); omega

theorem MPo.nodup {a n z q} (h : MPo a n z q) : (q.back ++ q.held).Nodup := h.perm.nodup_iff.2 (blks_nodup ⟨h.c.2.2.2.2.1, h.c.2.2.2.2.2.1⟩)

theorem MPo.bd {a n z q} (h : MPo a n z q) {x : Int} (hx : x ∈ q.back ++ q.held) : 0 ≤ x ∧ x + stp z ≤ 65536 ∧ ∃ k : Nat, (k : Int) < q.had ∧ x = a + k * stp z := by
  obtain ⟨k, hk, he⟩ := blks_mem.1 (h.perm.mem_iff.1 hx)
  have hz := And.intro h.c.2.2.2.2.1 h.c.2.2.2.2.2.1
  have h4 := stp_bd hz
  have h5 := mul_lt_stp hz (i := k) (j := n) (by have := h.had; omega)
  have h6 := Int.mul_nonneg (show (0 : Int) ≤ k by omega) (show 0 ≤ stp z by omega)
  have := h.c
  exact ⟨by omega, by omega, k, hk, he⟩

theorem MPo.len {a n z q} (h : MPo a n z q) : q.back.length + q.held.length = q.had.toNat := by
  have := h.perm.length_eq
  rw [List.length_append, blks_len] at this
  exact this

theorem MPo.new {a n z q} (h : MPo a n z q) : a + q.had * stp z ∉ q.back ++ q.held := by
  intro hx
  obtain ⟨k, hk, he⟩ := blks_mem.1 (h.perm.mem_iff.1 hx)
  have hz := And.intro h.c.2.2.2.2.1 h.c.2.2.2.2.2.1
  have h4 := stp_bd hz
  have h5 := mul_lt_stp hz (i := k) (j := q.had) hk
  omega

def mpfC (p : Nat) (a n z had : Int) (s t : Sl) : List Value := [.pointer (some ⟨p, 0, none⟩), .int .i64 a, .int .i64 n, .int .i64 z, .int .i64 had, vS s, vS t]

def mpfP (b : Nat) (byPri : Bool) (a n z : Int) (q : MP) : SP := fun h => ∃ p s t,
  oksH [pts b [.pointer (some ⟨p, 0, none⟩), .int .i64 a, .int .i64 n, .int .i64 z, .int .i64 q.had, vS s, vS t], lineP p [.bool byPri] q.S, slc 1 s (ints q.back), slc 1 t (ints q.held)] h

theorem mpfI {e w L b byPri a n z q p s t} (h : Ok e (pts b [.pointer (some ⟨p, 0, none⟩), .int .i64 a, .int .i64 n, .int .i64 z, .int .i64 q.had, vS s, vS t] :: lineP p [.bool byPri] q.S :: slc 1 s (ints q.back) :: slc 1 t (ints q.held) :: L) w) : Ok e (mpfP b byPri a n z q :: L) w :=
  (Ok.pack (M := [pts b [.pointer (some ⟨p, 0, none⟩), .int .i64 a, .int .i64 n, .int .i64 z, .int .i64 q.had, vS s, vS t], lineP p [.bool byPri] q.S, slc 1 s (ints q.back), slc 1 t (ints q.held)]) h).imp fun k hk => ⟨p, s, t, hk⟩

theorem stp_mul_bd {z n : Int} (h : 1 ≤ z ∧ z ≤ 4096) (hn : 0 ≤ n ∧ n ≤ 256) : 0 ≤ n * stp z ∧ n * stp z ≤ 256 * 4096 := by
  have h4 := stp_bd h
  exact ⟨Int.mul_nonneg hn.1 (by omega), Int.le_trans (Int.mul_le_mul_of_nonneg_right hn.2 (by omega)) (by omega)⟩

def mpGood (a n z : Int) : Prop := 0 ≤ a ∧ a ≤ 65536 ∧ a % 4 = 0 ∧ 1 ≤ n ∧ n ≤ 256 ∧ 1 ≤ z ∧ z ≤ 4096 ∧ n * stp z ≤ 65536 - a

instance (a n z : Int) : Decidable (mpGood a n z) := by unfold mpGood; infer_instance

theorem mp0_ok {a n z} (h : mpGood a n z) : MPo a n z mp0 := by
  obtain ⟨h1, h2, h3, h4, h5, h6, h7, h8⟩ := h
  exact ⟨⟨h1, h2, h4, h5, h6, h7, h8⟩, okL_nil, ⟨Int.le_refl _, by show 0 ≤ n; omega⟩, List.Pairwise.nil, List.Perm.of_eq (by rfl)⟩

end Go.Proofs.YtenonfkfoedfmaaGreatDoor.B


/- Contracts of the package mpf: its calls. -/
namespace Go.Proofs.YtenonfkfoedfmaaGreatDoor.B
open Go
set_option linter.unusedVariables false

set_option maxHeartbeats 1000000 in
theorem NewPool_mpf {e w L byPri a n z R} (h : Ok e L w) (k0 : ∀ w', Ok e L w' → ¬ mpGood a n z → R [.pointer none, .int .i64 (-17)] w') (k1 : mpGood a n z → ∀ b w', Ok e (mpfP b byPri a n z mp0 :: L) w' → R [.pointer (some ⟨b, 0, none⟩), .int .i64 0] w') : sh182 byPri a n z R w := by
  unfold sh182
  refine jn.bool (decide (¬ (1 ≤ n ∧ n ≤ 256))) (fun J hJ => ?_) ?_
  · refine cs.mk (fun h1 => ?_) (fun h1 => ?_)
    · have h1 := of_decide_eq_true h1
      rw [decide_eq_true (by omega)] at hJ
      exact hJ
    · have h1 := of_decide_eq_false h1
      rw [show decide (¬ (1 ≤ n ∧ n ≤ 256)) = decide (n > 256) from decide_eq_decide.2 (by omega)] at hJ
      exact hJ
  refine jn.bool (decide (¬ (1 ≤ n ∧ n ≤ 256 ∧ 1 ≤ z))) (fun J hJ => ?_) ?_
  · refine cs.mk (fun h1 => ?_) (fun h1 => ?_)
    · have h1 := of_decide_eq_true h1
      rw [decide_eq_true (by omega)] at hJ
      exact hJ
    · have h1 := of_decide_eq_false h1
      rw [show decide (¬ (1 ≤ n ∧ n ≤ 256 ∧ 1 ≤ z)) = decide (z < 1) from decide_eq_decide.2 (by omega)] at hJ
      exact hJ
  refine jn.bool (decide (¬ (1 ≤ n ∧ n ≤ 256 ∧ 1 ≤ z ∧ z ≤ 4096))) (fun J hJ => ?_) ?_
  · refine cs.mk (fun h1 => ?_) (fun h1 => ?_)
    · have h1 := of_decide_eq_true h1
      rw [decide_eq_true (by omega)] at hJ
      exact hJ
    · have h1 := of_decide_eq_false h1
      rw [show decide (¬ (1 ≤ n ∧ n ≤ 256 ∧ 1 ≤ z ∧ z ≤ 4096)) = decide (z > 4096) from decide_eq_decide.2 (by omega)] at hJ
      exact hJ
  refine jn.bool (decide (¬ (1 ≤ n ∧ n ≤ 256 ∧ 1 ≤ z ∧ z ≤ 4096 ∧ 0 ≤ a))) (fun J hJ => ?_) ?_
  · refine cs.mk (fun h1 => ?_) (fun h1 => ?_)
    · have h1 := of_decide_eq_true h1
      rw [decide_eq_true (by omega)] at hJ
      exact hJ
    · have h1 := of_decide_eq_false h1
      rw [show decide (¬ (1 ≤ n ∧ n ≤ 256 ∧ 1 ≤ z ∧ z ≤ 4096 ∧ 0 ≤ a)) = decide (a < 0) from decide_eq_decide.2 (by omega)] at hJ
      exact hJ
  refine jn.bool (decide (¬ (1 ≤ n ∧ n ≤ 256 ∧ 1 ≤ z ∧ z ≤ 4096 ∧ 0 ≤ a ∧ a ≤ 65536))) (fun J hJ => ?_) ?_
  · refine cs.mk (fun h1 => ?_) (fun h1 => ?_)
    · have h1 := of_decide_eq_true h1
      rw [decide_eq_true (by omega)] at hJ
      exact hJ
    · have h1 := of_decide_eq_false h1
      rw [show decide (¬ (1 ≤ n ∧ n ≤ 256 ∧ 1 ≤ z ∧ z ≤ 4096 ∧ 0 ≤ a ∧ a ≤ 65536)) = decide (a > 65536) from decide_eq_decide.2 (by omega)] at hJ
      exact hJ
  refine jn.bool (decide (¬ (1 ≤ n ∧ n ≤ 256 ∧ 1 ≤ z ∧ z ≤ 4096 ∧ 0 ≤ a ∧ a ≤ 65536 ∧ a % 4 = 0))) (fun J hJ => ?_) ?_
  · refine cs.mk (fun h1 => ?_) (fun h1 => ?_)
    · have h1 := of_decide_eq_true h1
      rw [decide_eq_true (by omega)] at hJ
      exact hJ
    · have h1 := of_decide_eq_false h1
      rw [show decide (¬ (1 ≤ n ∧ n ≤ 256 ∧ 1 ≤ z ∧ z ≤ 4096 ∧ 0 ≤ a ∧ a ≤ 65536 ∧ a % 4 = 0)) = (Int.tmod a 4 != 0) by
        rw [Int.tmod_eq_emod_of_nonneg (by omega), Bool.eq_iff_iff, decide_eq_true_iff, bne_iff_ne]; omega] at hJ
      exact hJ
  refine jn.at (decide (¬ mpGood a n z), ()) (fun w' => Ok e L w') (fun J hJ => cs.mk (fun h1 => ?_) (fun h1 => ?_)) (fun w1 h => ?_)
  · have h1 := of_decide_eq_true h1
    rw [decide_eq_true (by unfold mpGood; omega)] at hJ
    exact hJ _ h
  · have h1 := Decidable.not_not.1 (of_decide_eq_false h1)
    have hz : 1 ≤ z ∧ z ≤ 4096 := by omega
    refine call127 (Align_nums h hz fun w1 h => ⟨(stp z, ()), rfl, ?_⟩)
    have hm := stp_mul_bd (n := n) hz (by omega)
    dsimp only
    rw [w64_in (x := n * stp z) (by omega) (by omega), w64_in (x := 65536 - a) (by omega) (by omega)]
    rw [show decide (¬ mpGood a n z) = decide (n * stp z > 65536 - a) from decide_eq_decide.2 (by unfold mpGood; omega)] at hJ
    exact hJ _ h
  refine cs.mk (fun h1 => k0 w1 h (of_decide_eq_true h1)) (fun h1 => ?_)
  have h1 := Decidable.not_not.1 (of_decide_eq_false h1)
  refine call44 (New_order h fun p w1 h => ⟨(some ⟨p, 0, none⟩, ()), rfl, ?_⟩)
  refine al.mk h fun b w2 h => k1 h1 b w2 ?_
  have h := (h.slcNil 1).slcNil 1
  have h := (Ok.emb (h) (.cons (A := pts b _) (by with_reducible first | exact sl0 | exact .there sl0 | exact .there sl1 | exact .there sl2 | exact .there sl3 | exact .there sl4 | exact .there sl5 | exact .there sl6 | exact .there sl7 | exact .there sl8 | exact .there sl9 | exact .there sl10 | exact .there sl11 | exact .there sl12) (.cons (A := lineP p _ _) (by with_reducible first | exact sl0 | exact .there sl0 | exact .there sl1 | exact .there sl2 | exact .there sl3 | exact .there sl4 | exact .there sl5 | exact .there sl6 | exact .there sl7 | exact .there sl8 | exact .there sl9 | exact .there sl10 | exact .there sl11 | exact .there sl12) (.cons (A := slc 1 ⟨none, 0, 0⟩ _) (by with_reducible first | exact sl0 | exact .there sl0 | exact .there sl1 | exact .there sl2 | exact .there sl3 | exact .there sl4 | exact .there sl5 | exact .there sl6 | exact .there sl7 | exact .there sl8 | exact .there sl9 | exact .there sl10 | exact .there sl11 | exact .there sl12) (.cons (A := slc 1 ⟨none, 0, 0⟩ _) (by with_reducible first | exact sl0 | exact .there sl0 | exact .there sl1 | exact .there sl2 | exact .there sl3 | exact .there sl4 | exact .there sl5 | exact .there sl6 | exact .there sl7 | exact .there sl8 | exact .there sl9 | exact .there sl10 | exact .there sl11 | exact .there sl12) (.same _))))))
  exact mpfI (p := p) (q := mp0) (s := ⟨none, 0, 0⟩) (t := ⟨none, 0, 0⟩) h

end Go.Proofs.YtenonfkfoedfmaaGreatDoor.B


/- The kernel as plain Lean: what its calls compute, wherever they do not fail. -/
namespace Go.Proofs.YtenonfkfoedfmaaGreatDoor.B
open Go
set_option linter.unusedVariables false

def getO {α : Type} (l : List α) (i : Int) : Option α := if 0 ≤ i then l[i.toNat]? else none

/-! ### entries of the clock -/
structure Ent where
  at' : Int
  hd : Int
  arg : Int
  deriving DecidableEq

def Ent.lt (a b : Ent) : Bool := decide (a.at' < b.at') || (a.at' == b.at' && decide (a.hd < b.hd))

def insE (x : Ent) : List Ent → List Ent
  | [] => [x]
  | y :: r => if x.lt y then x :: y :: r else y :: insE x r

def delE (h : Int) (l : List Ent) : List Ent := l.filter fun x => !(x.hd == h)

def dueE (now : Int) (l : List Ent) : List Ent := l.takeWhile fun x => decide (x.at' ≤ now)

def restE (now : Int) (l : List Ent) : List Ent := l.dropWhile fun x => decide (x.at' ≤ now)

/-! ### mutexes -/
structure Mx where
  attr : Int
  ceil : Int
  owner : Int
  wait : List Int
  deriving DecidableEq

structure Mt where
  base : Int
  pri : Int
  waits : Int
  deriving DecidableEq

structure MM where
  m : List Mx
  t : List Mt
  deriving DecidableEq

namespace MM

def base (M : MM) (n : Int) : Option Int := if 1 ≤ n ∧ n ≤ 16 then (getO M.t n).map Mt.base else some 0

def pri (M : MM) (n : Int) : Option Int := if 1 ≤ n ∧ n ≤ 16 then (getO M.t n).map Mt.pri else some 0

def rkL (rk : Int → Option Int) : List Int → Int → Option Int
  | [], p => some p
  | w :: r, p => (rk w).bind fun q => rkL rk r (if q < p then q else p)

def rkM (rk : Int → Option Int) (n deep : Int) : List Mx → Int → Option Int
  | [], p => some p
  | x :: r, p =>
    if x.owner ≠ n ∨ deep > 16 then rkM rk n deep r p
    else if x.attr = 3 then rkM rk n deep r (if x.ceil < p then x.ceil else p)
    else if x.attr = 2 then if x.wait.length ≤ 64 then (rkL rk x.wait p).bind fun p => rkM rk n deep r p else none
    else rkM rk n deep r p

def reckon (M : MM) : Nat → Int → Int → Option Int
  | 0, _, _ => none
  | f + 1, n, deep => (getO M.t n).bind fun t => rkM (fun w => reckon M f w (deep + 1)) n deep (M.m.drop 1) t.base

/-- where a task of a priority comes to stand in a row -/
def standK (M : MM) (attr pn : Int) (l : List Int) : Nat → Option Nat
  | 0 => some 0
  | i + 1 =>
    if attr = 0 then some (i + 1)
    else (l[i]?).bind fun w => (getO M.t w).bind fun tw => if tw.pri > pn then standK M attr pn l i else some (i + 1)

def setW (M : MM) (m : Int) (l : List Int) : Option MM :=
  (getO M.m m).bind fun x => if l.length ≤ 64 then some { M with m := M.m.set m.toNat { x with wait := l } } else none

def setO (M : MM) (m o : Int) : Option MM := (getO M.m m).map fun x => { M with m := M.m.set m.toNat { x with owner := o } }

def setPri (M : MM) (n p : Int) : Option MM := (getO M.t n).map fun x => { M with t := M.t.set n.toNat { x with pri := p } }

def setWaits (M : MM) (n m : Int) : Option MM := (getO M.t n).map fun x => { M with t := M.t.set n.toNat { x with waits := m } }

def setB (M : MM) (n b : Int) : Option MM := (getO M.t n).map fun x => { M with t := M.t.set n.toNat { x with base := b } }

def stand (M : MM) (m n : Int) : Option MM :=
  (getO M.m m).bind fun x => (getO M.t n).bind fun tn => (standK M x.attr tn.pri x.wait x.wait.length).bind fun i =>
    setW M m (x.wait.take i ++ [n] ++ x.wait.drop i)

/-- the priorities of tasks n, n + 1, .. -/
def prs (M : MM) (n : Nat) : Nat → Option (List Int)
  | 0 => some []
  | k + 1 => (reckon M 18 n 0).bind fun p => (prs M (n + 1) k).map fun r => p :: r

/-- those that wait stand as they stood: nobody's priority is another one -/
def anew1 (ps : List Int) : List Int → MM → Option Unit
  | [], M => some ()
  | n :: r, M => (getO ps n).bind fun p => (getO M.t n).bind fun x => if p = x.pri then anew1 ps r M else none

def anew (ps : List Int) (m : Nat) : Nat → MM → Option Unit
  | 0, M => some ()
  | k + 1, M => (getO M.m m).bind fun x => if x.wait.length ≤ 64 then (anew1 ps x.wait M).bind fun _ => anew ps (m + 1) k M else none

def setPris (ps : List Int) (n : Nat) : Nat → MM → Option MM
  | 0, M => some M
  | k + 1, M => (getO ps n).bind fun p => (setPri M n p).bind fun M => setPris ps (n + 1) k M

def settle (M : MM) : Option MM :=
  (prs M 1 16).bind fun r => (anew (0 :: r) 1 (M.m.length - 1) M).bind fun _ => setPris (0 :: r) 1 16 M

/-- does something speak against a base priority? -/
def against (M : MM) (n p : Int) (tw : Int) : List Mx → Nat → Bool
  | [], _ => false
  | x :: r, m => if x.attr = 3 ∧ x.ceil > p ∧ (x.owner = n ∨ tw = (m : Int)) then true else against M n p tw r (m + 1)

def setBase (M : MM) (n p : Int) : Option (Int × MM) :=
  if ¬ (1 ≤ n ∧ n ≤ 16) then some (-18, M)
  else if ¬ (1 ≤ p ∧ p ≤ 16) then some (-17, M)
  else (getO M.t n).bind fun t => if against M n p t.waits (M.m.drop 1) 1 then some (-28, M)
    else (setB M n p).bind fun M => (settle M).map fun M => (0, M)

def over (M : MM) (holder : Int) : Nat → Int → Option Bool
  | 0, _ => some false
  | f + 1, n => (getO M.t n).bind fun t => if t.waits = 0 then some false else (getO M.m t.waits).bind fun x =>
    if x.owner = holder then some true else if x.owner = 0 then some false else over M holder f x.owner

def isIn (M : MM) (m : Int) : Bool := decide (1 ≤ m ∧ m < M.m.length)

def tryLock (M : MM) (m n : Int) : Option ((Bool × Int) × MM) :=
  if ¬ (isIn M m = true ∧ 1 ≤ n ∧ n ≤ 16) then some ((false, -18), M)
  else (getO M.m m).bind fun x => (getO M.t n).bind fun t =>
    if x.owner = n ∨ (x.attr = 3 ∧ t.base < x.ceil) then some ((false, -28), M)
    else if t.waits > 0 then some ((false, -41), M)
    else if x.owner = 0 then (setO M m n).bind fun M => (settle M).map fun M => ((true, 0), M)
    else some ((false, 0), M)

def lock (M : MM) (m n : Int) : Option ((Bool × Int) × MM) :=
  (tryLock M m n).bind fun r =>
    if r.1.1 = true ∨ r.1.2 ≠ 0 then some r
    else (getO M.m m).bind fun x => (over M n 17 x.owner).bind fun o =>
      if o then some ((false, -28), M)
      else (stand M m n).bind fun M => (setWaits M n m).bind fun M => (settle M).map fun M => ((false, 0), M)

/-- the next one has it -/
def pass (M : MM) (m : Int) : Option MM :=
  (getO M.m m).bind fun x => match x.wait with
    | [] => setO M m 0
    | w :: r => (setO M m w).bind fun M => (setW M m r).bind fun M => setWaits M w 0

def unlock (M : MM) (m n : Int) : Option ((Int × Int) × MM) :=
  if ¬ (isIn M m = true ∧ 1 ≤ n ∧ n ≤ 16) then some ((0, -18), M)
  else (getO M.m m).bind fun x =>
    if x.owner ≠ n then some ((0, -28), M)
    else (pass M m).bind fun M => (settle M).bind fun M => (getO M.m m).map fun x => ((x.owner, 0), M)

def heldFrom (n : Int) : List Mx → Nat → List Int
  | [], _ => []
  | x :: r, m => if x.owner = n then (m : Int) :: heldFrom n r (m + 1) else heldFrom n r (m + 1)

def held (M : MM) (n : Int) : List Int := if 1 ≤ n ∧ n ≤ 16 then heldFrom n (M.m.drop 1) 1 else []

def freeL (n : Int) : List Int → MM → List Int → Option (List Int × MM)
  | [], M, out => some (out, M)
  | m :: r, M, out => (unlock M m n).bind fun x => freeL n r x.2 (if x.1.2 = 0 ∧ x.1.1 > 0 then out ++ [x.1.1] else out)

def free (M : MM) (n : Int) : Option (List Int × MM) := freeL n (held M n) M []

def owner (M : MM) (m : Int) : Int := if isIn M m then ((getO M.m m).map Mx.owner).getD 0 else 0

def waiting (M : MM) (m : Int) : List Int := if isIn M m then ((getO M.m m).map Mx.wait).getD [] else []

def mt0 : Mt := ⟨16, 16, 0⟩

def right (k : Int × Int) : Bool := decide (((k.1 = 0 ∨ k.1 = 1 ∨ k.1 = 2) ∧ k.2 = 0) ∨ (k.1 = 3 ∧ 1 ≤ k.2 ∧ k.2 ≤ 16))

def new (l : List (Int × Int)) : MM := ⟨⟨0, 0, 0, []⟩ :: l.map (fun k => ⟨k.1, k.2, 0, []⟩), List.replicate 17 mt0⟩

end MM

/-! ### the kernel -/
structure Un where
  acts : Int
  wups : Int
  susps : Int
  state : Int
  asleep : Bool
  base : Int
  pri : Int
  kind : Int
  obj : Int
  handle : Int
  lc : Int
  lv : Int
  deriving DecidableEq

structure SemM where
  byPri : Bool
  c : Int
  m : Int
  l : List (Int × Int)
  deriving DecidableEq

structure DatM where
  byPri : Bool
  room : Int
  q : DQ

structure PoolM where
  byPri : Bool
  a : Int
  n : Int
  z : Int
  q : MP

structure KM where
  pl : PlaceM
  tic : Int
  up : Int
  tb : Int
  last : Int
  ents : List Ent
  rdy : List (Int × Int)
  mm : MM
  us : List Un
  sems : List SemM
  datas : List DatM
  pools : List PoolM
  who : Int

namespace KM

def choose (K : KM) : KM := if K.pl.dispatch then { K with who := (K.rdy.head?.getD (0, 0)).1 } else K

def un (K : KM) (n : Int) : Option Un := getO K.us (n - 1)

def setU (K : KM) (n : Int) (u : Un) : KM := { K with us := K.us.set (n - 1).toNat u }

def enter (K : KM) (n : Int) : Option KM :=
  (K.un n).bind fun u => if u.state = 2 then (K.mm.pri n).map fun p => { K.setU n { u with pri := p } with rdy := (addL true K.rdy n p).2 } else some K

def act (K : KM) (n : Int) : Option (Int × KM) :=
  (K.un n).bind fun u =>
    if ¬ (0 ≤ u.acts ∧ u.acts ≤ 7) then none
    else if u.state = 16 then ((K.setU n { u with state := 2, lc := 0, lv := 0 }).enter n).map fun K => (0, K)
    else if u.acts ≥ 7 then some (-43, K)
    else some (0, K.setU n { u with acts := u.acts + 1 })

def settle1 (K : KM) (n : Int) : Option KM :=
  (K.un n).bind fun u => (K.mm.pri n).bind fun p =>
    if p = u.pri then some K
    else if (chgL true K.rdy n p).1 = true then some { K.setU n { u with pri := p } with rdy := (chgL true K.rdy n p).2 }
    else if u.kind = 0 ∨ u.kind = 1 ∨ u.kind = 2 ∨ u.kind = 7 then some { K.setU n { u with pri := p } with rdy := (chgL true K.rdy n p).2 }
    else none

def settleFrom (n : Nat) : Nat → KM → Option KM
  | 0, K => some K
  | k + 1, K => (K.settle1 n).bind fun K => settleFrom (n + 1) k K

def settle (K : KM) : Option KM := settleFrom 1 K.us.length K

def leave (K : KM) (n : Int) : Option KM :=
  (K.un n).bind fun u =>
    if u.kind = 3 then (getO K.sems (u.obj - 1)).map fun s => { K with sems := K.sems.set (u.obj - 1).toNat { s with l := rmL s.l n } }
    else if u.kind = 0 ∨ u.kind = 1 ∨ u.kind = 2 then some K
    else none

def forget (K : KM) (n : Int) : Option KM :=
  (K.un n).map fun u => { K.setU n { u with kind := 0, obj := 0, handle := 0 } with ents := delE u.handle K.ents }

def told (K : KM) (n c v : Int) : Option KM :=
  (K.forget n).bind fun K => (K.un n).bind fun u => (K.setU n { u with lc := c, lv := v }).enter n

def _root_.Go.Proofs.YtenonfkfoedfmaaGreatDoor.B.Un.release (u : Un) : Un :=
  if u.state = 4 then { u with state := 2, asleep := false } else if u.state = 12 then { u with state := 8, asleep := false } else u

def wake (K : KM) (n c v : Int) : Option KM := (K.un n).bind fun u => (K.setU n u.release).told n c v

def woken (v : Int) : List Int → KM → Option KM
  | [], K => some K
  | n :: r, K => if n > 0 then (K.wake n 0 v).bind fun K => woken v r K else woken v r K

/-- a time-out is laid -/
def wait (K : KM) (d arg : Int) : Option (Int × KM) :=
  if 0 ≤ d ∧ d ≤ 2147483647 ∧ 0 ≤ arg ∧ arg ≤ 1000 ∧ K.ents.length < 256 ∧ 0 ≤ K.up ∧ K.up ≤ 2 ^ 40 ∧ 0 ≤ K.last ∧ K.last ≤ 2 ^ 40
  then some (K.last + 1, { K with last := K.last + 1, ents := insE ⟨K.up + d + K.tic, K.last + 1, arg⟩ K.ents }) else none

def stay (K : KM) (kind obj tmo : Int) : Option KM :=
  (K.un K.who).bind fun u =>
    let u1 : Un := if kind ≠ 1 ∧ u.state = 2 then { u with state := 4, asleep := false } else u
    let K1 : KM := { K with rdy := rmL K.rdy K.who }
    if tmo ≥ 0 then (K1.wait tmo K.who).bind fun r => (r.2.setU K.who { u1 with kind := kind, obj := obj, handle := r.1 }).settle
    else (K1.setU K.who { u1 with kind := kind, obj := obj }).settle

def _root_.Go.Proofs.YtenonfkfoedfmaaGreatDoor.B.Un.kill (u : Un) : Bool × Un :=
  if u.state = 16 then (false, u)
  else if u.acts = 0 then (false, { u with state := 16, asleep := false, wups := 0, susps := 0 })
  else (true, { u with state := 2, asleep := false, wups := 0, susps := 0, acts := u.acts - 1 })

def over (K : KM) (n : Int) : Option KM :=
  (K.leave n).bind fun K => (K.forget n).bind fun K => (K.un n).bind fun u => if ¬ (0 ≤ u.acts ∧ u.acts ≤ 7) then none else
    (K.mm.free n).bind fun f => (f.2.setBase n u.base).bind fun b =>
      let K1 : KM := { K.setU n u.kill.2 with rdy := rmL K.rdy n, mm := b.2 }
      (woken 0 f.1 K1).bind fun K => (if u.kill.1 = true then (K.un n).bind fun u => (K.setU n { u with lc := 0, lv := 0 }).enter n else some K).bind fun K => K.settle

def tickL : List Int → KM → Option KM
  | [], K => some K
  | n :: r, K => (K.un n).bind fun u => (K.leave n).bind fun K => (K.wake n (if u.kind = 2 then 0 else -50) 0).bind fun K => (K.settle).bind fun K => tickL r K

def tick (K : KM) : Option KM :=
  if 0 ≤ K.up ∧ K.up ≤ 2 ^ 40 then
    (tickL ((dueE (K.up + K.tic) K.ents).map Ent.arg) { K with up := K.up + K.tic, ents := restE (K.up + K.tic) K.ents }).map choose
  else none

def intr (K : KM) (level : Int) : Int × KM := ((K.pl.enter level).1, ({ K with pl := (K.pl.enter level).2 } : KM).choose)

def retn (K : KM) : Int × KM := (K.pl.exit.1, ({ K with pl := K.pl.exit.2 } : KM).choose)

/-! ### what is told -/
structure Fact where
  state : Int
  pri : Int
  base : Int
  kind : Int
  obj : Int
  lc : Int
  lv : Int
  acts : Int
  wups : Int
  susps : Int

def task (K : KM) (n : Int) : Option Fact :=
  (K.un n).bind fun u => (K.mm.pri n).bind fun p => (K.mm.base n).map fun b =>
    ⟨if n = K.who then 1 else u.state, p, b, u.kind, u.obj, u.lc, u.lv, u.acts, u.wups, u.susps⟩

def state (K : KM) (n : Int) : Option Int := (K.task n).map Fact.state

/-! ### calls -/
def may (K : KM) (kind : Int) : Int := K.pl.may kind (decide (K.who = 0))

/-- a call of a kind: its code, its value -/
def call (K : KM) (kind : Int) (f : KM → Option ((Int × Int) × KM)) : Option ((Int × Int) × KM) :=
  if K.may kind ≠ 0 then some ((K.may kind, 0), K) else (f K).map fun r => (r.1, r.2.choose)

end KM

end Go.Proofs.YtenonfkfoedfmaaGreatDoor.B


/- The kernel as plain Lean: how it is made, and its calls. -/
namespace Go.Proofs.YtenonfkfoedfmaaGreatDoor.B
open Go
set_option linter.unusedVariables false

structure ConfM where
  tic : Int
  tasks : List (Int × Bool)
  sems : List (Bool × Int × Int)
  datas : List (Bool × Int)
  mtxs : List (Int × Int)
  pools : List (Bool × Int × Int)

def layoutM : Int → List (Bool × Int × Int) → List Int
  | _, [] => []
  | a, p :: r => stp a :: layoutM (stp a + p.2.1 * stp p.2.2) r

def bytesM : Int → List (Bool × Int × Int) → Int
  | a, [] => a
  | a, p :: r => bytesM (stp a + p.2.1 * stp p.2.2) r

/-- may there be such pools, from a place on? -/
def poolsOk : Int → List (Bool × Int × Int) → Bool
  | _, [] => true
  | a, p :: r => decide (mpGood (stp a) p.2.1 p.2.2) && poolsOk (stp a + p.2.1 * stp p.2.2) r

namespace ConfM

def ok (c : ConfM) : Bool :=
  decide (1 ≤ c.tic ∧ c.tic ≤ 1000 ∧ 1 ≤ c.tasks.length ∧ c.tasks.length ≤ 16 ∧ c.sems.length ≤ 8 ∧ c.datas.length ≤ 8 ∧ c.mtxs.length ≤ 8 ∧ c.pools.length ≤ 8)
  && c.tasks.all (fun x => decide (1 ≤ x.1 ∧ x.1 ≤ 16)) && c.sems.all (fun x => decide (1 ≤ x.2.2 ∧ x.2.2 ≤ 65535 ∧ 0 ≤ x.2.1 ∧ x.2.1 ≤ x.2.2))
  && c.datas.all (fun x => decide (0 ≤ x.2 ∧ x.2 ≤ 64)) && c.mtxs.all MM.right && poolsOk 0 c.pools

end ConfM

namespace KM

def unNew (pri : Int) : Un := ⟨0, 0, 0, 16, false, pri, pri, 0, 0, 0, 0, 0⟩

def new0 (c : ConfM) : KM :=
  ⟨⟨[], false, false⟩, c.tic, 0, 0, 0, [], [], MM.new c.mtxs, [], c.sems.map (fun s => ⟨s.1, s.2.1, s.2.2, []⟩), c.datas.map (fun d => ⟨d.1, d.2, dqNew⟩),
    List.zipWith (fun a p => ⟨p.1, a, p.2.1, p.2.2, mp0⟩) (layoutM 0 c.pools) c.pools, 0⟩

def newT (i : Nat) : List (Int × Bool) → KM → Option KM
  | [], K => some K
  | x :: r, K => (K.mm.setBase ((i : Int) + 1) x.1).bind fun b => newT (i + 1) r { K with mm := b.2, us := K.us ++ [unNew x.1] }

def newA (i : Nat) : List (Int × Bool) → KM → Option KM
  | [], K => some K
  | x :: r, K => if x.2 = true then (K.act ((i : Int) + 1)).bind fun a => newA (i + 1) r a.2 else newA (i + 1) r K

def new (c : ConfM) : Option KM := ((newT 0 c.tasks (new0 c)).bind (newA 0 c.tasks)).map choose

abbrev Ans := Option ((Int × Int) × KM)

/-- the task that a call names -/
def named (K : KM) (n : Int) (poly : Bool) : Int := if 1 ≤ n ∧ n ≤ K.us.length then n else if n = 0 ∧ poly = true then K.who else 0

def byTask (K : KM) (n : Int) (poly : Bool) (f : Int → Ans) : Ans := if K.named n poly = 0 then some ((-18, 0), K) else f (K.named n poly)

def cAct (n : Int) (K : KM) : Ans := K.byTask n true fun n => (K.act n).map fun r => ((r.1, 0), r.2)

def cIact (n : Int) (K : KM) : Ans := K.byTask n false fun n => (K.act n).map fun r => ((r.1, 0), r.2)

def cExt (K : KM) : Ans := if K.who = 0 then some ((-18, 0), K) else (({ K with pl := { K.pl with locked := false, disabled := false } } : KM).over K.who).map fun K => ((0, 0), K)

def cTer (n : Int) (K : KM) : Ans := K.byTask n false fun n => (K.un n).bind fun u =>
  if n = K.who then some ((-28, 0), K) else if u.state = 16 then some ((-41, 0), K) else (K.over n).map fun K => ((0, 0), K)

def cChg (n pri : Int) (K : KM) : Ans := K.byTask n true fun n => (K.un n).bind fun u =>
  if pri < 0 ∨ pri > 16 then some ((-17, 0), K)
  else if u.state = 16 then some ((-41, 0), K)
  else (K.mm.setBase n (if pri = 0 then u.base else pri)).bind fun b =>
    if b.1 ≠ 0 then some ((b.1, 0), { K with mm := b.2 })
    else (({ K with mm := b.2 } : KM).settle).bind fun K => (K.mm.pri n).map fun p => ((0, 0), { K with rdy := (chgL true K.rdy n p).2 })

def cPri (n : Int) (K : KM) : Ans := K.byTask n true fun n => (K.un n).bind fun u => if u.state = 16 then some ((-41, 0), K) else (K.mm.pri n).map fun p => ((0, p), K)

def cTid (K : KM) : Ans := if K.who = 0 then some ((-18, 0), K) else some ((0, K.who), K)

def cItid (K : KM) : Ans := some ((0, K.who), K)

def cSlp (K : KM) : Ans := if K.who = 0 then some ((-18, 0), K) else (K.un K.who).bind fun u =>
  if ¬ (0 ≤ u.wups ∧ u.wups ≤ 7) then none
  else if u.state ≠ 2 then some ((-41, 0), K)
  else if u.wups > 0 then some ((0, 0), K.setU K.who { u with wups := u.wups - 1 })
  else ((K.setU K.who { u with state := 4, asleep := true }).stay 1 0 (-1)).map fun K => ((1, 0), K)

def wup (K : KM) (n : Int) : Ans := (K.un n).bind fun u =>
  if ¬ (0 ≤ u.wups ∧ u.wups ≤ 7) then none
  else if u.state = 16 then some ((-41, 0), K)
  else if u.asleep = true then ((K.setU n u.release).told n 0 0).map fun K => ((0, 0), K)
  else if u.wups ≥ 7 then some ((-43, 0), K)
  else some ((0, 0), K.setU n { u with wups := u.wups + 1 })

def cIwup (n : Int) (K : KM) : Ans := K.byTask n false fun n => K.wup n

def cSus (n : Int) (K : KM) : Ans := K.byTask n true fun n => (K.un n).bind fun u =>
  if ¬ (0 ≤ u.susps ∧ u.susps ≤ 7) then none
  else if n = K.who ∧ K.pl.disabled = true then some ((-25, 0), K)
  else if u.state = 16 then some ((-41, 0), K)
  else if u.susps ≥ 7 then some ((-43, 0), K)
  else some ((0, 0), { K.setU n { u with susps := u.susps + 1, state := if u.state = 2 then 8 else if u.state = 4 then 12 else u.state } with rdy := rmL K.rdy n })

def cDly (d : Int) (K : KM) : Ans := if K.who = 0 then some ((-18, 0), K) else if d < 0 ∨ d > 2147483647 then some ((-17, 0), K) else (K.stay 2 0 d).map fun K => ((1, 0), K)

def cSem (o tmo : Int) (K : KM) : Ans :=
  if ¬ (1 ≤ o ∧ o ≤ K.sems.length) then some ((-18, 0), K)
  else if ¬ (-1 ≤ tmo ∧ tmo ≤ 2147483647) then some ((-17, 0), K)
  else (getO K.sems (o - 1)).bind fun s =>
    if s.c > 0 then some ((0, 0), { K with sems := K.sems.set (o - 1).toNat { s with c := s.c - 1 } })
    else if tmo = 0 then some ((-50, 0), K)
    else (K.mm.pri K.who).bind fun p => (({ K with sems := K.sems.set (o - 1).toNat { s with l := (addL s.byPri s.l K.who p).2 } } : KM).stay 3 o tmo).map fun K => ((1, 0), K)

def cLoc (o : Int) (K : KM) : Ans :=
  if ¬ (1 ≤ o ∧ o < K.mm.m.length) then some ((-18, 0), K)
  else (K.mm.lock o K.who).bind fun r =>
    if r.1.1 = true ∨ r.1.2 ≠ 0 then (({ K with mm := r.2 } : KM).settle).map fun K => ((r.1.2, 0), K)
    else (({ K with mm := r.2 } : KM).stay 7 o (-1)).map fun K => ((1, 0), K)

def cUnl (o : Int) (K : KM) : Ans :=
  if ¬ (1 ≤ o ∧ o < K.mm.m.length) then some ((-18, 0), K)
  else (K.mm.unlock o K.who).bind fun r => (woken 0 [r.1.1] { K with mm := r.2 }).bind fun K => K.settle.map fun K => ((r.1.2, 0), K)

end KM

end Go.Proofs.YtenonfkfoedfmaaGreatDoor.B


/- The kernel as plain Lean: mutexes for which nobody waits. -/
namespace Go.Proofs.YtenonfkfoedfmaaGreatDoor.B
open Go
set_option linter.unusedVariables false

theorem getO_nat {α : Type} (l : List α) (n : Nat) : getO l (n : Int) = l[n]? := by simp [getO]

theorem getO_some {α : Type} {l : List α} {i : Int} {a : α} (h : getO l i = some a) : 0 ≤ i ∧ i.toNat < l.length ∧ l[i.toNat]? = some a := by
  unfold getO at h
  split at h
  · next h0 => exact ⟨h0, (List.getElem?_eq_some_iff.1 h).1, h⟩
  · cases h

theorem getO_of {α : Type} {l : List α} {i : Int} {a : α} (h0 : 0 ≤ i) (h : l[i.toNat]? = some a) : getO l i = some a := by
  unfold getO
  rw [if_pos h0, h]

theorem getO_ex {α : Type} {l : List α} {i : Int} (h0 : 0 ≤ i) (h : i.toNat < l.length) : ∃ a, getO l i = some a ∧ l[i.toNat]? = some a := ⟨_, getO_of h0 (List.getElem?_eq_getElem h), List.getElem?_eq_getElem h⟩

namespace MM

/-- a task's priority is its base -/
def fix (x : Mt) : Mt := ⟨x.base, x.base, x.waits⟩

theorem rkM_plain {rk : Int → Option Int} {n d : Int} : ∀ {l : List Mx} {p : Int}, (∀ x ∈ l, x.wait = [] ∧ x.attr ≠ 3) → rkM rk n d l p = some p := by
  intro l
  induction l with
  | nil => intro p _; rfl
  | cons x r ih =>
    intro p h
    have hx := h x (List.mem_cons_self ..)
    have hr := ih (p := p) fun y hy => h y (List.mem_cons_of_mem _ hy)
    rw [rkM, hx.1]
    split
    · exact hr
    · rw [if_neg hx.2]
      split
      · simp [rkL, hr]
      · exact hr

theorem reckon_plain {M : MM} (h : ∀ x ∈ M.m, x.wait = [] ∧ x.attr ≠ 3) (f : Nat) (n d : Int) : reckon M (f + 1) n d = (getO M.t n).map Mt.base := by
  rw [reckon]
  cases getO M.t n with
  | none => rfl
  | some t => exact rkM_plain fun x hx => h x (List.drop_subset _ _ hx)

theorem prs_plain {M : MM} (h : ∀ x ∈ M.m, x.wait = [] ∧ x.attr ≠ 3) : ∀ (k n : Nat), n + k ≤ M.t.length → prs M n k = some (((M.t.drop n).take k).map Mt.base) := by
  intro k
  induction k with
  | zero => intro n _; simp [prs]
  | succ k ih =>
    intro n hn
    have hlt : n < M.t.length := by omega
    rw [prs, reckon_plain h, getO_nat, List.getElem?_eq_getElem hlt, ih (n + 1) (by omega), List.drop_eq_getElem_cons hlt]
    rfl

theorem anew_plain (ps : List Int) : ∀ (k m : Nat) {M : MM}, (∀ x ∈ M.m, x.wait = [] ∧ x.attr ≠ 3) → m + k ≤ M.m.length → anew ps m k M = some () := by
  intro k
  induction k with
  | zero => intro m M _ _; rfl
  | succ k ih =>
    intro m M h hm
    have hlt : m < M.m.length := by omega
    rw [anew, getO_nat, List.getElem?_eq_getElem hlt]
    simp only [Option.bind_some]
    rw [(h _ (List.getElem_mem hlt)).1, if_pos (by simp)]
    simp only [anew1, Option.bind_some]
    exact ih (m + 1) h (by omega)

theorem setPris_spec (ps : List Int) : ∀ (k n : Nat) (M : MM), (∀ i, n ≤ i → i < n + k → ∃ x, M.t[i]? = some x ∧ ps[i]? = some x.base) →
    ∃ t, setPris ps n k M = some { M with t := t } ∧ ∀ i, t[i]? = if n ≤ i ∧ i < n + k then M.t[i]?.map fix else M.t[i]? := by
  intro k
  induction k with
  | zero => intro n M _; exact ⟨M.t, rfl, fun i => by rw [if_neg (by omega)]⟩
  | succ k ih =>
    intro n M h
    obtain ⟨x, hx, hp⟩ := h n (Nat.le_refl _) (by omega)
    have hlt := (List.getElem?_eq_some_iff.1 hx).1
    obtain ⟨t, ht, hi⟩ := ih (n + 1) { M with t := M.t.set n (fix x) } (fun i h1 h2 => by
      obtain ⟨y, hy, hq⟩ := h i (by omega) (by omega)
      exact ⟨y, by simp only [List.getElem?_set]; rw [if_neg (by omega)]; exact hy, hq⟩)
    refine ⟨t, ?_, fun i => ?_⟩
    · rw [setPris, getO_nat, hp]
      simp only [Option.bind_some]
      unfold setPri
      rw [getO_nat, hx]
      simp only [Option.map_some, Option.bind_some, Int.toNat_natCast]
      exact ht
    · rw [hi]
      simp only [List.getElem?_set]
      by_cases e : n = i
      · subst e
        have e1 : ¬ (n + 1 ≤ n ∧ n < n + 1 + k) := by omega
        have e2 : n ≤ n ∧ n < n + (k + 1) := by omega
        simp only [if_neg e1, if_pos e2, if_pos hlt, hx, if_true, Option.map_some]
      · by_cases e2 : n + 1 ≤ i ∧ i < n + 1 + k
        · have e3 : n ≤ i ∧ i < n + (k + 1) := by omega
          simp [e2, e3, e]
        · have e3 : ¬ (n ≤ i ∧ i < n + (k + 1)) := by omega
          simp only [if_neg e2, if_neg e3, if_neg e]

theorem setPris_plain {M : MM} (h : M.t.length = 17) (h0 : M.t[0]?.map fix = M.t[0]?) : setPris (0 :: ((M.t.drop 1).take 16).map Mt.base) 1 16 M = some { M with t := M.t.map fix } := by
  obtain ⟨t, ht, hi⟩ := setPris_spec (0 :: ((M.t.drop 1).take 16).map Mt.base) 16 1 M (fun i h1 h2 => by
    have hlt : i < M.t.length := by omega
    refine ⟨_, List.getElem?_eq_getElem hlt, ?_⟩
    obtain ⟨j, rfl⟩ : ∃ j, i = j + 1 := ⟨i - 1, by omega⟩
    rw [List.getElem?_cons_succ, List.getElem?_map, List.getElem?_take_of_lt (by omega), List.getElem?_drop, Nat.add_comm 1 j, List.getElem?_eq_getElem hlt]
    rfl)
  rw [ht]
  congr 2
  apply List.ext_getElem?
  intro i
  rw [hi, List.getElem?_map]
  by_cases e : 1 ≤ i ∧ i < 1 + 16
  · rw [if_pos e]
  · rw [if_neg e]
    by_cases e0 : i = 0
    · subst e0; exact h0.symm
    · rw [List.getElem?_eq_none (by omega)]; rfl

theorem settle_plain {M : MM} (hm : ∀ x ∈ M.m, x.wait = [] ∧ x.attr ≠ 3) (h : M.t.length = 17) (h0 : M.t[0]?.map fix = M.t[0]?) : M.settle = some { M with t := M.t.map fix } := by
  unfold settle
  rw [prs_plain hm 16 1 (by omega)]
  simp only [Option.bind_some]
  cases hl : M.m.length with
  | zero =>
    rw [anew]
    simp only [Option.bind_some]
    exact setPris_plain h h0
  | succ k =>
    rw [anew_plain _ (k + 1 - 1) 1 hm (by omega)]
    simp only [Option.bind_some]
    exact setPris_plain h h0

/-- nobody waits, no ceilings, and priorities are as they were given -/
structure Plain (M : MM) : Prop where
  m : ∀ x ∈ M.m, x.wait = [] ∧ x.attr ≠ 3
  len : M.t.length = 17
  t : ∀ x ∈ M.t, fix x = x ∧ x.waits = 0

theorem Plain.map {M : MM} (h : Plain M) : M.t.map fix = M.t := by
  have : M.t.map fix = M.t.map id := List.map_congr_left fun x hx => (h.t x hx).1
  rw [this, List.map_id]

theorem Plain.z {M : MM} (h : Plain M) : M.t[0]?.map fix = M.t[0]? := by
  cases h0 : M.t[0]? with
  | none => rfl
  | some x => simp [(h.t x (List.mem_of_getElem? h0)).1]

theorem Plain.settle {M : MM} (h : Plain M) : M.settle = some M := by
  rw [settle_plain h.m h.len h.z, h.map]

theorem Plain.get {M : MM} (h : Plain M) {n : Int} (hn : 1 ≤ n ∧ n ≤ 16) : ∃ b, getO M.t n = some ⟨b, b, 0⟩ ∧ M.t[n.toNat]? = some ⟨b, b, 0⟩ := by
  obtain ⟨x, h1, h2⟩ := getO_ex (l := M.t) (i := n) (by omega) (by rw [h.len]; omega)
  have := h.t x (List.mem_of_getElem? h2)
  obtain ⟨b, p, w⟩ := x
  have e1 : b = p := by have := congrArg Mt.pri this.1; simpa [fix] using this
  have e2 : w = 0 := this.2
  subst e1; subst e2
  exact ⟨b, h1, h2⟩

theorem against_plain {M : MM} {n p tw : Int} : ∀ {l : List Mx} {m : Nat}, (∀ x ∈ l, x.attr ≠ 3) → against M n p tw l m = false := by
  intro l
  induction l with
  | nil => intro m _; rfl
  | cons x r ih =>
    intro m h
    rw [against, if_neg (fun hc => h x (List.mem_cons_self ..) hc.1)]
    exact ih fun y hy => h y (List.mem_cons_of_mem _ hy)

theorem Plain.setBase {M : MM} (h : Plain M) {n p : Int} (hn : 1 ≤ n ∧ n ≤ 16) (hp : 1 ≤ p ∧ p ≤ 16) : M.setBase n p = some (0, { M with t := M.t.set n.toNat ⟨p, p, 0⟩ }) := by
  obtain ⟨b, h1, h2⟩ := h.get hn
  unfold MM.setBase
  rw [if_neg (by omega), if_neg (by omega), h1]
  simp only [Option.bind_some]
  rw [against_plain (fun x hx => (h.m x (List.drop_subset _ _ hx)).2)]
  simp only [Bool.false_eq_true, if_false]
  unfold setB
  rw [h1]
  simp only [Option.map_some, Option.bind_some]
  have hlt := (List.getElem?_eq_some_iff.1 h2).1
  rw [settle_plain (M := { M with t := M.t.set n.toNat ⟨p, b, 0⟩ }) h.m (by simp [h.len])]
  · simp only [Option.map_some, List.map_set]
    rw [h.map]
    rfl
  · have e := h.z
    simp only [List.getElem?_set]
    rw [if_neg (by omega)]
    exact e

theorem Plain.set {M : MM} (h : Plain M) {n p : Int} : Plain { M with t := M.t.set n.toNat ⟨p, p, 0⟩ } := by
  refine ⟨h.m, by simp [h.len], fun x hx => ?_⟩
  rcases List.mem_or_eq_of_mem_set hx with hx | rfl
  · exact h.t x hx
  · exact ⟨rfl, rfl⟩

theorem new_plain {l : List (Int × Int)} (h : ∀ x ∈ l, x.1 ≠ 3) : Plain (new l) := by
  refine ⟨fun x hx => ?_, rfl, fun x hx => ?_⟩
  · rcases List.mem_cons.1 hx with rfl | hx
    · exact ⟨rfl, by decide⟩
    · obtain ⟨y, hy, rfl⟩ := List.mem_map.1 hx
      exact ⟨rfl, h y hy⟩
  · have := (List.mem_replicate.1 hx).2
    subst this
    exact ⟨rfl, rfl⟩

theorem Plain.owned {M : MM} (h : Plain M) {m : Nat} {o : Int} : ∀ M', setO M m o = some M' → Plain M' := by
  intro M' hM
  unfold setO at hM
  obtain ⟨x, hx, rfl⟩ := Option.map_eq_some_iff.1 hM
  obtain ⟨-, -, h2⟩ := getO_some hx
  refine ⟨fun y hy => ?_, h.len, h.t⟩
  rcases List.mem_or_eq_of_mem_set hy with hy | rfl
  · exact h.m y hy
  · exact h.m x (List.mem_of_getElem? h2)

end MM

end Go.Proofs.YtenonfkfoedfmaaGreatDoor.B


/- Parts by number. -/
namespace Go.Proofs.YtenonfkfoedfmaaGreatDoor.B
open Go
set_option linter.unusedVariables false

abbrev starN (n : Nat) (F : Nat → SP) : List SP := (List.range n).map F

theorem star_perm {n i : Nat} (hi : i < n) (F : Nat → SP) : (starN n F).Perm (F i :: ((List.range n).erase i).map F) :=
  (List.perm_cons_erase (List.mem_range.2 hi)).map F

theorem star_back {n i : Nat} (hi : i < n) {F F' : Nat → SP} (h : ∀ j, j ≠ i → F' j = F j) : (F' i :: ((List.range n).erase i).map F).Perm (starN n F') := by
  have e : ((List.range n).erase i).map F = ((List.range n).erase i).map F' := by
    apply List.map_congr_left
    intro j hj
    have := (List.nodup_range (n := n)).mem_erase_iff.1 hj
    exact (h j this.1).symm
  rw [e]
  exact (star_perm hi F').symm

/-- one of them is taken out; another one may be laid in its place -/
theorem star_open {e w L n i} {F : Nat → SP} (h : Ok e (oksH (starN n F) :: L) w) (hi : i < n) :
    ∃ H : SP, Ok e (F i :: H :: L) w ∧ ∀ F' : Nat → SP, (∀ j, j ≠ i → F' j = F j) → ∀ e' L' w', Ok e' (F' i :: H :: L') w' → Ok e' (oksH (starN n F') :: L') w' := by
  refine ⟨oksH (((List.range n).erase i).map F), ?_, fun F' hF e' L' w' h' => ?_⟩
  · have h1 := h.unpack.perm ((star_perm hi F).append_right L)
    exact Ok.p1 (Ok.pack (h1.perm (List.perm_middle (l₁ := ((List.range n).erase i).map F) (a := F i) (l₂ := L)).symm))
  · have h1 : Ok e' (((List.range n).erase i).map F ++ (F' i :: L')) w' := h'.p1.unpack
    have h2 := h1.perm (List.perm_middle (l₁ := ((List.range n).erase i).map F) (a := F' i) (l₂ := L'))
    exact Ok.pack (h2.perm ((star_back hi hF).append_right L'))

theorem star_congr {n : Nat} {F G : Nat → SP} (h : ∀ i, i < n → F i = G i) : starN n F = starN n G := List.map_congr_left fun i hi => h i (List.mem_range.1 hi)

theorem star_zero {e w L} {F : Nat → SP} (h : Ok e L w) : Ok e (oksH (starN 0 F) :: L) w := Ok.pack (M := []) h

/-- one more -/
theorem star_snoc {e w L n} {F : Nat → SP} (h : Ok e (F n :: oksH (starN n F) :: L) w) : Ok e (oksH (starN (n + 1) F) :: L) w := by
  have h1 : Ok e (starN n F ++ (F n :: L)) w := h.p1.unpack
  have e1 : starN (n + 1) F = starN n F ++ [F n] := by simp [starN, List.range_succ]
  rw [e1]
  refine Ok.pack ?_
  rw [List.append_assoc]
  exact h1

end Go.Proofs.YtenonfkfoedfmaaGreatDoor.B


/- Those that may run, as one row in order: what its parts by priority are. -/
namespace Go.Proofs.YtenonfkfoedfmaaGreatDoor.B
open Go
set_option linter.unusedVariables false

/-- the tasks of a priority -/
def rowR (l : List (Int × Int)) (p : Int) : List Int := ids (l.filter fun x => x.2 == p)

structure RdOk (l : List (Int × Int)) : Prop where
  ok : okL l
  sorted : l.Pairwise fun a b => a.2 ≤ b.2
  bd : ∀ x ∈ l, 1 ≤ x.2 ∧ x.2 ≤ 16

theorem rdOk_nil : RdOk [] := ⟨okL_nil, List.Pairwise.nil, by simp⟩

theorem pp_drop (l : List (Int × Int)) (y : Int) : ∀ b ∈ l.drop (pp l y l.length), y < b.2 := by
  obtain ⟨s1, _⟩ := pp_spec l y l.length
  intro b hb
  obtain ⟨i, hi, rfl⟩ := List.getElem_of_mem hb
  rw [List.getElem_drop]
  have hlt : pp l y l.length + i < l.length := by simp at hi; omega
  have := s1 (pp l y l.length + i) (by omega) hlt
  rwa [List.getElem?_eq_getElem hlt] at this

theorem pp_take {l : List (Int × Int)} (y : Int) (h : l.Pairwise fun a b => a.2 ≤ b.2) : ∀ a ∈ l.take (pp l y l.length), a.2 ≤ y := by
  obtain ⟨_, s2⟩ := pp_spec l y l.length
  have hk := pp_le l y l.length
  have hg := List.pairwise_iff_getElem.1 h
  intro a ha
  obtain ⟨i, hi, rfl⟩ := List.getElem_of_mem ha
  rw [List.getElem_take]
  have hlt : i < pp l y l.length := by simp at hi; omega
  have h2 := s2 (by omega)
  rw [List.getElem?_eq_getElem (by omega)] at h2
  simp only [Option.getD_some] at h2
  rcases Nat.lt_or_ge i (pp l y l.length - 1) with h3 | h3
  · have := hg i (pp l y l.length - 1) (by omega) (by omega) h3
    omega
  · have : i = pp l y l.length - 1 := by omega
    simp only [this]
    omega

theorem rowR_put (l : List (Int × Int)) (n q p : Int) : rowR (putL true l (n, q)) p = if q = p then rowR l p ++ [n] else rowR l p := by
  have hd := pp_drop l q
  have hp : putK true l q = pp l q l.length := rfl
  unfold rowR putL ids
  rw [hp, List.filter_append, List.filter_append]
  have e1 : l.filter (fun x => x.2 == p) = (l.take (pp l q l.length)).filter (fun x => x.2 == p) ++ (l.drop (pp l q l.length)).filter (fun x => x.2 == p) := by
    rw [← List.filter_append, List.take_append_drop]
  by_cases h : q = p
  · subst h
    have e2 : (l.drop (pp l q l.length)).filter (fun x => x.2 == q) = [] := by
      rw [List.filter_eq_nil_iff]
      intro a ha
      have := hd a ha
      simp; omega
    rw [if_pos rfl, e1, e2]
    simp
  · rw [if_neg h, e1]
    simp [h]

theorem atI_cons (x : Int × Int) (l : List (Int × Int)) (n : Int) : atI (x :: l) n = if x.1 = n then 0 else if atI l n < 0 then -1 else atI l n + 1 := by
  unfold atI
  rw [List.findIdx?_cons]
  by_cases h : x.1 = n
  · simp [h]
  · have h2 : (x.1 == n) = false := by simpa using h
    simp only [h2, h, if_false, Bool.false_eq_true]
    cases hf : l.findIdx? (fun p => p.1 == n) with
    | none => simp
    | some i =>
      simp only [Option.map_some]
      rw [if_neg (by omega)]
      omega

theorem rmL_cons (x : Int × Int) (l : List (Int × Int)) (n : Int) : rmL (x :: l) n = if x.1 = n then l else x :: rmL l n := by
  have hb := atI_bd l n
  unfold rmL rmAt
  rw [atI_cons]
  by_cases h : x.1 = n
  · simp [h]
  · rw [if_neg h, if_neg h]
    by_cases h2 : atI l n < 0
    · rw [if_pos h2, if_pos h2]; rfl
    · rw [if_neg h2, if_neg h2, if_neg (by omega)]
      have e : (atI l n + 1).toNat = (atI l n).toNat + 1 := by omega
      rw [e]
      simp

theorem rmL_filter {l : List (Int × Int)} (n : Int) (h : (ids l).Nodup) : rmL l n = l.filter fun x => !(x.1 == n) := by
  induction l with
  | nil => rfl
  | cons x l ih =>
    have hn := List.nodup_cons.1 h
    rw [rmL_cons]
    by_cases hx : x.1 = n
    · rw [if_pos hx, List.filter_cons_of_neg (by simp [hx]), List.filter_eq_self.2]
      intro y hy
      have : y.1 ≠ n := fun e => hn.1 (List.mem_map.2 ⟨y, hy, by rw [e, hx]⟩)
      simpa using this
    · rw [if_neg hx, List.filter_cons_of_pos (by simpa using hx), ih hn.2]

theorem rowR_sub (l : List (Int × Int)) (p : Int) : (rowR l p).Sublist (ids l) := List.filter_sublist.map _

theorem rowR_rm {l : List (Int × Int)} (n p : Int) (h : (ids l).Nodup) : rowR (rmL l n) p = (rowR l p).erase n := by
  rw [List.Nodup.erase_eq_filter ((rowR_sub l p).nodup h), rmL_filter n h]
  unfold rowR ids
  rw [List.filter_map, List.filter_filter, List.filter_filter]
  congr 1
  apply List.filter_congr
  intro x _
  simp [Function.comp, Bool.and_comm, bne]

theorem priL_cons (x : Int × Int) (l : List (Int × Int)) (n : Int) : priL (x :: l) n = if x.1 = n then x.2 else priL l n := by
  have hb := atI_bd l n
  unfold priL
  rw [atI_cons]
  by_cases h : x.1 = n
  · simp [h]
  · rw [if_neg h, if_neg h]
    by_cases h2 : atI l n < 0
    · rw [if_pos h2, if_pos h2]; rfl
    · rw [if_neg h2, if_neg h2, if_neg (by omega)]
      have e : (atI l n + 1).toNat = (atI l n).toNat + 1 := by omega
      rw [e]
      simp

theorem priL_no {l : List (Int × Int)} {n : Int} (h : n ∉ ids l) : priL l n = 0 := by
  unfold priL
  rw [if_pos (atI_neg.2 h)]

theorem priL_mem {l : List (Int × Int)} {n p : Int} (h : (ids l).Nodup) (hm : (n, p) ∈ l) : priL l n = p := by
  induction l with
  | nil => cases hm
  | cons x l ih =>
    have hn := List.nodup_cons.1 h
    rw [priL_cons]
    rcases List.mem_cons.1 hm with rfl | hm
    · simp
    · have : x.1 ≠ n := fun e => hn.1 (List.mem_map.2 ⟨_, hm, e.symm⟩)
      rw [if_neg this, ih hn.2 hm]

theorem mem_ids {l : List (Int × Int)} {n : Int} : n ∈ ids l ↔ ∃ p, (n, p) ∈ l := by
  constructor
  · intro h
    obtain ⟨⟨a, b⟩, hx, rfl⟩ := List.mem_map.1 h
    exact ⟨b, hx⟩
  · rintro ⟨p, h⟩; exact List.mem_map.2 ⟨_, h, rfl⟩

theorem priL_perm {l m : List (Int × Int)} (h : (ids l).Nodup) (hp : m.Perm l) (n : Int) : priL m n = priL l n := by
  have hm : (ids m).Nodup := (hp.map Prod.fst).nodup_iff.2 h
  by_cases hn : n ∈ ids l
  · obtain ⟨p, hq⟩ := mem_ids.1 hn
    rw [priL_mem h hq, priL_mem hm (hp.mem_iff.2 hq)]
  · rw [priL_no hn, priL_no fun h2 => hn ((hp.map Prod.fst).mem_iff.1 h2)]

theorem priL_put {l : List (Int × Int)} {n q : Int} (h : (ids l).Nodup) (hn : n ∉ ids l) (i : Int) : priL (putL true l (n, q)) i = if i = n then q else priL l i := by
  have h2 : (ids ((n, q) :: l)).Nodup := List.nodup_cons.2 ⟨hn, h⟩
  rw [priL_perm h2 (putL_perm true l (n, q)), priL_cons]
  by_cases e : n = i
  · simp [e]
  · simp [e, Ne.symm e]

theorem priL_rm {l : List (Int × Int)} (n i : Int) (h : (ids l).Nodup) : priL (rmL l n) i = if i = n then 0 else priL l i := by
  have hs := rmL_sub l n
  have hn2 : (ids (rmL l n)).Nodup := (hs.map Prod.fst).nodup h
  by_cases e : i = n
  · subst e
    rw [if_pos rfl, priL_no]
    rw [rmL_filter i h]
    intro hm
    obtain ⟨p, hp⟩ := mem_ids.1 hm
    simp at hp
  · rw [if_neg e]
    by_cases hi : i ∈ ids l
    · obtain ⟨p, hp⟩ := mem_ids.1 hi
      rw [priL_mem h hp, priL_mem hn2]
      rw [rmL_filter n h]
      exact List.mem_filter.2 ⟨hp, by simpa using e⟩
    · rw [priL_no hi, priL_no fun hm => hi ((hs.map Prod.fst).subset hm)]

theorem priL_pos {l : List (Int × Int)} (h : RdOk l) (n : Int) : (0 < priL l n ↔ n ∈ ids l) ∧ 0 ≤ priL l n ∧ priL l n ≤ 16 := by
  by_cases hn : n ∈ ids l
  · obtain ⟨p, hp⟩ := mem_ids.1 hn
    rw [priL_mem h.ok.1 hp]
    have := h.bd _ hp
    simp only at this
    exact ⟨⟨fun _ => hn, fun _ => by omega⟩, by omega, by omega⟩
  · rw [priL_no hn]
    exact ⟨⟨fun h => by omega, fun h => absurd h hn⟩, by omega, by omega⟩

theorem rdOk_put {l : List (Int × Int)} {n p : Int} (h : RdOk l) (hn : 1 ≤ n ∧ n ≤ 16) (hp : 1 ≤ p ∧ p ≤ 16) (hm : n ∉ ids l) : RdOk (putL true l (n, p)) := by
  refine ⟨okL_put h.ok hn hm, ?_, fun x hx => ?_⟩
  · have hd := pp_drop l p
    have ht := pp_take p h.sorted
    have hk : putK true l p = pp l p l.length := rfl
    unfold putL
    rw [hk]
    rw [List.append_assoc]
    refine List.pairwise_append.2 ⟨h.sorted.sublist (List.take_sublist ..), ?_, ?_⟩
    · refine List.pairwise_append.2 ⟨List.pairwise_singleton .., h.sorted.sublist (List.drop_sublist ..), ?_⟩
      intro a ha b hb
      simp only [List.mem_singleton] at ha
      subst ha
      have := hd b hb
      simp only; omega
    · intro a ha b hb
      have h1 := ht a ha
      rcases List.mem_append.1 hb with hb | hb
      · simp only [List.mem_singleton] at hb
        subst hb
        exact h1
      · have := hd b hb
        omega
  · rcases putL_mem.1 hx with rfl | hx
    · exact hp
    · exact h.bd x hx

theorem rdOk_sub {l m : List (Int × Int)} (h : RdOk l) (hs : m.Sublist l) : RdOk m := ⟨okL_sub h.ok hs, h.sorted.sublist hs, fun x hx => h.bd x (hs.subset hx)⟩

theorem rdOk_rm {l : List (Int × Int)} {n : Int} (h : RdOk l) : RdOk (rmL l n) := rdOk_sub h (rmL_sub l n)

theorem rowR_mem {l : List (Int × Int)} {n p : Int} : n ∈ rowR l p ↔ (n, p) ∈ l := by
  unfold rowR
  rw [mem_ids]
  constructor
  · rintro ⟨q, h⟩
    obtain ⟨h1, h2⟩ := List.mem_filter.1 h
    simp at h2; subst h2; exact h1
  · intro h; exact ⟨p, List.mem_filter.2 ⟨h, by simp⟩⟩

/-- the priorities that have tasks, rising -/
def psR (l : List (Int × Int)) : Nat → List Int
  | 0 => []
  | k + 1 => psR l k ++ if rowR l ((k : Int) + 1) = [] then [] else [(k : Int) + 1]

theorem rowR_first {x : Int × Int} {l : List (Int × Int)} (h : RdOk (x :: l)) : (rowR (x :: l) x.2).head? = some x.1 ∧ ∀ p, p < x.2 → rowR (x :: l) p = [] := by
  refine ⟨by simp [rowR, ids], fun p hp => ?_⟩
  have hs := (List.pairwise_cons.1 h.sorted).1
  unfold rowR ids
  rw [List.filter_eq_nil_iff.2, List.map_nil]
  intro a ha
  rcases List.mem_cons.1 ha with rfl | ha
  · simp; omega
  · have := hs a ha
    simp; omega

/-! ### the word of bits -/
structure BitsR (W : Nat) (l : List (Int × Int)) : Prop where
  lt : W < 2 ^ 16
  bit : ∀ i : Nat, i < 16 → (W.testBit i = true ↔ rowR l ((i : Int) + 1) ≠ [])

theorem bitsR_nil : BitsR 0 [] := ⟨by decide, fun i _ => by simp [rowR]⟩

theorem bitsR_zero {W : Nat} {l : List (Int × Int)} (h : BitsR W l) (hl : RdOk l) : W = 0 ↔ l = [] := by
  constructor
  · rintro rfl
    cases l with
    | nil => rfl
    | cons x l =>
      have hb := hl.bd x (List.mem_cons_self ..)
      have := h.bit (x.2 - 1).toNat (by omega)
      rw [show (((x.2 - 1).toNat : Nat) : Int) + 1 = x.2 by omega] at this
      have h2 := (rowR_first hl).1
      have h3 : rowR (x :: l) x.2 ≠ [] := by intro e; rw [e] at h2; cases h2
      have := this.2 h3
      simp at this
  · rintro rfl
    apply Nat.eq_of_testBit_eq
    intro i
    rw [Nat.zero_testBit]
    by_cases hi : i < 16
    · have := h.bit i hi
      cases hb : W.testBit i with
      | false => rfl
      | true => exact absurd rfl (this.1 hb)
    · exact Nat.testBit_lt_two_pow (Nat.lt_of_lt_of_le h.lt (Nat.pow_le_pow_right (by decide) (by omega)))

theorem bitsR_put {W : Nat} {l : List (Int × Int)} {n p : Int} (h : BitsR W l) (hp : 1 ≤ p ∧ p ≤ 16) : BitsR (W ||| 2 ^ (p - 1).toNat) (putL true l (n, p)) := by
  refine ⟨Nat.or_lt_two_pow h.lt (Nat.pow_lt_pow_right (by decide) (by omega)), fun i hi => ?_⟩
  rw [Nat.testBit_or, Nat.testBit_two_pow, rowR_put]
  by_cases e : p = (i : Int) + 1
  · rw [if_pos e]
    have : (p - 1).toNat = i := by omega
    simp [this]
  · rw [if_neg e]
    have h2 : ¬ (p - 1).toNat = i := by omega
    simp only [h2, decide_false, Bool.or_false]
    exact h.bit i hi

end Go.Proofs.YtenonfkfoedfmaaGreatDoor.B


/- Contracts of the package bits: a word of bits, the first one of them. -/
namespace Go.Proofs.YtenonfkfoedfmaaGreatDoor.B
open Go
set_option linter.unusedVariables false

def tzTab : List Int := [0, 1, 56, 2, 57, 49, 28, 3, 61, 58, 42, 50, 38, 29, 17, 4, 62, 47, 59, 36, 45, 43, 51, 22, 53, 39, 33, 30, 24, 18, 12, 5, 63, 55, 48, 27, 60, 41, 37, 16, 46, 35, 44, 21, 52, 32, 23, 11, 54, 26, 40, 15, 34, 20, 31, 10, 25, 14, 19, 9, 13, 8, 7, 6]

/-- the library's table lies as the program's text lays it -/
structure TabE (e : World) : Prop where
  cell : ∀ (j : Nat) v, tzTab[j]? = some v → e.cell? ⟨0, j, none⟩ = some (.int .u8 v)
  lt : 0 < e.heap.size

def TabW (w : World) : Prop := ∀ (j : Nat) v, tzTab[j]? = some v → w.cell? ⟨0, j, none⟩ = some (.int .u8 v)

theorem TabE.w {e w : World} {L : List SP} (t : TabE e) (h : Ok e (old e :: L) w) : TabW w := fun j v hv => by
  rw [h.old_cell (a := ⟨0, j, none⟩) t.lt]; exact t.cell j v hv

theorem and_neg {x i m : Nat} (hx : x = 2 ^ (i + 1) * m + 2 ^ i) (h : x < 2 ^ 64) : x &&& (2 ^ 64 - x) = 2 ^ i := by
  have h1 : 2 ^ i < 2 ^ (i + 1) := Nat.pow_lt_pow_right (by decide) (by omega)
  have h0 : 0 < 2 ^ i := Nat.two_pow_pos i
  have e1 : 2 ^ 64 - x = 2 ^ 64 - ((x - 1) + 1) := by omega
  have e2 : x - 1 = 2 ^ (i + 1) * m + (2 ^ i - 1) := by omega
  apply Nat.eq_of_testBit_eq
  intro j
  rw [Nat.testBit_and, e1, Nat.testBit_two_pow_sub_succ (by omega), e2, hx, Nat.testBit_two_pow_mul_add _ h1, Nat.testBit_two_pow_mul_add _ (by omega), Nat.testBit_two_pow]
  by_cases hj : j < i + 1
  · rw [if_pos hj, if_pos hj, Nat.testBit_two_pow_sub_one]
    try rw [Nat.testBit_two_pow]
    by_cases hij : i = j
    · subst hij
      have : i < 64 := by
        have : 2 ^ i < 2 ^ 64 := by omega
        exact (Nat.pow_lt_pow_iff_right (by decide)).1 this
      simp [this]
    · simp [hij]
  · rw [if_neg hj, if_neg hj]
    have hij : ¬ i = j := by omega
    cases m.testBit (j - (i + 1)) <;> simp [hij]

theorem low_of {W i : Nat} (h : W.testBit i = true) (hl : ∀ j, j < i → W.testBit j = false) : W = 2 ^ (i + 1) * (W / 2 ^ (i + 1)) + 2 ^ i := by
  have e : W % 2 ^ (i + 1) = 2 ^ i := by
    apply Nat.eq_of_testBit_eq
    intro j
    rw [Nat.testBit_mod_two_pow, Nat.testBit_two_pow]
    by_cases hij : i = j
    · subst hij; simp [h]
    · by_cases hlt : j < i
      · simp [hl j hlt, hij]
      · have : ¬ j < i + 1 := by omega
        simp [this, hij]
  have := Nat.div_add_mod W (2 ^ (i + 1))
  rw [e] at this
  exact this.symm

theorem u64_nat {x : Nat} (h : x < 2 ^ 64) : IntKind.u64.wrap (x : Int) = x := by
  simp only [IntKind.wrap, IntKind.signed, IntKind.bits]
  have : (x : Int) % 2 ^ 64 = x := Int.emod_eq_of_lt (by omega) (by exact_mod_cast h)
  simpa using this

theorem u64_neg {x : Nat} (h0 : 0 < x) (h : x < 2 ^ 64) : IntKind.u64.wrap (0 - (x : Int)) = ((2 ^ 64 - x : Nat) : Int) := by
  have h1 : (0 - (x : Int)) % (2 ^ 64 : Int) = (2 ^ 64 : Int) - x := by omega
  have h2 : ((2 ^ 64 - x : Nat) : Int) = (2 ^ 64 : Int) - x := by omega
  rw [h2]
  simp only [IntKind.wrap, IntKind.signed, IntKind.bits]
  simpa using h1

theorem ofInt_nat {x : Nat} (h : x < 2 ^ 64) : (BitVec.ofInt 64 (x : Int)).toNat = x := by
  rw [BitVec.toNat_ofInt]
  have : (x : Int) % ((2 ^ 64 : Nat) : Int) = x := Int.emod_eq_of_lt (by omega) (by exact_mod_cast h)
  rw [this]; rfl

theorem bAnd_nat {x y : Nat} (hx : x < 2 ^ 64) (hy : y < 2 ^ 64) : bAnd .u64 (x : Int) (y : Int) = ((x &&& y : Nat) : Int) := by
  unfold bAnd
  show IntKind.u64.wrap (((BitVec.ofInt 64 (x : Int) &&& BitVec.ofInt 64 (y : Int)).toNat : Nat) : Int) = _
  rw [BitVec.toNat_and, ofInt_nat hx, ofInt_nat hy]
  exact u64_nat (Nat.lt_of_le_of_lt Nat.and_le_left hx)

theorem bOr_nat {x y : Nat} (hx : x < 2 ^ 64) (hy : y < 2 ^ 64) : bOr .u64 (x : Int) (y : Int) = ((x ||| y : Nat) : Int) := by
  unfold bOr
  show IntKind.u64.wrap (((BitVec.ofInt 64 (x : Int) ||| BitVec.ofInt 64 (y : Int)).toNat : Nat) : Int) = _
  rw [BitVec.toNat_or, ofInt_nat hx, ofInt_nat hy]
  exact u64_nat (Nat.or_lt_two_pow hx hy)

theorem bAndNot_nat {x y : Nat} (hx : x < 2 ^ 64) (hy : y < 2 ^ 64) : bAndNot .u64 (x : Int) (y : Int) = ((x &&& (2 ^ 64 - 1 - y) : Nat) : Int) := by
  unfold bAndNot
  show IntKind.u64.wrap (((BitVec.ofInt 64 (x : Int) &&& ~~~(BitVec.ofInt 64 (y : Int))).toNat : Nat) : Int) = _
  rw [BitVec.toNat_and, BitVec.toNat_not, ofInt_nat hx, ofInt_nat hy]
  exact u64_nat (Nat.lt_of_le_of_lt Nat.and_le_left hx)

theorem tz_idx : ∀ i : Nat, i < 16 → tzTab[(2 ^ i * 285870213051353865 % 2 ^ 64) / 2 ^ 58]? = some (i : Int) := by decide

theorem TZ_bits {w R} {x i m : Nat} (hx : x = 2 ^ (i + 1) * m + 2 ^ i) (hi : i < 16) (h : x < 2 ^ 64) (ht : TabW w) (k : R [.int .i64 i] w) : sh224 (x : Int) R w := by
  unfold sh224
  have h0 : 0 < 2 ^ i := Nat.two_pow_pos i
  refine cs.no (by simp; omega) ?_
  rw [u64_neg (by omega) h, bAnd_nat h (by omega), and_neg hx h]
  have e1 : IntKind.u64.wrap (((2 ^ i : Nat) : Int) * 285870213051353865) = ((2 ^ i * 285870213051353865 % 2 ^ 64 : Nat) : Int) := by
    simp only [IntKind.wrap, IntKind.signed, IntKind.bits]
    simp
  rw [e1]
  have e2 : Int.fdiv ((2 ^ i * 285870213051353865 % 2 ^ 64 : Nat) : Int) (2 ^ 58) = (((2 ^ i * 285870213051353865 % 2 ^ 64) / 2 ^ 58 : Nat) : Int) := by
    rw [Int.fdiv_eq_ediv_of_nonneg _ (by decide)]
    exact_mod_cast rfl
  rw [e2]
  have hlt : (2 ^ i * 285870213051353865 % 2 ^ 64) / 2 ^ 58 < 64 := by
    have := Nat.mod_lt (2 ^ i * 285870213051353865) (show 0 < 2 ^ 64 by decide)
    omega
  refine ⟨by omega, by omega, ⟨(i : Int), ?_, ?_⟩⟩
  · rw [Int.toNat_natCast, Nat.zero_add, Nat.mul_one]
    exact ht _ _ (tz_idx i hi)
  · show R [.int .i64 (w64 (i : Int))] w
    rw [w64_in (by omega) (by omega)]
    exact k

/-- the first bit from a place on -/
def nextB (W : Nat) (p : Nat) : Option Nat := (List.range 16).find? fun i => decide (p ≤ i) && W.testBit i

theorem find_range {f : Nat → Bool} {n i : Nat} (h : (List.range n).find? f = some i) : i < n ∧ f i = true ∧ ∀ j, j < i → f j = false := by
  have h1 := List.mem_of_find?_eq_some h
  have h2 := List.find?_some h
  refine ⟨List.mem_range.1 h1, h2, fun j hj => ?_⟩
  obtain ⟨_, xs, ys, he, hn⟩ := List.find?_eq_some_iff_append.1 h
  have hjm : j ∈ xs := by
    have hs := List.pairwise_lt_range (n := n)
    rw [he] at hs
    have hjr : j ∈ List.range n := List.mem_range.2 (by have := List.mem_range.1 h1; omega)
    rw [he] at hjr
    rcases List.mem_append.1 hjr with hm | hm
    · exact hm
    · rcases List.mem_cons.1 hm with rfl | hm
      · omega
      · have := (List.pairwise_append.1 hs).2.1
        have := (List.pairwise_cons.1 this).1 j hm
        omega
  have := hn j hjm
  simpa using this

theorem cut_bits (W p : Nat) (j : Nat) : (W / 2 ^ p * 2 ^ p).testBit j = (decide (p ≤ j) && W.testBit j) := by
  rw [← Nat.shiftRight_eq_div_pow, ← Nat.shiftLeft_eq, Nat.testBit_shiftLeft, Nat.testBit_shiftRight]
  by_cases h : p ≤ j
  · simp [h, show p + (j - p) = j by omega]
  · simp [h]

theorem After_bits {w R r} {W p : Nat} (h0 : w.cell? ⟨r, 0, none⟩ = some (.int .u64 W)) (h1 : ∀ j, 1 ≤ j → j < 4 → w.cell? ⟨r, j, none⟩ = some (.int .u64 0)) (hW : W < 2 ^ 16) (hp : p ≤ 16) (ht : TabW w)
    (k0 : nextB W p = none → R [.int .i64 0, .bool false] w) (k1 : ∀ i, nextB W p = some i → R [.int .i64 ((i : Int) + 1), .bool true] w) : sh170 (some ⟨r, 0, none⟩) (p : Int) R w := by
  unfold sh170
  have em : (if 0 > (p : Int) then (0 : Int) else (p : Int)) = (p : Int) := if_neg (by omega)
  rw [em]
  refine cs.no (by simp; omega) ?_
  have ed : w64 (Int.tdiv (p : Int) 64) = 0 := by
    have : Int.tdiv (p : Int) 64 = 0 := by rw [Int.tdiv_eq_ediv_of_nonneg (by omega)]; omega
    rw [this]; rfl
  have etm : Int.tmod (p : Int) 64 = p := Int.tmod_eq_of_lt (by omega) (by omega)
  rw [ed, etm]
  refine lp.mk (fun t w1 => w1 = w ∧ ∃ n : Nat, t.1 = (n : Int) ∧ n ≤ 4 ∧ (0 < n → nextB W p = none)) (fun t _ => Int.toNat (Int.sub 4 t.1)) ⟨rfl, 0, rfl, by omega, fun h => by omega⟩ ?_
  rintro ⟨(t : Int), _⟩ w1 ⟨rfl, n, (rfl : t = (n : Int)), hn, hno⟩
  refine cs.mk (fun hlt => ?_) (fun hge => ?_)
  · have hlt : n < 4 := by have := of_decide_eq_true hlt; simp only at this; omega
    refine nn.mk ⟨by simp only; omega, by simp only; omega, ?_⟩
    simp only [Int.toNat_natCast, Nat.zero_add, Nat.mul_one]
    by_cases hn0 : n = 0
    · subst hn0
      refine ldI.mk h0 ?_
      have hmin : min p 64 = p := by omega
      have hcut : W / 2 ^ p * 2 ^ p ≤ W := Nat.div_mul_le_self ..
      have ew : IntKind.u64.wrap (Int.fdiv (W : Int) (2 ^ (min p 64)) * 2 ^ (min p 64)) = ((W / 2 ^ p * 2 ^ p : Nat) : Int) := by
        rw [hmin, Int.fdiv_eq_ediv_of_nonneg _ (Int.pow_nonneg (by decide))]
        rw [← u64_nat (x := W / 2 ^ p * 2 ^ p) (by omega)]
        congr 1
      refine jn.at (t := (((W / 2 ^ p * 2 ^ p : Nat) : Int), ())) (fun w' => w' = w1) (fun J hJ => ?_) ?_
      · refine cs.yes (by simp) ⟨by omega, by omega, ?_⟩
        have hJ' := hJ _ rfl
        rw [← ew] at hJ'
        exact hJ'
      · rintro w' rfl
        cases hN : nextB W p with
        | none =>
          have hz : W / 2 ^ p * 2 ^ p = 0 := by
            apply Nat.eq_of_testBit_eq
            intro j
            rw [cut_bits, Nat.zero_testBit]
            by_cases hj : j < 16
            · have := List.find?_eq_none.1 hN j (List.mem_range.2 hj)
              simpa using this
            · rw [Nat.testBit_lt_two_pow (Nat.lt_of_lt_of_le hW (Nat.pow_le_pow_right (by decide) (by omega))), Bool.and_false]
          rw [hz]
          refine cs.no rfl ?_
          exact ⟨⟨rfl, 1, rfl, by omega, fun _ => rfl⟩, by decide⟩
        | some i =>
          obtain ⟨hi, hf, hl⟩ := find_range hN
          have hbit : (W / 2 ^ p * 2 ^ p).testBit i = true := by rw [cut_bits]; exact hf
          have hlow := low_of hbit fun j hj => by rw [cut_bits]; exact hl j hj
          have hne : W / 2 ^ p * 2 ^ p ≠ 0 := by intro e; rw [e] at hbit; simp at hbit
          refine cs.yes (by simp only [bne_iff_ne, ne_eq]; omega) ?_
          refine call224 (TZ_bits hlow hi (by omega) ht ⟨((i : Int), ()), rfl, ?_⟩)
          have e1 : w64 (w64 (w64 ((0 : Int) * 64) + (i : Int)) + 1) = (i : Int) + 1 := by
            rw [show w64 ((0 : Int) * 64) = 0 from rfl, w64_in (x := 0 + (i : Int)) (by omega) (by omega), w64_in (by omega) (by omega)]; omega
          have := k1 i hN
          rw [← e1] at this
          exact this
    · refine ldI.mk (h1 n (by omega) hlt) ?_
      refine jn.at (t := ((0 : Int), ())) (fun w' => w' = w1) (fun J hJ => ?_) ?_
      · refine cs.no (by simp; omega) (hJ _ rfl)
      · rintro w' rfl
        refine cs.no rfl ⟨⟨rfl, n + 1, ?_, by omega, fun _ => hno (by omega)⟩, ?_⟩
        · show w64 _ = _
          rw [w64_in (by omega) (by omega)]; rfl
        · show Int.toNat (Int.sub 4 (w64 ((n : Int) + 1))) < Int.toNat (Int.sub 4 (n : Int))
          rw [w64_in (by omega) (by omega)]
          show Int.toNat (4 - ((n : Int) + 1)) < Int.toNat (4 - (n : Int))
          omega
  · have hge : 4 ≤ n := by have := of_decide_eq_false hge; simp only at this; omega
    exact k0 (hno (by omega))

theorem First_bits {w R r} {W : Nat} (h0 : w.cell? ⟨r, 0, none⟩ = some (.int .u64 W)) (h1 : ∀ j, 1 ≤ j → j < 4 → w.cell? ⟨r, j, none⟩ = some (.int .u64 0)) (hW : W < 2 ^ 16) (ht : TabW w)
    (k0 : nextB W 0 = none → R [.int .i64 0, .bool false] w) (k1 : ∀ i, nextB W 0 = some i → R [.int .i64 ((i : Int) + 1), .bool true] w) : sh169 (some ⟨r, 0, none⟩) R w := by
  unfold sh169
  exact call170 (After_bits (p := 0) h0 h1 hW (by omega) ht (fun h => ⟨((0 : Int), false, ()), rfl, k0 h⟩) (fun i h => ⟨((i : Int) + 1, true, ()), rfl, k1 i h⟩))

theorem place_bits {e w L R} {p : Nat} (h : Ok e L w) (hp : 1 ≤ p ∧ p ≤ 16) (k : ∀ w', Ok e L w' → R [.int .i64 0, .int .u64 ((2 ^ (p - 1) : Nat) : Int), .bool true] w') : sh223 (p : Int) R w := by
  unfold sh223
  refine jn.bool false (fun J hJ => cs.no (by simp; omega) ?_) ?_
  · rw [decide_eq_false (show ¬ ((p : Int) > 256) by omega)]; exact hJ
  · refine cs.no rfl (dr.mk h fun w1 h => ?_)
    have e1 : w64 ((p : Int) - 1) = ((p - 1 : Nat) : Int) := by rw [w64_in (by omega) (by omega)]; omega
    rw [e1]
    have e2 : Int.tmod (((p - 1 : Nat)) : Int) 64 = ((p - 1 : Nat) : Int) := Int.tmod_eq_of_lt (by omega) (by omega)
    have e3 : w64 (Int.tdiv (((p - 1 : Nat)) : Int) 64) = 0 := by
      have : Int.tdiv (((p - 1 : Nat)) : Int) 64 = 0 := by rw [Int.tdiv_eq_ediv_of_nonneg (by omega)]; omega
      rw [this]; rfl
    rw [e2, e3]
    refine ⟨by omega, ?_⟩
    have hmin : min (((p - 1 : Nat) : Int)).toNat 64 = p - 1 := by simp; omega
    have hlt : 2 ^ (p - 1) < 2 ^ 64 := Nat.pow_lt_pow_right (by decide) (by omega)
    have e4 : IntKind.u64.wrap (1 * 2 ^ (min (((p - 1 : Nat) : Int)).toNat 64)) = ((2 ^ (p - 1) : Nat) : Int) := by
      rw [hmin, ← u64_nat hlt]
      congr 1
      push_cast
      omega
    rw [e4]
    exact k w1 h

end Go.Proofs.YtenonfkfoedfmaaGreatDoor.B


/- Contracts of the package ready. -/
namespace Go.Proofs.YtenonfkfoedfmaaGreatDoor.B
open Go
set_option linter.unusedVariables false

def rdC (W : Nat) (ss : Nat → Sl) (f : Nat → Int) : List Value :=
  [.int .u64 W, .int .u64 0, .int .u64 0, .int .u64 0] ++ (List.range 17).map (fun i => vS (ss i)) ++ (List.range 17).map (fun n => .int .i64 (f n))

def updN {α : Type} (f : Nat → α) (i : Nat) (x : α) : Nat → α := fun j => if j = i then x else f j

theorem updN_same {α : Type} (f : Nat → α) (i : Nat) (x : α) : updN f i x i = x := if_pos rfl

theorem updN_other {α : Type} {f : Nat → α} {i j : Nat} {x : α} (h : j ≠ i) : updN f i x j = f j := if_neg h

theorem rdC_row {W ss f} {i : Nat} (hi : i < 17) : (rdC W ss f)[4 + i]? = some (vS (ss i)) := by
  unfold rdC
  rw [List.getElem?_append_left (by simp <;> omega), List.getElem?_append_right (by simp)]
  simp [hi]

theorem rdC_pri {W ss f} {n : Nat} (hn : n < 17) : (rdC W ss f)[21 + n]? = some (.int .i64 (f n)) := by
  unfold rdC
  rw [List.getElem?_append_right (by simp <;> omega)]
  simp [hn, show 21 + n - 21 = n by omega]

theorem rdC_len {W ss f} : (rdC W ss f).length = 38 := by simp [rdC]

theorem map_range_set {α : Type} (f : Nat → α) (n i : Nat) (x : α) : ((List.range n).map f).set i x = (List.range n).map (updN f i x) := by
  apply List.ext_getElem?
  intro j
  rw [List.getElem?_set, List.getElem?_map, List.getElem?_map]
  by_cases hj : j < n
  · rw [List.getElem?_range hj]
    by_cases e : i = j
    · subst e; simp [hj, updN]
    · simp [e, updN, Ne.symm e]
  · rw [List.getElem?_eq_none (by simp <;> omega)]
    by_cases e : i = j
    · subst e; simp [hj]
    · simp [e]

theorem rdC_setRow {W ss f} {i : Nat} {s : Sl} (hi : i < 17) : (rdC W ss f).set (4 + i) (vS s) = rdC W (updN ss i s) f := by
  unfold rdC
  rw [List.set_append_left _ _ (by simp <;> omega), List.set_append_right _ _ (by simp)]
  congr 2
  simp only [List.length_cons, List.length_nil]
  rw [show 4 + i - (0 + 1 + 1 + 1 + 1) = i by omega, map_range_set]
  apply List.map_congr_left
  intro j _
  unfold updN; split <;> rfl

theorem rdC_setPri {W ss f} {n : Nat} {x : Int} (hn : n < 17) : (rdC W ss f).set (21 + n) (.int .i64 x) = rdC W ss (updN f n x) := by
  unfold rdC
  rw [List.set_append_right _ _ (by simp <;> omega)]
  congr 1
  rw [show 21 + n - ([Value.int .u64 (W : Int), .int .u64 0, .int .u64 0, .int .u64 0] ++ (List.range 17).map fun i => vS (ss i)).length = n by simp, map_range_set]
  apply List.map_congr_left
  intro j _
  unfold updN; split <;> rfl

theorem rdC_setW {W W' : Nat} {ss f} : (rdC W ss f).set 0 (.int .u64 (W' : Int)) = rdC W' ss f := rfl

/-- those that may run -/
def rdyP (r : Nat) (l : List (Int × Int)) : SP := fun h => ∃ W ss, RdOk l ∧ BitsR W l ∧ oksH [pts r (rdC W ss fun n => priL l n), oksH (starN 17 fun i => slc 1 (ss i) (ints (rowR l (i : Int))))] h

theorem rdyE {e w L r l} (h : Ok e (rdyP r l :: L) w) : ∃ W ss, RdOk l ∧ BitsR W l ∧ Ok e (pts r (rdC W ss fun n => priL l n) :: oksH (starN 17 fun i => slc 1 (ss i) (ints (rowR l (i : Int)))) :: L) w := by
  obtain ⟨W, h⟩ := h.exE
  obtain ⟨ss, h⟩ := h.exE
  obtain ⟨h1, h⟩ := h.pureE
  obtain ⟨h2, h⟩ := h.pureE
  exact ⟨W, ss, h1, h2, h.unpack⟩

theorem rdyI {e w L r l W ss} (h1 : RdOk l) (h2 : BitsR W l) (h : Ok e (pts r (rdC W ss fun n => priL l n) :: oksH (starN 17 fun i => slc 1 (ss i) (ints (rowR l (i : Int)))) :: L) w) : Ok e (rdyP r l :: L) w :=
  (Ok.pack (M := [pts r (rdC W ss fun n => priL l n), oksH (starN 17 fun i => slc 1 (ss i) (ints (rowR l (i : Int))))]) h).imp fun k hk => ⟨W, ss, h1, h2, hk⟩

theorem rdy_ok {e w L r l} (h : Ok e (rdyP r l :: L) w) : RdOk l := (rdyE h).choose_spec.choose_spec.1

theorem New_ready {e w L R} (h : Ok e L w) (k : ∀ r w', Ok e (rdyP r [] :: L) w' → R [.pointer (some ⟨r, 0, none⟩)] w') : sh45 R w := by
  unfold sh45
  refine al.mk h fun r w1 h => k r w1 ?_
  refine rdyI (W := 0) (ss := fun _ => ⟨none, 0, 0⟩) rdOk_nil bitsR_nil ?_
  refine Ok.p1 ?_
  refine Ok.pack ?_
  have h2 : Ok e (List.replicate 17 (slc 1 ⟨none, 0, 0⟩ []) ++ (pts r (rdC 0 (fun _ => ⟨none, 0, 0⟩) fun n => priL [] n) :: L)) w1 := by
    have h3 : Ok e (pts r (rdC 0 (fun _ => ⟨none, 0, 0⟩) fun n => priL [] n) :: L) w1 := h
    have key : ∀ n : Nat, Ok e (List.replicate n (slc 1 ⟨none, 0, 0⟩ []) ++ (pts r (rdC 0 (fun _ => ⟨none, 0, 0⟩) fun n => priL [] n) :: L)) w1 := by
      intro n
      induction n with
      | zero => exact h3
      | succ n ih => exact ih.slcNil 1
    exact key 17
  exact h2

theorem task_ready {w n R} (k : R [.bool (decide (1 ≤ n ∧ n ≤ 16))] w) : sh88 n R w := by
  unfold sh88
  refine jn.bool (decide (1 ≤ n ∧ n ≤ 16)) (fun J hJ => cs.mk (fun h1 => ?_) (fun h1 => ?_)) k
  · have h1 := of_decide_eq_true h1
    rw [show decide (n ≤ 16) = decide (1 ≤ n ∧ n ≤ 16) from decide_eq_decide.2 (by omega)]; exact hJ
  · have h1 := of_decide_eq_false h1
    rw [decide_eq_false (by omega)] at hJ; exact hJ

theorem may_ready {w n R} (k : R [.bool (decide (1 ≤ n ∧ n ≤ 16))] w) : sh89 n R w := task_ready k

/-- a word of bits, with one more, one less -/
theorem Set_bits {e w L r ds R} {W p : Nat} {s : Sl} (h : Ok e (pts r ds :: slc 1 s (ints [(p : Int)]) :: L) w) (hc : ds[0]? = some (.int .u64 W)) (hW : W < 2 ^ 16) (hp : 1 ≤ p ∧ p ≤ 16)
    (k : ∀ w', Ok e (pts r (ds.set 0 (.int .u64 ((W ||| 2 ^ (p - 1) : Nat) : Int))) :: slc 1 s (ints [(p : Int)]) :: L) w' → R [] w') : sh168 (some ⟨r, 0, none⟩) s R w := by
  unfold sh168
  have hs : s.len = 1 := by have := h.p1.slc_len; simp at this; omega
  have hlt : 2 ^ (p - 1) < 2 ^ 64 := Nat.pow_lt_pow_right (by decide) (by omega)
  refine lp.mk (fun t w1 => (@Eq Int t.1 0 ∧ Ok e (pts r ds :: slc 1 s (ints [(p : Int)]) :: L) w1) ∨ (@Eq Int t.1 1 ∧ Ok e (pts r (ds.set 0 (.int .u64 ((W ||| 2 ^ (p - 1) : Nat) : Int))) :: slc 1 s (ints [(p : Int)]) :: L) w1))
    (fun t _ => Int.toNat (Int.sub 1 t.1)) (.inl ⟨rfl, h⟩) ?_
  rintro ⟨(t : Int), _⟩ w1 (⟨(rfl : t = 0), h⟩ | ⟨(rfl : t = 1), h⟩)
  · refine cs.yes (by rw [hs]; rfl) ?_
    refine ix_int h.p1 (by simp) (by rw [hs]; exact (show (0 : Int) < ((1 : Nat) : Int) by decide)) fun b o x hx hc1 => ?_
    have hx : x = p := by simpa using hx.symm
    subst hx
    refine ldI.mk (hc1 _ ⟨_, h.p1⟩) ?_
    refine call223 (place_bits h hp fun w2 h => ⟨((0 : Int), ((2 ^ (p - 1) : Nat) : Int), true, ()), rfl, ?_⟩)
    refine cs.yes rfl (dr.mk h fun w3 h => nn.mk ⟨(show (0 : Int) ≤ 0 by decide), (show (0 : Int) < ((4 : Nat) : Int) by decide), ldI.mk (h.cell hc) (nn.mk ⟨(show (0 : Int) ≤ 0 by decide), (show (0 : Int) < ((4 : Nat) : Int) by decide), ?_⟩)⟩)
    refine st1.mk h (by have := (List.getElem?_eq_some_iff.1 hc).1; simpa using this) fun w4 h => ?_
    refine ⟨.inr ⟨rfl, ?_⟩, (show Int.toNat (Int.sub 1 1) < Int.toNat (Int.sub 1 0) by decide)⟩
    dsimp only at h
    rw [bOr_nat (by omega) hlt] at h
    exact h
  · refine cs.no (by rw [hs]; rfl) (k w1 h)

theorem Clear_bits {e w L r ds R} {W p : Nat} {s : Sl} (h : Ok e (pts r ds :: slc 1 s (ints [(p : Int)]) :: L) w) (hc : ds[0]? = some (.int .u64 W)) (hW : W < 2 ^ 16) (hp : 1 ≤ p ∧ p ≤ 16)
    (k : ∀ w', Ok e (pts r (ds.set 0 (.int .u64 ((W &&& (2 ^ 64 - 1 - 2 ^ (p - 1)) : Nat) : Int))) :: slc 1 s (ints [(p : Int)]) :: L) w' → R [] w') : sh238 (some ⟨r, 0, none⟩) s R w := by
  unfold sh238
  have hs : s.len = 1 := by have := h.p1.slc_len; simp at this; omega
  have hlt : 2 ^ (p - 1) < 2 ^ 64 := Nat.pow_lt_pow_right (by decide) (by omega)
  refine lp.mk (fun t w1 => (@Eq Int t.1 0 ∧ Ok e (pts r ds :: slc 1 s (ints [(p : Int)]) :: L) w1) ∨ (@Eq Int t.1 1 ∧ Ok e (pts r (ds.set 0 (.int .u64 ((W &&& (2 ^ 64 - 1 - 2 ^ (p - 1)) : Nat) : Int))) :: slc 1 s (ints [(p : Int)]) :: L) w1))
    (fun t _ => Int.toNat (Int.sub 1 t.1)) (.inl ⟨rfl, h⟩) ?_
  rintro ⟨(t : Int), _⟩ w1 (⟨(rfl : t = 0), h⟩ | ⟨(rfl : t = 1), h⟩)
  · refine cs.yes (by rw [hs]; rfl) ?_
    refine ix_int h.p1 (by simp) (by rw [hs]; exact (show (0 : Int) < ((1 : Nat) : Int) by decide)) fun b o x hx hc1 => ?_
    have hx : x = p := by simpa using hx.symm
    subst hx
    refine ldI.mk (hc1 _ ⟨_, h.p1⟩) ?_
    refine call223 (place_bits h hp fun w2 h => ⟨((0 : Int), ((2 ^ (p - 1) : Nat) : Int), true, ()), rfl, ?_⟩)
    refine cs.yes rfl (dr.mk h fun w3 h => nn.mk ⟨(show (0 : Int) ≤ 0 by decide), (show (0 : Int) < ((4 : Nat) : Int) by decide), ldI.mk (h.cell hc) (nn.mk ⟨(show (0 : Int) ≤ 0 by decide), (show (0 : Int) < ((4 : Nat) : Int) by decide), ?_⟩)⟩)
    refine st1.mk h (by have := (List.getElem?_eq_some_iff.1 hc).1; simpa using this) fun w4 h => ?_
    refine ⟨.inr ⟨rfl, ?_⟩, (show Int.toNat (Int.sub 1 1) < Int.toNat (Int.sub 1 0) by decide)⟩
    dsimp only at h
    rw [bAndNot_nat (by omega) hlt] at h
    exact h
  · refine cs.no (by rw [hs]; rfl) (k w1 h)

theorem put_ready {e w L r l n p R} (h : Ok e (rdyP r l :: L) w) (hn : 1 ≤ n ∧ n ≤ 16) (hp : 1 ≤ p ∧ p ≤ 16) (hm : n ∉ ids l)
    (k : ∀ w', Ok e (rdyP r (putL true l (n, p)) :: L) w' → R [] w') : sh90 (some ⟨r, 0, none⟩) n p R w := by
  obtain ⟨W, ss, ho, hb, h⟩ := rdyE h
  obtain ⟨q, rfl⟩ := Int.eq_ofNat_of_zero_le (show 0 ≤ p by omega)
  obtain ⟨m, rfl⟩ := Int.eq_ofNat_of_zero_le (show 0 ≤ n by omega)
  unfold sh90
  have hpn : q < 17 := by omega
  have hnn : m < 17 := by omega
  refine dr.mk h fun w1 h => nn.mk ⟨by omega, by omega, ldS.mk (by rw [Int.toNat_natCast, Nat.zero_add, Nat.mul_one]; exact h.cell (rdC_row hpn)) (nn.mk ?_)⟩
  obtain ⟨H, h, back⟩ := star_open h.p1 hpn
  have hlen : (ss q).len ≤ 16 := by
    have h1 := h.slc_len
    rw [ints_len] at h1
    have h2 := (rowR_sub l (q : Int)).length_le
    have h3 := okL_len ho.ok
    have h4 : (ids l).length = l.length := List.length_map ..
    omega
  refine al.mk h fun b w2 h => ⟨by rw [Int.toNat_natCast, Nat.zero_add, Nat.mul_one]; exact h.p3.cell (rdC_row hpn), ?_⟩
  refine ef.append1 (n := 1) slT_int (by decide) h rfl (ints_one [(m : Int)]) (by omega) fun s' w3 hl h => ?_
  refine ⟨by omega, by omega, ?_⟩
  refine st1.mk h.p2 (by rw [rdC_len]; omega) fun w4 h => nn.mk ⟨by omega, by omega, ?_⟩
  rw [Int.toNat_natCast, Nat.zero_add, Nat.mul_one, rdC_setRow hpn] at h
  refine st1.mk h (by rw [rdC_len]; omega) fun w5 h => nn.mk ?_
  rw [Int.toNat_natCast, Nat.zero_add, Nat.mul_one, rdC_setPri hnn] at h
  refine al.mk h fun c w6 h => ?_
  have h := h.slcNew (n := 1) (sz := 1) rfl (ints_one [(q : Int)])
  refine call168 (Set_bits h.p1 rfl hb.lt (by omega) fun w7 h => ⟨(), rfl, k w7 ?_⟩)
  rw [rdC_setW] at h
  have h := h.p1.drop
  have hb' := bitsR_put (n := (m : Int)) hb hp
  rw [show ((q : Int) - 1).toNat = q - 1 by omega] at hb'
  have e2 : ints (rowR l (q : Int)) ++ [Value.int .i64 (m : Int)] = ints (rowR (putL true l ((m : Int), (q : Int))) (q : Int)) := by
    rw [rowR_put, if_pos rfl]; simp [ints]
  have e3 : (fun j : Nat => priL (putL true l ((m : Int), (q : Int))) (j : Int)) = updN (fun n : Nat => priL l (n : Int)) m (q : Int) := by
    funext j
    rw [priL_put ho.ok.1 hm]
    unfold updN
    by_cases hj : j = m
    · rw [if_pos hj, if_pos (by omega)]
    · rw [if_neg hj, if_neg (by omega)]
  refine rdyI (ss := updN ss q s') (rdOk_put ho hn hp hm) hb' ?_
  rw [e3]
  refine Ok.p1 (back (fun i => slc 1 (updN ss q s' i) (ints (rowR (putL true l ((m : Int), (q : Int))) (i : Int)))) (fun j hj => ?_) e _ w7 ?_)
  · simp only [updN_other hj]
    rw [rowR_put, if_neg (by omega)]
  · simp only [updN_same]
    rw [← e2]
    exact h.q2

end Go.Proofs.YtenonfkfoedfmaaGreatDoor.B


/- Contracts of the package ready: in, out, another priority. -/
namespace Go.Proofs.YtenonfkfoedfmaaGreatDoor.B
open Go
set_option linter.unusedVariables false

theorem ndT {p : Prop} [Decidable p] (h : (!decide p) = true) : ¬ p := by
  intro hp
  rw [decide_eq_true hp] at h
  cases h

theorem ndM {p : Prop} [Decidable p] (h : ¬ p) : (!decide p) = true := by rw [decide_eq_false h]; rfl

theorem ndF {p : Prop} [Decidable p] (h : p) : (!decide p) = false := by rw [decide_eq_true h]; rfl

theorem Add_ready {e w L r l n p R} (h : Ok e (rdyP r l :: L) w)
    (k : ∀ w', Ok e (rdyP r (addL true l n p).2 :: L) w' → R [.int .i64 (addL true l n p).1] w') : sh46 (some ⟨r, 0, none⟩) n p R w := by
  unfold sh46
  have ho := rdy_ok h
  refine call88 (task_ready ⟨(decide (1 ≤ n ∧ n ≤ 16), ()), rfl, ?_⟩)
  dsimp only
  refine jn.bool (decide (n < 1 ∨ n > 16 ∨ p < 1 ∨ p > 16)) (fun J hJ => cs.mk (fun h1 => ?_) (fun h1 => ?_)) ?_
  · have h1 : ¬ (1 ≤ n ∧ n ≤ 16) := ndT h1
    rw [decide_eq_true (by omega)] at hJ
    exact hJ
  · have h1 : 1 ≤ n ∧ n ≤ 16 := by simpa using h1
    refine call89 (may_ready ⟨(decide (1 ≤ p ∧ p ≤ 16), ()), rfl, ?_⟩)
    dsimp only
    rw [show (!decide (1 ≤ p ∧ p ≤ 16)) = decide (n < 1 ∨ n > 16 ∨ p < 1 ∨ p > 16) by
      rw [← decide_not]; exact decide_eq_decide.2 (by omega)]
    exact hJ
  · refine cs.mk (fun h1 => ?_) (fun h1 => ?_)
    · have h1 := of_decide_eq_true h1
      simp only [addL, if_pos h1] at k
      exact k w h
    · have h1 := of_decide_eq_false h1
      simp only [addL, if_neg h1] at k
      obtain ⟨W, ss, _, hb, h'⟩ := rdyE h
      obtain ⟨m, rfl⟩ := Int.eq_ofNat_of_zero_le (show 0 ≤ n by omega)
      refine nn.mk ⟨by omega, by omega, ldI.mk (by rw [Int.toNat_natCast, Nat.zero_add, Nat.mul_one]; exact h'.cell (rdC_pri (by omega))) ?_⟩
      have hpos := priL_pos ho (m : Int)
      refine cs.mk (fun h2 => ?_) (fun h2 => ?_)
      · have h2 := of_decide_eq_true h2
        rw [if_pos (atI_pos.2 (hpos.1.1 h2))] at k
        exact k w h
      · have h2 := of_decide_eq_false h2
        have hm : (m : Int) ∉ ids l := fun hm => h2 (hpos.1.2 hm)
        rw [if_neg (fun h3 => hm (atI_pos.1 h3))] at k
        exact call90 (put_ready h (by omega) (by omega) hm fun w1 h => ⟨(), rfl, k w1 h⟩)

theorem Index_int {e w L s xs a R} (h : Ok e (slc 1 s (ints xs) :: L) w) (hb : s.len ≤ 2 ^ 31) (hm : a ∈ xs)
    (k : ∀ i : Nat, i < xs.length → xs.erase a = xs.eraseIdx i → R [.int .i64 i] w) : sh237 s a R w := by
  unfold sh237
  have hl : xs.length = s.len := by have := h.slc_len; rw [ints_len] at this; omega
  refine lp.mk (fun t w1 => w1 = w ∧ ∃ n : Nat, @Eq Int t.1 (n : Int) ∧ n ≤ xs.length ∧ a ∉ xs.take n) (fun t _ => Int.toNat (Int.sub xs.length t.1)) ⟨rfl, 0, rfl, by omega, by simp⟩ ?_
  rintro ⟨(t : Int), _⟩ w1 ⟨rfl, n, (rfl : t = (n : Int)), hn, hno⟩
  have hlt : n < xs.length := by
    rcases Nat.lt_or_ge n xs.length with h | h
    · exact h
    · rw [List.take_of_length_le h] at hno; exact absurd hm hno
  refine cs.yes (by simp only [decide_eq_true_eq]; omega) ?_
  refine ix_int h (by simp only; omega) (by simp only; omega) fun b o x hx hc => ?_
  refine ldI.mk (hc _ ⟨_, h⟩) ?_
  simp only [Int.toNat_natCast] at hx
  refine cs.mk (fun h1 => ?_) (fun h1 => ?_)
  · have h1 : a = x := by simpa using h1
    subst h1
    refine k n hlt ?_
    rw [← List.take_append_drop n xs, List.erase_append_right _ hno, List.drop_eq_getElem_cons hlt]
    have : xs[n] = a := by rw [List.getElem?_eq_getElem hlt] at hx; exact Option.some.inj hx
    rw [this, List.erase_cons_head, List.eraseIdx_append_of_length_le (by rw [List.length_take]; omega)]
    simp [Nat.min_eq_left (Nat.le_of_lt hlt)]
  · have h1 : a ≠ x := by simpa using h1
    refine ⟨⟨rfl, n + 1, ?_, hlt, ?_⟩, ?_⟩
    · show w64 _ = _
      rw [w64_in (by omega) (by omega)]; rfl
    · rw [List.take_add_one, hx]
      simp [hno, h1]
    · show Int.toNat (Int.sub _ (w64 ((n : Int) + 1))) < Int.toNat (Int.sub _ (n : Int))
      rw [w64_in (by omega) (by omega)]
      show Int.toNat ((xs.length : Int) - ((n : Int) + 1)) < Int.toNat ((xs.length : Int) - (n : Int))
      omega

theorem bitsR_rm {W : Nat} {l : List (Int × Int)} {n p : Int} (h : BitsR W l) (ho : RdOk l) (hm : (n, p) ∈ l) :
    (rowR (rmL l n) p = [] → BitsR (W &&& (2 ^ 64 - 1 - 2 ^ (p - 1).toNat)) (rmL l n)) ∧ (rowR (rmL l n) p ≠ [] → BitsR W (rmL l n)) := by
  have hp := ho.bd _ hm
  simp only at hp
  have hother : ∀ q, q ≠ p → rowR (rmL l n) q = rowR l q := fun q hq => by
    rw [rowR_rm n q ho.ok.1]
    apply List.erase_of_not_mem
    intro hmem
    have h1 := rowR_mem.1 hmem
    exact hq ((priL_mem ho.ok.1 h1).symm.trans (priL_mem ho.ok.1 hm))
  refine ⟨fun he => ⟨Nat.lt_of_le_of_lt Nat.and_le_left h.lt, fun i hi => ?_⟩, fun he => ⟨h.lt, fun i hi => ?_⟩⟩
  · have hlt : 2 ^ (p - 1).toNat < 2 ^ 64 := Nat.pow_lt_pow_right (by decide) (by omega)
    rw [Nat.testBit_and, show 2 ^ 64 - 1 - 2 ^ (p - 1).toNat = 2 ^ 64 - (2 ^ (p - 1).toNat + 1) by omega, Nat.testBit_two_pow_sub_succ hlt, Nat.testBit_two_pow]
    by_cases e : (i : Int) + 1 = p
    · have : (p - 1).toNat = i := by omega
      rw [e, he]
      simp [this]
    · have h2 : ¬ (p - 1).toNat = i := by omega
      rw [hother _ e]
      have := h.bit i hi
      simp [h2, show i < 64 by omega, this]
      try (intro _; omega)
  · by_cases e : (i : Int) + 1 = p
    · rw [e]
      have := h.bit i hi
      rw [e] at this
      have h2 : rowR l p ≠ [] := by
        intro e2
        rw [rowR_rm n p ho.ok.1, e2] at he
        exact he rfl
      exact ⟨fun _ => he, fun _ => this.2 h2⟩
    · rw [hother _ e]
      exact h.bit i hi

theorem Remove_ready {e w L r l n R} (h : Ok e (rdyP r l :: L) w)
    (k : ∀ w', Ok e (rdyP r (rmL l n) :: L) w' → R [.bool (decide (0 ≤ atI l n))] w') : sh197 (some ⟨r, 0, none⟩) n R w := by
  unfold sh197
  have ho := rdy_ok h
  have hpos := priL_pos ho n
  refine call88 (task_ready ⟨(decide (1 ≤ n ∧ n ≤ 16), ()), rfl, ?_⟩)
  dsimp only
  obtain ⟨W, ss, _, hb, h'⟩ := rdyE h
  refine jn.bool (decide (n ∉ ids l)) (fun J hJ => cs.mk (fun h1 => ?_) (fun h1 => ?_)) ?_
  · have h1 : ¬ (1 ≤ n ∧ n ≤ 16) := ndT h1
    rw [show decide (n ∉ ids l) = true from decide_eq_true (fun hm => h1 (ho.ok.2 n hm))] at hJ
    exact hJ
  · have h1 : 1 ≤ n ∧ n ≤ 16 := by simpa using h1
    obtain ⟨m, rfl⟩ := Int.eq_ofNat_of_zero_le (show 0 ≤ n by omega)
    refine nn.mk ⟨by omega, by omega, ldI.mk (by rw [Int.toNat_natCast, Nat.zero_add, Nat.mul_one]; exact h'.cell (rdC_pri (by omega))) ?_⟩
    have e1 : ((priL l (m : Int) : Int) == (0 : Int)) = decide ((m : Int) ∉ ids l) := by
      by_cases hm : (m : Int) ∈ ids l
      · have := hpos.1.2 hm
        have h3 : ¬ priL l (m : Int) = 0 := by omega
        simp [hm, h3]
      · have := priL_no hm
        simp [hm, this]
    rw [e1]
    exact hJ
  · refine cs.mk (fun h1 => ?_) (fun h1 => ?_)
    · have hm : n ∉ ids l := of_decide_eq_true h1
      have h2 : atI l n < 0 := atI_neg.2 hm
      rw [decide_eq_false (by omega), rmL_none h2] at k
      exact k w h
    · have hm : n ∈ ids l := Decidable.not_not.1 (of_decide_eq_false h1)
      rw [decide_eq_true (atI_pos.2 hm)] at k
      have hn := ho.ok.2 n hm
      obtain ⟨p, hmem⟩ := mem_ids.1 hm
      have hp := ho.bd _ hmem
      simp only at hp
      have hpri := priL_mem ho.ok.1 hmem
      obtain ⟨m, rfl⟩ := Int.eq_ofNat_of_zero_le (show 0 ≤ n by omega)
      obtain ⟨q, rfl⟩ := Int.eq_ofNat_of_zero_le (show 0 ≤ p by omega)
      have hmn : m < 17 := by omega
      have hqn : q < 17 := by omega
      refine nn.mk ⟨by omega, by omega, ldI.mk (by rw [Int.toNat_natCast, Nat.zero_add, Nat.mul_one]; exact h'.cell (rdC_pri hmn)) ?_⟩
      rw [hpri]
      refine nn.mk ⟨by omega, by omega, ldS.mk (by rw [Int.toNat_natCast, Nat.zero_add, Nat.mul_one]; exact h'.cell (rdC_row hqn)) ?_⟩
      obtain ⟨H, h, back⟩ := star_open h'.p1 hqn
      have hlen : (rowR l (q : Int)).length ≤ 16 := by
        have h2 := (rowR_sub l (q : Int)).length_le
        have h3 := okL_len ho.ok
        have h4 : (ids l).length = l.length := List.length_map ..
        omega
      have hsl : (rowR l (q : Int)).length = (ss q).len := by have := h.slc_len; rw [ints_len] at this; omega
      refine call237 (Index_int h (by omega) (rowR_mem.2 hmem) fun i hi he => ⟨((i : Int), ()), rfl, ?_⟩)
      refine dr.mk h fun w1 h => nn.mk ⟨by omega, by omega, ldS.mk (by rw [Int.toNat_natCast, Nat.zero_add, Nat.mul_one]; exact h.p2.cell (rdC_row hqn)) (nn.mk ?_)⟩
      dsimp only
      rw [w64_in (by omega) (by omega)]
      refine call219 (Delete_int h hi (by omega) fun s' w2 h => ⟨(s', ()), rfl, ?_⟩)
      refine ⟨by omega, by omega, ?_⟩
      refine st1.mk h.p2 (by rw [rdC_len]; omega) fun w3 h => nn.mk ⟨by omega, by omega, ?_⟩
      rw [Int.toNat_natCast, Nat.zero_add, Nat.mul_one, rdC_setRow hqn] at h
      refine st1.mk h (by rw [rdC_len]; omega) fun w4 h => nn.mk ⟨by omega, by omega, ?_⟩
      rw [Int.toNat_natCast, Nat.zero_add, Nat.mul_one, rdC_setPri hmn] at h
      have hrow : rowR (rmL l (m : Int)) (q : Int) = (rowR l (q : Int)).eraseIdx i := by rw [rowR_rm _ _ ho.ok.1, he]
      have hs' : (rowR (rmL l (m : Int)) (q : Int)).length = s'.len := by
        have := h.p1.slc_len
        rw [ints_len] at this
        rw [hrow, List.eraseIdx_eq_take_drop_succ]; omega
      have fin : ∀ W' w', BitsR W' (rmL l (m : Int)) → Ok e (pts r (rdC W' (updN ss q s') (updN (fun n : Nat => priL l (n : Int)) m 0)) :: slc 1 s' (ints ((rowR l (q : Int)).take i ++ (rowR l (q : Int)).drop (i + 1))) :: H :: L) w' → Ok e (rdyP r (rmL l (m : Int)) :: L) w' := by
        intro W' w' hb' h
        have e3 : (fun j : Nat => priL (rmL l (m : Int)) (j : Int)) = updN (fun n : Nat => priL l (n : Int)) m 0 := by
          funext j
          rw [priL_rm _ _ ho.ok.1]
          unfold updN
          by_cases hj : j = m
          · rw [if_pos hj, if_pos (by omega)]
          · rw [if_neg hj, if_neg (by omega)]
        refine rdyI (ss := updN ss q s') (rdOk_rm ho) hb' ?_
        rw [e3]
        refine Ok.p1 (back (fun i => slc 1 (updN ss q s' i) (ints (rowR (rmL l (m : Int)) (i : Int)))) (fun j hj => ?_) e _ w' ?_)
        · simp only [updN_other hj]
          rw [rowR_rm _ _ ho.ok.1, List.erase_of_not_mem]
          intro hmem2
          have h1 := rowR_mem.1 hmem2
          have h2 := (priL_mem ho.ok.1 h1).symm.trans hpri
          omega
        · simp only [updN_same]
          rw [hrow, List.eraseIdx_eq_take_drop_succ]
          exact h.q2
      refine ldS.mk (by rw [Int.toNat_natCast, Nat.zero_add, Nat.mul_one]; exact h.cell (by rw [rdC_row hqn, updN_same])) ?_
      obtain ⟨hb0, hb1⟩ := bitsR_rm hb ho hmem
      refine cs.mk (fun h2 => ?_) (fun h2 => ?_)
      · have h2 : s'.len = 0 := by simpa using h2
        have hnil : rowR (rmL l (m : Int)) (q : Int) = [] := List.eq_nil_of_length_eq_zero (by omega)
        refine nn.mk (al.mk h fun c w5 h => ?_)
        have h := h.slcNew (n := 1) (sz := 1) rfl (ints_one [(q : Int)])
        refine call238 (Clear_bits h.p1 rfl hb.lt (by omega) fun w6 h => ⟨(), rfl, k w6 ?_⟩)
        have hb' := hb0 hnil
        rw [show ((q : Int) - 1).toNat = q - 1 by omega] at hb'
        rw [rdC_setW] at h
        exact fin _ w6 hb' h.p1.drop
      · have h2 : ¬ s'.len = 0 := by simpa using h2
        have hne : rowR (rmL l (m : Int)) (q : Int) ≠ [] := fun e => h2 (by rw [← hs', e]; rfl)
        exact k w4 (fin _ w4 (hb1 hne) h)

theorem Change_ready {e w L r l n p R} (h : Ok e (rdyP r l :: L) w)
    (k : ∀ w', Ok e (rdyP r (chgL true l n p).2 :: L) w' → R [.bool (chgL true l n p).1] w') : sh117 (some ⟨r, 0, none⟩) n p R w := by
  unfold sh117
  have ho := rdy_ok h
  refine call89 (may_ready ⟨(decide (1 ≤ p ∧ p ≤ 16), ()), rfl, ?_⟩)
  dsimp only
  by_cases hp : 1 ≤ p ∧ p ≤ 16
  · refine jn.at (t := (decide (¬ 0 ≤ atI l n), ())) (fun w' => Ok e (rdyP r (rmL l n) :: L) w') (fun J hJ => cs.no (ndF hp) ?_) (fun w1 h => ?_)
    · refine call197 (Remove_ready h fun w1 h => ⟨(decide (0 ≤ atI l n), ()), rfl, ?_⟩)
      rw [← decide_not]
      exact hJ w1 h
    · refine cs.mk (fun h1 => ?_) (fun h1 => ?_)
      · have h1 := of_decide_eq_true h1
        rw [rmL_none (by omega)] at h
        simp only [chgL, if_pos (show atI l n < 0 ∨ p < 1 ∨ p > 16 by omega)] at k
        exact k w1 h
      · have h1 := Decidable.not_not.1 (of_decide_eq_false h1)
        simp only [chgL, if_neg (show ¬ (atI l n < 0 ∨ p < 1 ∨ p > 16) by omega), if_true] at k
        have hn := ho.ok.2 n (atI_pos.1 h1)
        exact call90 (put_ready h hn hp (rmL_ids ho.ok) fun w2 h => ⟨(), rfl, k w2 h⟩)
  · refine jn.bool true (fun J hJ => cs.yes (ndM hp) hJ) (cs.yes rfl ?_)
    simp only [chgL, if_pos (show atI l n < 0 ∨ p < 1 ∨ p > 16 by omega)] at k
    exact k w h

end Go.Proofs.YtenonfkfoedfmaaGreatDoor.B


/- Rows of pointers; contracts of the package tcb. -/
namespace Go.Proofs.YtenonfkfoedfmaaGreatDoor.B
open Go
set_option linter.unusedVariables false

/-! ### rows of pointers, and what lies behind them -/
abbrev pV (b : Nat) : Value := .pointer (some ⟨b, 0, none⟩)

def ptrsC (pre : List Value) (bs : Nat → Nat) (n : Nat) : List Value := pre ++ (List.range n).map fun i => pV (bs i)

def ptrsB {α : Type} (P : Nat → α → SP) (pre : List Value) (d : α) (bs : Nat → Nat) (s : Sl) (l : List α) : SP := fun h =>
  oksH [slc 1 s (ptrsC pre bs l.length), oksH (starN l.length fun i => P (bs i) ((l[i]?).getD d))] h

def ptrsP {α : Type} (P : Nat → α → SP) (pre : List Value) (d : α) (s : Sl) (l : List α) : SP := fun h => ∃ bs : Nat → Nat, ptrsB P pre d bs s l h

section
variable {α : Type} {P : Nat → α → SP} {pre : List Value} {d : α} {s : Sl} {l : List α} {e : World} {L : List SP} {w : World} {bs : Nat → Nat}

theorem ptrsBE (h : Ok e (ptrsB P pre d bs s l :: L) w) : Ok e (slc 1 s (ptrsC pre bs l.length) :: oksH (starN l.length fun i => P (bs i) ((l[i]?).getD d)) :: L) w := Ok.unpack (M := [slc 1 s (ptrsC pre bs l.length), oksH (starN l.length fun i => P (bs i) ((l[i]?).getD d))]) h

theorem ptrsBI (h : Ok e (slc 1 s (ptrsC pre bs l.length) :: oksH (starN l.length fun i => P (bs i) ((l[i]?).getD d)) :: L) w) : Ok e (ptrsB P pre d bs s l :: L) w :=
  Ok.pack (M := [slc 1 s (ptrsC pre bs l.length), oksH (starN l.length fun i => P (bs i) ((l[i]?).getD d))]) h

theorem ptrsE (h : Ok e (ptrsP P pre d s l :: L) w) : ∃ bs, Ok e (ptrsB P pre d bs s l :: L) w := h.exE

theorem ptrsI (h : Ok e (ptrsB P pre d bs s l :: L) w) : Ok e (ptrsP P pre d s l :: L) w := h.imp fun k hk => ⟨bs, hk⟩

theorem ptrsB_len (h : Ok e (ptrsB P pre d bs s l :: L) w) : s.len = pre.length + l.length := by
  have := (ptrsBE h).slc_len
  simp [ptrsC] at this
  omega

theorem ptrs_len (h : Ok e (ptrsP P pre d s l :: L) w) : s.len = pre.length + l.length := (ptrsE h).elim fun _ h => ptrsB_len h

theorem ptrsB_open {i : Nat} {a : α} (h : Ok e (ptrsB P pre d bs s l :: L) w) (ha : l[i]? = some a) : ∃ (H : SP), Ok e (P (bs i) a :: H :: L) w ∧
    (∀ a' e' L' w', Ok e' (P (bs i) a' :: H :: L') w' → Ok e' (ptrsB P pre d bs s (l.set i a') :: L') w') ∧
    (∀ e' L' w' (n : Int) (f : Nat → Nat → Prop), Ok e' (H :: L') w' → n = ((pre.length + i : Nat) : Int) → (∀ b2 o2, w'.cell? ⟨b2, o2, none⟩ = some (pV (bs i)) → f b2 o2) → ix s n 1 f) := by
  have h := ptrsBE h
  have hi := (List.getElem?_eq_some_iff.1 ha).1
  obtain ⟨H0, h2, back⟩ := star_open h.p1 hi
  rw [ha] at h2
  refine ⟨oksH [slc 1 s (ptrsC pre bs l.length), H0], ?_, fun a' e' L' w' h' => ?_, fun e' L' w' n f h' hn k => ?_⟩
  · have h3 : Ok e ([slc 1 s (ptrsC pre bs l.length), H0] ++ (P (bs i) a :: L)) w := h2.p2.p2.p1
    exact Ok.p1 (Ok.pack h3)
  · have h3 : Ok e' (slc 1 s (ptrsC pre bs l.length) :: H0 :: P (bs i) a' :: L') w' := h'.p1.unpack
    have h4 := back (fun j => P (bs j) (((l.set i a')[j]?).getD d)) (fun j hj => by
      rw [List.getElem?_set, if_neg (Ne.symm hj)]) e' (slc 1 s (ptrsC pre bs l.length) :: L') w' (by
        rw [List.getElem?_set, if_pos rfl, if_pos hi]
        exact h3.p1.p2)
    refine ptrsBI ?_
    rw [List.length_set]
    exact h4.p1
  · have h3 : Ok e' (slc 1 s (ptrsC pre bs l.length) :: H0 :: L') w' := h'.unpack
    have hl := h3.slc_len
    have hll : (ptrsC pre bs l.length).length = pre.length + l.length := by simp [ptrsC]
    refine ix_slc h3 (by omega) (by omega) fun b2 hc => k b2 _ ?_
    have := hc 0 (by decide)
    rw [Nat.mul_one, Nat.add_zero] at this
    rw [Nat.mul_one, Nat.zero_add, this, hn, Int.toNat_natCast]
    unfold ptrsC
    rw [List.getElem?_append_right (by omega)]
    simp [hi]

theorem ptrs_open {i : Nat} {a : α} (h : Ok e (ptrsP P pre d s l :: L) w) (ha : l[i]? = some a) : ∃ (b : Nat) (H : SP), Ok e (P b a :: H :: L) w ∧
    (∀ a' e' L' w', Ok e' (P b a' :: H :: L') w' → Ok e' (ptrsP P pre d s (l.set i a') :: L') w') ∧
    (∀ e' L' w' (n : Int) (f : Nat → Nat → Prop), Ok e' (H :: L') w' → n = ((pre.length + i : Nat) : Int) → (∀ b2 o2, w'.cell? ⟨b2, o2, none⟩ = some (pV b) → f b2 o2) → ix s n 1 f) := by
  obtain ⟨bs, h⟩ := ptrsE h
  obtain ⟨H, h1, h2, h3⟩ := ptrsB_open h ha
  exact ⟨bs i, H, h1, fun a' e' L' w' h => ptrsI (h2 a' e' L' w' h), h3⟩

theorem ptrsB_nil (h : Ok e (slc 1 s pre :: L) w) : Ok e (ptrsB P pre d bs s [] :: L) w := by
  refine ptrsBI ?_
  have e1 : ptrsC pre bs ([] : List α).length = pre := by simp [ptrsC]
  rw [e1]
  exact (star_zero h).p1

theorem ptrs_nil (h : Ok e (slc 1 s pre :: L) w) : Ok e (ptrsP P pre d s [] :: L) w := ptrsI (bs := fun _ => 0) (ptrsB_nil h)

theorem ef.appendPtrB {t : TypeId} {b c : Nat} {a : α} {K : TK [kS] → World → Prop} (T : SlT Pg t 1) (h : Ok e (pts c [pV b] :: P b a :: ptrsB P pre d bs s l :: L) w) (hb : pre.length + l.length ≤ 2 ^ 31)
    (k : ∀ s' w', Ok e (ptrsB P pre d (updN bs l.length b) s' (l ++ [a]) :: L) w' → K (s', ()) w') : ef Pg (Builtin.append_ #[t, t] t #[vS s, vS ⟨some ⟨c, 0, none⟩, 1, 1⟩]) [kS] w K := by
  have hl := ptrsB_len h.p2
  have h2 := ptrsBE h.p2
  have h1 : ∀ v ∈ [pV b], v.oneCell' = true := by
    intro v hv
    rcases List.mem_singleton.1 hv with rfl
    rfl
  refine ef.append1 (n := 1) (sz := 1) (us := [pV b]) T (by decide) (Ok.emb (h2) (.cons (A := pts c [pV b]) (by with_reducible first | exact sl0 | exact .there sl0 | exact .there sl1 | exact .there sl2 | exact .there sl3 | exact .there sl4 | exact .there sl5 | exact .there sl6 | exact .there sl7 | exact .there sl8 | exact .there sl9 | exact .there sl10 | exact .there sl11 | exact .there sl12) (.cons (A := slc 1 s (ptrsC pre bs l.length)) (by with_reducible first | exact sl0 | exact .there sl0 | exact .there sl1 | exact .there sl2 | exact .there sl3 | exact .there sl4 | exact .there sl5 | exact .there sl6 | exact .there sl7 | exact .there sl8 | exact .there sl9 | exact .there sl10 | exact .there sl11 | exact .there sl12) (.same _)))) rfl h1 (by omega) fun s' w' hl' h => k s' w' ?_
  refine ptrsBI ?_
  have e1 : ptrsC pre bs l.length ++ [pV b] = ptrsC pre (updN bs l.length b) (l ++ [a]).length := by
    unfold ptrsC
    rw [List.length_append, List.length_singleton, List.range_succ, List.map_append, List.append_assoc]
    congr 2
    · apply List.map_congr_left
      intro j hj
      rw [updN_other (by have := List.mem_range.1 hj; omega)]
    · simp [updN_same]
  rw [e1] at h
  rw [show (l ++ [a]).length = l.length + 1 by simp] at h ⊢
  have e2 : starN l.length (fun i => P (bs i) ((l[i]?).getD d)) = starN l.length (fun i => P (updN bs l.length b i) (((l ++ [a])[i]?).getD d)) := star_congr fun i hi => by
    rw [updN_other (by omega), List.getElem?_append_left hi]
  rw [e2] at h
  have e3 : P b a = P (updN bs l.length b l.length) (((l ++ [a])[l.length]?).getD d) := by
    rw [updN_same, List.getElem?_append_right (Nat.le_refl _)]; simp
  rw [e3] at h
  exact (star_snoc (F := fun i => P (updN bs l.length b i) (((l ++ [a])[i]?).getD d)) (h.emb (by repeat' (first | with_reducible exact Emb.same _ | exact Emb.nil _ | refine Emb.cons (by with_reducible first | exact sl0 | exact .there sl0 | exact .there sl1 | exact .there sl2 | exact .there sl3 | exact .there sl4 | exact .there sl5 | exact .there sl6 | exact .there sl7 | exact .there sl8 | exact .there sl9 | exact .there sl10 | exact .there sl11 | exact .there sl12) ?_ | refine Emb.skip ?_)))).p1

theorem ef.appendPtr {t : TypeId} {b c : Nat} {a : α} {K : TK [kS] → World → Prop} (T : SlT Pg t 1) (h : Ok e (pts c [pV b] :: P b a :: ptrsP P pre d s l :: L) w) (hb : pre.length + l.length ≤ 2 ^ 31)
    (k : ∀ s' w', Ok e (ptrsP P pre d s' (l ++ [a]) :: L) w' → K (s', ()) w') : ef Pg (Builtin.append_ #[t, t] t #[vS s, vS ⟨some ⟨c, 0, none⟩, 1, 1⟩]) [kS] w K := by
  obtain ⟨bs, h2⟩ := ptrsE h.p2
  exact ef.appendPtrB (P := P) (bs := bs) (b := b) (a := a) T (h2.q2) hb fun s' w' h => k s' w' (ptrsI h)

end

/-! ### a task by itself -/
abbrev tcC (u : Un) : List Value := [.int .i64 u.acts, .int .i64 u.wups, .int .i64 u.susps, .int .i64 u.state, .bool u.asleep]

theorem Contains1 {e w L s R} {x a : Int} (h : Ok e (slc 1 s (ints [x]) :: L) w) (k : R [.bool (x == a)] w) : sh243 s a R w := by
  unfold sh243
  refine call237 ?_
  unfold sh237
  have hs : s.len = 1 := by have := h.slc_len; simp at this; omega
  refine lp.mk (fun t w1 => w1 = w ∧ (@Eq Int t.1 0 ∨ (@Eq Int t.1 1 ∧ x ≠ a))) (fun t _ => Int.toNat (Int.sub 1 t.1)) ⟨rfl, .inl rfl⟩ ?_
  rintro ⟨(t : Int), _⟩ w1 ⟨rfl, (rfl : t = 0) | ⟨(rfl : t = 1), hne⟩⟩
  · refine cs.yes (by rw [hs]; rfl) ?_
    refine ix_int h (by simp) (by rw [hs]; exact (show (0 : Int) < ((1 : Nat) : Int) by decide)) fun b o z hz hc => ldI.mk (hc _ ⟨_, h⟩) ?_
    have hz : z = x := by simpa using hz.symm
    subst hz
    refine cs.mk (fun h1 => ?_) (fun h1 => ?_)
    · have h1 : a = z := by simpa using h1
      subst h1
      refine ⟨((0 : Int), ()), rfl, ?_⟩
      simpa using k
    · have h1 : ¬ a = z := by simpa using h1
      exact ⟨⟨rfl, .inr ⟨rfl, fun h => h1 h.symm⟩⟩, (show Int.toNat (Int.sub 1 1) < Int.toNat (Int.sub 1 0) by decide)⟩
  · refine cs.no (by rw [hs]; rfl) ⟨((-1 : Int), ()), rfl, ?_⟩
    have e1 : (x == a) = false := by simpa using hne
    rw [e1] at k
    exact k

theorem Is_tcb {e w L t u s R} {x : Int} (h : Ok e (pts t (tcC u) :: slc 1 s (ints [x]) :: L) w) (k : R [.bool (x == u.state)] w) : sh207 (some ⟨t, 0, none⟩) s R w := by
  unfold sh207
  refine nn.mk (ldI.mk (h.cell rfl) ?_)
  exact call243 (Contains1 h.p1 ⟨((x == u.state), ()), rfl, k⟩)

/-- the question at a state alone -/
theorem is_step {e w L t u} {x : Int} {K : TK [kB] → World → Prop} (h : Ok e (pts t (tcC u) :: L) w) (k : ∀ w', Ok e (pts t (tcC u) :: L) w' → K ((x == u.state), ()) w') :
    al w 3 [.int .i64 x] fun b1 w2 => cl Pg 207 [pV t, vS ⟨some ⟨b1, 0, none⟩, 1, 1⟩] [kB] w2 K := by
  refine al.mk h fun b w1 h => ?_
  have h := h.slcNew (n := 1) (sz := 1) rfl (ints_one [x])
  exact call207 (Is_tcb h.p1 ⟨((x == u.state), ()), rfl, k w1 h.drop⟩)

theorem New_tcb {e w L R} (h : Ok e L w) (k : ∀ t w', Ok e (pts t [.int .i64 0, .int .i64 0, .int .i64 0, .int .i64 16, .bool false] :: L) w' → R [pV t] w') : sh104 R w := by
  unfold sh104
  exact al.mk h fun t w1 h => k t w1 h

theorem Act_tcb {e w L t u R} (h : Ok e (pts t (tcC u) :: L) w) (hb : 0 ≤ u.acts)
    (k1 : u.state = 16 → ∀ w', Ok e (pts t (tcC { u with state := 2 }) :: L) w' → R [.bool true, .int .i64 0] w')
    (k2 : u.state ≠ 16 → u.acts ≥ 7 → ∀ w', Ok e (pts t (tcC u) :: L) w' → R [.bool false, .int .i64 (-43)] w')
    (k3 : u.state ≠ 16 → ¬ u.acts ≥ 7 → ∀ w', Ok e (pts t (tcC { u with acts := u.acts + 1 }) :: L) w' → R [.bool false, .int .i64 0] w') : sh187 (some ⟨t, 0, none⟩) R w := by
  unfold sh187
  refine is_step h fun w1 h => cs.mk (fun h1 => ?_) (fun h1 => ?_)
  · have h1 : u.state = 16 := by have : (16 : Int) = u.state := by simpa using h1
                                 exact this.symm
    exact nn.mk (st1.mk h (by simp) fun w2 h => k1 h1 w2 h)
  · have h1 : u.state ≠ 16 := by have : ¬ (16 : Int) = u.state := by simpa using h1
                                 exact fun h => this h.symm
    refine nn.mk (ldI.mk (h.cell rfl) (cs.mk (fun h2 => ?_) (fun h2 => ?_)))
    · exact k2 h1 (of_decide_eq_true h2) w1 h
    · have h2 := of_decide_eq_false h2
      refine nn.mk (ldI.mk (h.cell rfl) (nn.mk (st1.mk h (by simp) fun w2 h => k3 h1 h2 w2 ?_)))
      rw [w64_in (by omega) (by omega)] at h
      exact h

theorem Release_tcb {e w L t u R} (h : Ok e (pts t (tcC u) :: L) w) (k : ∀ w' b, Ok e (pts t (tcC u.release) :: L) w' → R [.bool b] w') : sh115 (some ⟨t, 0, none⟩) R w := by
  unfold sh115
  refine nn.mk (ldI.mk (h.cell rfl) ?_)
  by_cases h4 : u.state = 4
  · refine jn.at (t := ()) (fun w' => Ok e (pts t (tcC { u with state := 2 }) :: L) w') (fun J hJ => cs.yes (by simpa using h4) (nn.mk (st1.mk h (by simp) fun w1 h => hJ w1 h))) (fun w1 h => nn.mk (st1.mk h (by simp) fun w2 h => k w2 true ?_))
    unfold Un.release
    rw [if_pos h4]
    exact h
  · by_cases h12 : u.state = 12
    · refine jn.at (t := ()) (fun w' => Ok e (pts t (tcC { u with state := 8 }) :: L) w') (fun J hJ => cs.no (by simpa using h4) (cs.yes (by simpa using h12) (nn.mk (st1.mk h (by simp) fun w1 h => hJ w1 h)))) (fun w1 h => nn.mk (st1.mk h (by simp) fun w2 h => k w2 true ?_))
      unfold Un.release
      rw [if_neg h4, if_pos h12]
      exact h
    · refine jn.mk fun J _ => cs.no (by simpa using h4) (cs.no (by simpa using h12) (k w false ?_))
      unfold Un.release
      rw [if_neg h4, if_neg h12]
      exact h

theorem Kill_tcb {e w L t u R} (h : Ok e (pts t (tcC u) :: L) w) (hb : 0 ≤ u.acts ∧ u.acts ≤ 2 ^ 40) (k : ∀ w' c, Ok e (pts t (tcC u.kill.2) :: L) w' → R [.bool u.kill.1, .int .i64 c] w') : sh202 (some ⟨t, 0, none⟩) R w := by
  unfold sh202
  unfold Un.kill at k
  refine is_step h fun w1 h => cs.mk (fun h1 => ?_) (fun h1 => ?_)
  · have h1 : (16 : Int) = u.state := by simpa using h1
    rw [if_pos h1.symm] at k
    exact k w1 _ h
  · have h1 : ¬ (16 : Int) = u.state := by simpa using h1
    rw [if_neg (fun h => h1 h.symm)] at k
    refine call241 ?_
    unfold sh241
    refine nn.mk (st1.mk h (by simp) fun w2 h => nn.mk (st1.mk h (by simp) fun w3 h => nn.mk (st1.mk h (by simp) fun w4 h => nn.mk (st1.mk h (by simp) fun w5 h => nn.mk (ldI.mk (h.cell rfl) (cs.mk (fun h2 => ?_) (fun h2 => ?_)))))))
    · have h2 : u.acts = 0 := by simpa using h2
      rw [if_pos h2] at k
      exact ⟨(false, ()), rfl, k w5 _ h⟩
    · have h2 : ¬ u.acts = 0 := by simpa using h2
      rw [if_neg h2] at k
      refine nn.mk (ldI.mk (h.cell rfl) (nn.mk (st1.mk h (by simp) fun w6 h => nn.mk (st1.mk h (by simp) fun w7 h => ⟨(true, ()), rfl, k w7 _ ?_⟩))))
      rw [w64_in (by omega) (by omega)] at h
      exact h

theorem Stay_tcb {e w L t u R} (h : Ok e (pts t (tcC u) :: L) w) (k : ∀ w' c, Ok e (pts t (tcC (if u.state = 2 then { u with state := 4, asleep := false } else u)) :: L) w' → R [.int .i64 c] w') : sh205 (some ⟨t, 0, none⟩) R w := by
  unfold sh205
  refine is_step h fun w1 h => cs.mk (fun h1 => ?_) (fun h1 => ?_)
  · have h1 : ¬ (2 : Int) = u.state := by simpa using h1
    rw [if_neg (fun h => h1 h.symm)] at k
    exact k w1 _ h
  · have h1 : (2 : Int) = u.state := by simpa using h1
    rw [if_pos h1.symm] at k
    exact nn.mk (st1.mk h (by simp) fun w2 h => nn.mk (st1.mk h (by simp) fun w3 h => k w3 _ h))

theorem Sleep_tcb {e w L t u R} (h : Ok e (pts t (tcC u) :: L) w) (hb : 0 ≤ u.wups ∧ u.wups ≤ 2 ^ 40)
    (k1 : u.state ≠ 2 → ∀ w', Ok e (pts t (tcC u) :: L) w' → R [.bool false, .int .i64 (-41)] w')
    (k2 : u.state = 2 → u.wups > 0 → ∀ w', Ok e (pts t (tcC { u with wups := u.wups - 1 }) :: L) w' → R [.bool false, .int .i64 0] w')
    (k3 : u.state = 2 → ¬ u.wups > 0 → ∀ w', Ok e (pts t (tcC { u with state := 4, asleep := true }) :: L) w' → R [.bool true, .int .i64 0] w') : sh204 (some ⟨t, 0, none⟩) R w := by
  unfold sh204
  refine is_step h fun w1 h => cs.mk (fun h1 => ?_) (fun h1 => ?_)
  · have h1 : ¬ (2 : Int) = u.state := by simpa using h1
    exact k1 (fun h => h1 h.symm) w1 h
  · have h1 : (2 : Int) = u.state := by simpa using h1
    refine nn.mk (ldI.mk (h.cell rfl) (cs.mk (fun h2 => ?_) (fun h2 => ?_)))
    · have h2 := of_decide_eq_true h2
      refine nn.mk (ldI.mk (h.cell rfl) (nn.mk (st1.mk h (by simp) fun w2 h => k2 h1.symm h2 w2 ?_)))
      rw [w64_in (by omega) (by omega)] at h
      exact h
    · have h2 := of_decide_eq_false h2
      exact nn.mk (st1.mk h (by simp) fun w2 h => nn.mk (st1.mk h (by simp) fun w3 h => k3 h1.symm h2 w3 h))

theorem Wake_tcb {e w L t u R} (h : Ok e (pts t (tcC u) :: L) w) (hb : 0 ≤ u.wups)
    (k1 : u.state = 16 → ∀ w', Ok e (pts t (tcC u) :: L) w' → R [.bool false, .int .i64 (-41)] w')
    (k2 : u.state ≠ 16 → u.asleep = true → ∀ w', Ok e (pts t (tcC u.release) :: L) w' → R [.bool true, .int .i64 0] w')
    (k3 : u.state ≠ 16 → u.asleep = false → u.wups ≥ 7 → ∀ w', Ok e (pts t (tcC u) :: L) w' → R [.bool false, .int .i64 (-43)] w')
    (k4 : u.state ≠ 16 → u.asleep = false → ¬ u.wups ≥ 7 → ∀ w', Ok e (pts t (tcC { u with wups := u.wups + 1 }) :: L) w' → R [.bool false, .int .i64 0] w') : sh209 (some ⟨t, 0, none⟩) R w := by
  unfold sh209
  refine is_step h fun w1 h => cs.mk (fun h1 => ?_) (fun h1 => ?_)
  · have h1 : (16 : Int) = u.state := by simpa using h1
    exact k1 h1.symm w1 h
  · have h1 : ¬ (16 : Int) = u.state := by simpa using h1
    have h1 : u.state ≠ 16 := fun h => h1 h.symm
    refine nn.mk (ldB.mk (h.cell rfl) (cs.mk (fun h2 => ?_) (fun h2 => ?_)))
    · exact call115 (Release_tcb h fun w2 b h => ⟨(b, ()), rfl, k2 h1 h2 w2 h⟩)
    · refine nn.mk (ldI.mk (h.cell rfl) (cs.mk (fun h3 => ?_) (fun h3 => ?_)))
      · exact k3 h1 h2 (of_decide_eq_true h3) w1 h
      · have h3 := of_decide_eq_false h3
        refine nn.mk (ldI.mk (h.cell rfl) (nn.mk (st1.mk h (by simp) fun w2 h => k4 h1 h2 h3 w2 ?_)))
        rw [w64_in (by omega) (by omega)] at h
        exact h

theorem Suspend_tcb {e w L t u R} (h : Ok e (pts t (tcC u) :: L) w) (hb : 0 ≤ u.susps)
    (k1 : u.state = 16 → ∀ w', Ok e (pts t (tcC u) :: L) w' → R [.int .i64 (-41)] w')
    (k2 : u.state ≠ 16 → u.susps ≥ 7 → ∀ w', Ok e (pts t (tcC u) :: L) w' → R [.int .i64 (-43)] w')
    (k3 : u.state ≠ 16 → ¬ u.susps ≥ 7 → ∀ w', Ok e (pts t (tcC { u with susps := u.susps + 1, state := if u.state = 2 then 8 else if u.state = 4 then 12 else u.state }) :: L) w' → R [.int .i64 0] w') : sh211 (some ⟨t, 0, none⟩) R w := by
  unfold sh211
  refine is_step h fun w1 h => cs.mk (fun h1 => ?_) (fun h1 => ?_)
  · have h1 : (16 : Int) = u.state := by simpa using h1
    exact k1 h1.symm w1 h
  · have h1 : ¬ (16 : Int) = u.state := by simpa using h1
    have h1 : u.state ≠ 16 := fun h => h1 h.symm
    refine nn.mk (ldI.mk (h.cell rfl) (cs.mk (fun h2 => ?_) (fun h2 => ?_)))
    · exact k2 h1 (of_decide_eq_true h2) w1 h
    · have h2 := of_decide_eq_false h2
      refine nn.mk (ldI.mk (h.cell rfl) (nn.mk (st1.mk h (by simp) fun w2 h => nn.mk (ldI.mk (h.cell rfl) (cs.mk (fun h3 => ?_) (fun h3 => ?_))))))
      · have h3 : u.state = 2 := by simpa using h3
        refine nn.mk (st1.mk h (by simp) fun w3 h => k3 h1 h2 w3 ?_)
        rw [w64_in (by omega) (by omega)] at h
        rw [if_pos h3]
        exact h
      · have h3 : ¬ u.state = 2 := by simpa using h3
        refine cs.mk (fun h4 => ?_) (fun h4 => ?_)
        · have h4 : u.state = 4 := by simpa using h4
          refine nn.mk (st1.mk h (by simp) fun w3 h => k3 h1 h2 w3 ?_)
          rw [w64_in (by omega) (by omega)] at h
          rw [if_neg h3, if_pos h4]
          exact h
        · have h4 : ¬ u.state = 4 := by simpa using h4
          refine k3 h1 h2 w2 ?_
          rw [w64_in (by omega) (by omega)] at h
          rw [if_neg h3, if_neg h4]
          exact h

end Go.Proofs.YtenonfkfoedfmaaGreatDoor.B

