/- slices.Delete, slices.Insert and slices.Clone as shallow programs, for elements of any size. -/
import Derived.Test.YtjamgdepbjipdaaSep2
namespace Go.Proofs.Ytjamgdepbjipdaa.B
open Go
set_option linter.unusedVariables false
/-- what is known of slices.overlaps -/
structure OvT (P : Program) (f : FuncId) (t : TypeId) : Prop where
  ex : ∃ fn tr, P.funcs[f]? = some fn ∧ (fn.name == "runtime.NumGoroutine") = false ∧ fn.body.isNone = true ∧ Extern.findNext fn = none ∧ Extern.find fn = some (Extern.SlicesOverlaps.overlaps #[t, t] #[tr])
section
variable {e : World} {L : List SP} {w : World} {P : Program} {b o sz : Nat} {cs us vs post : List Value} {s d x : Sl} {R : List Value → World → Prop}
theorem Ok.slc_block (h : Ok e (slc sz s vs :: L) w) (h0 : 0 < s.cap) : ∃ b post, s.a = some ⟨b, 0, none⟩ ∧ s.cap * sz ≤ vs.length + post.length ∧ Ok e (pts b (vs ++ post) :: L) w := by
  rcases h.slcE.2.2.2 with ⟨_, hc, _⟩ | h
  · omega
  · exact h
set_option maxHeartbeats 2000000 in
theorem del_body {t : TypeId} {i j : Int} (T : SlT P t sz) (hsz : 0 < sz) (h : Ok e (slc sz s vs :: L) w) (hi : 0 ≤ i) (hij : i < j) (hj : j ≤ s.len) (hb : s.len ≤ 2 ^ 31)
    (k : ∀ s' w', s'.len = s.len - (j.toNat - i.toNat) → Ok e (slc sz s' (vs.take (i.toNat * sz) ++ vs.drop (j.toNat * sz)) :: L) w' → R [vS s'] w') :
    sb s i j (s.len : Int) sz fun s1 =>
    B.cs (i == j) (R [vS s] w) (
    dr w fun w2 =>
    sb s 0 i s.cap sz fun s3 =>
    sb s j s.len s.cap sz fun s4 =>
    ef P (Builtin.append_ #[t, t] t #[vS s3, vS s4]) [kS] w2 fun (r5 : Sl × Unit) w6 =>
    sb r5.1 (r5.1.len : Int) (s.len : Int) r5.1.cap sz fun s7 =>
    ef P (Builtin.clear_ #[t] 0 #[vS s7]) [] w6 fun (r8 : Unit) w9 =>
    R [vS r5.1] w9) := by
  obtain ⟨hl, hv, hc, -⟩ := h.slcE
  obtain ⟨b, post, ha, hp, hk⟩ := h.slc_block (by omega)
  refine ⟨hi, by omega, hj, by omega, ?_⟩
  refine cs.no (by simp; omega) ?_
  refine dr.mk hk fun w2 hk => ?_
  refine sb_at ha (by omega) hi (by omega) (Int.le_refl _) fun s3 o3 ha3 hl3 hc3 ho3 _ => ?_
  have ho3 : o3 = 0 := by simpa using ho3
  subst ho3
  refine sb_at ha (by omega) hj (by omega) (Int.le_refl _) fun s4 o4 ha4 hl4 hc4 ho4 ho4' => ?_
  have hin : i.toNat * sz ≤ vs.length := by rw [hl]; exact Nat.mul_le_mul_right _ (by omega)
  have hjn : j.toNat * sz ≤ vs.length := by rw [hl]; exact Nat.mul_le_mul_right _ (by omega)
  have h3 : Ok e (slc sz s3 (vs.take (i.toNat * sz)) :: L) w2 := by
    have hk' : Ok e (pts b (vs.take (i.toNat * sz) ++ (vs.drop (i.toNat * sz) ++ post)) :: L) w2 := by
      rw [← List.append_assoc, List.take_append_drop]; exact hk
    refine hk'.slcI ha3 (by simp [hl3, hin]) (fun v hm => hv v (List.mem_of_mem_take hm)) (by omega) ?_
    simp only [List.length_take, List.length_drop, List.length_append, hc3]
    simp only [Int.toNat_natCast, Int.toNat_zero, Nat.sub_zero]
    omega
  have hus : (vs.drop (j.toNat * sz)).length = s4.len * sz := by
    rw [List.length_drop, hl, hl4, ← Nat.sub_mul]; simp
  obtain ⟨s5, w6, hr, hl5, h5, hroom⟩ := append_run (P := P) (ty := t) (x := s4) (us := vs.drop (j.toNat * sz)) T hsz h3 hus (fun h => by rw [ha4] at h; cases h) (fun a ha j' u hu => by
      rw [ha4] at ha
      cases ha
      rw [Addr.add_lit]
      rw [List.getElem?_drop] at hu
      have hlt := (List.getElem?_eq_some_iff.1 hu).1
      have : j.toNat < s.len := by
        rcases Nat.lt_or_ge j.toNat s.len with h | h
        · exact h
        · have : s.len * sz ≤ j.toNat * sz := Nat.mul_le_mul_right _ h
          omega
      rw [ho4' (by omega)]
      exact hk.cell (by rw [List.getElem?_append_left hlt]; exact hu)) (fun v hm => hv v (List.mem_of_mem_drop hm)) (by omega)
  obtain ⟨ha5, hc5⟩ := hroom (by rw [ha3]; rfl) (by omega)
  rw [ha3] at ha5
  refine ⟨(s5, ()), w6, hr, ?_⟩
  dsimp only
  have hl5' : s5.len = s.len - (j.toNat - i.toNat) := by omega
  refine sb_at ha5 (by omega) (by omega) (by omega) (Int.le_refl _) fun s7 o7 ha7 hl7 hc7 ho7 ho7' => ?_
  have ho7 := ho7' (by omega)
  obtain ⟨hll5, hv5, hcc5, -⟩ := h5.slcE
  obtain ⟨b', post5, hb', hp5, hk5⟩ := h5.slc_block (by omega)
  rw [ha5] at hb'
  cases hb'
  have hfit : o7 + s7.len * sz ≤ (vs.take (i.toNat * sz) ++ vs.drop (j.toNat * sz) ++ post5).length := by
    rw [List.length_append]
    refine Nat.le_trans ?_ hp5
    rw [ho7, ← Nat.add_mul]
    exact Nat.mul_le_mul_right _ (by simp at hl7 ⊢; omega)
  refine ef.clear T hsz hk5 ha7 (.inr hfit) fun w9 zs hzs h9 => ?_
  refine k s5 w9 hl5' ?_
  have ho7l : o7 = (vs.take (i.toNat * sz) ++ vs.drop (j.toNat * sz)).length := by rw [ho7, hll5]; simp
  have e1 : (vs.take (i.toNat * sz) ++ vs.drop (j.toNat * sz) ++ post5).take o7 = vs.take (i.toNat * sz) ++ vs.drop (j.toNat * sz) := by
    rw [ho7l, List.take_left]
  rw [e1, List.append_assoc] at h9
  refine h9.slcI ha5 hll5 hv5 hcc5 ?_
  refine Nat.le_trans hp5 ?_
  have hf : o7 + zs.length ≤ (vs.take (i.toNat * sz) ++ vs.drop (j.toNat * sz) ++ post5).length := by rw [hzs]; exact hfit
  clear hk5 h9 h5 hr hroom hus h3 hk hp hp5 hin hjn
  revert ho7l hf
  generalize vs.take (i.toNat * sz) ++ vs.drop (j.toNat * sz) = A
  intro ho7l hf
  rw [List.length_append] at hf
  rw [List.length_append, List.length_drop, List.length_append]
  clear hzs hll5 hfit ho7 hl hl7 e1
  omega
theorem splice {α : Type} {A Z us post : List α} {o : Nat} (ho : o = A.length) (h : us.length ≤ Z.length) : (A ++ Z ++ post).take o ++ us ++ (A ++ Z ++ post).drop (o + us.length) = A ++ us ++ (Z.drop us.length ++ post) := by
  subst ho
  rw [List.append_assoc A Z post, List.take_left, ← List.drop_drop, List.drop_left, List.drop_append_of_le_length h]
theorem ef.copyAt {t ty : TypeId} {n : Nat} {A Z : List Value} {K : TK [kI] → World → Prop} (T : SlT P t sz) (h : Ok e (pts b (A ++ Z ++ post) :: L) w) (hd : d.a = some ⟨b, o, none⟩) (hn : n = Nat.min x.len d.len) (hul : us.length = n * sz)
    (hxa : x.a = none → us = []) (hu : ∀ a, x.a = some a → ∀ j u, us[j]? = some u → w.cell? (a.add j) = some u) (h1 : ∀ v ∈ us, v.oneCell' = true) (ho : o = A.length) (hfit : us.length ≤ Z.length)
    (k : ∀ w', Ok e (pts b (A ++ us ++ (Z.drop us.length ++ post)) :: L) w' → K ((n : Int), ()) w') : ef P (Builtin.copy_ #[t, t] ty #[vS d, vS x]) [kI] w K := by
  refine ef.copy T h hd hn hul hxa hu h1 ?_ fun w' h' => k w' ?_
  · rw [ho, List.length_append, List.length_append]; omega
  · rw [splice ho hfit] at h'; exact h'
theorem w64_i (n : Nat) (h : n ≤ 2 ^ 32) : w64 ((n : Nat) : Int) = (n : Int) := IntWalk.i64_in _ ⟨by omega, by omega⟩
set_option maxHeartbeats 2000000 in
theorem ins_body {t ti : TypeId} {ki : IntKind} {fo : FuncId} {i : Int} {Z : Sl → TK [kB] → World → Prop} (T : SlT P t sz) (hti : P.underlying ti = some (.int ki)) (O : OvT P fo t) (hsz : 0 < sz)
    (h : Ok e (slc sz x us :: slc sz s vs :: L) w) (hi : 0 ≤ i) (hin : i ≤ s.len) (hm : 0 < x.len) (hb : s.len + x.len ≤ 2 ^ 31)
    (k : ∀ s' w', s'.len = s.len + x.len → Ok e (slc sz s' (vs.take (i.toNat * sz) ++ us ++ vs.drop (i.toNat * sz)) :: L) w' → R [vS s'] w') :
    sb s i s.len s.cap sz fun s1 =>
    B.cs (((x.len : Int) : Int) == (0 : Int)) (R [vS s] w) (
    B.cs (i == ((s.len : Int) : Int)) (
    ef P (Builtin.append_ #[t, t] t #[vS s, vS x]) [kS] w fun (r2 : Sl × Unit) w3 =>
    R [vS r2.1] w3) (
    B.cs (decide ((w64 ((s.len : Int) + (x.len : Int)) : Int) > ((s.cap : Int) : Int))) (
    sb s 0 i s.cap sz fun s4 =>
    ef P (Builtin.append_ #[t, ti] t #[vS s4, .int .i64 (w64 ((w64 ((s.len : Int) + (x.len : Int))) - i))]) [kS] w fun (r5 : Sl × Unit) w6 =>
    sb r5.1 i r5.1.len r5.1.cap sz fun s7 =>
    ef P (Builtin.copy_ #[t, t] ti #[vS s7, vS x]) [kI] w6 fun (r8 : Int × Unit) w9 =>
    dr w9 fun w10 =>
    sb r5.1 (w64 (i + (x.len : Int))) r5.1.len r5.1.cap sz fun s11 =>
    sb s i s.len s.cap sz fun s12 =>
    ef P (Builtin.copy_ #[t, t] ti #[vS s11, vS s12]) [kI] w10 fun (r13 : Int × Unit) w14 =>
    R [vS r5.1] w14) (
    sb s 0 (w64 ((s.len : Int) + (x.len : Int))) s.cap sz fun s15 =>
    sb s15 (w64 (i + (x.len : Int))) s15.len s15.cap sz fun s16 =>
    xt P fo [vS x, vS s16] [kB] w fun (r17 : Bool × Unit) w18 =>
    B.cs (!r17.1) (
    dr w18 fun w19 =>
    sb s15 (w64 (i + (x.len : Int))) s15.len s15.cap sz fun s20 =>
    sb s15 i s15.len s15.cap sz fun s21 =>
    ef P (Builtin.copy_ #[t, t] ti #[vS s20, vS s21]) [kI] w19 fun (r22 : Int × Unit) w23 =>
    sb s15 i s15.len s15.cap sz fun s24 =>
    ef P (Builtin.copy_ #[t, t] ti #[vS s24, vS x]) [kI] w23 fun (r25 : Int × Unit) w26 =>
    R [vS s15] w26) (Z s15 r17 w18)))) := by
  obtain ⟨hlx, hvx, hcx, -⟩ := h.slcE
  obtain ⟨hl, hv, hc, -⟩ := h.p1.slcE
  obtain ⟨n, rfl⟩ : ∃ n : Nat, i = n := ⟨i.toNat, by omega⟩
  simp only [Int.toNat_natCast] at k ⊢
  have hn : n ≤ s.len := by omega
  have e1 : w64 ((s.len : Int) + (x.len : Int)) = ((s.len + x.len : Nat) : Int) := by rw [← Int.natCast_add]; exact w64_i _ (by omega)
  have e2 : w64 ((n : Int) + (x.len : Int)) = ((n + x.len : Nat) : Int) := by rw [← Int.natCast_add]; exact w64_i _ (by omega)
  rw [e1, e2]
  refine ⟨hi, hin, by omega, Int.le_refl _, ?_⟩
  refine cs.no (by simp; omega) ?_
  refine cs.mk (fun he => ?_) (fun hne => ?_)
  · have he : n = s.len := by have := eq_of_beq he; omega
    refine ef.append2 T hsz h.p1 (by omega) fun s' w' hl' hk => k s' w' hl' ?_
    rw [he, ← hl, List.take_length, List.drop_length, List.append_nil]
    exact hk.p1.drop
  have hlt : n < s.len := by
    have : n ≠ s.len := by intro h; simp [h] at hne
    omega
  obtain ⟨c, post2, hxa, hpx, hkx⟩ := h.slc_block (by omega)
  obtain ⟨b, post, ha, hp, hk⟩ := hkx.p1.slc_block (by omega)
  have hin : n * sz ≤ vs.length := by rw [hl]; exact Nat.mul_le_mul_right _ hn
  have htl : (vs.take (n * sz)).length = n * sz := by rw [List.length_take]; omega
  have hdl : (vs.drop (n * sz)).length = (s.len - n) * sz := by rw [List.length_drop, hl, ← Nat.sub_mul]
  have hd1 : ∀ v ∈ vs.drop (n * sz), v.oneCell' = true := fun v hm => hv v (List.mem_of_mem_drop hm)
  have hall : ∀ v ∈ vs.take (n * sz) ++ us ++ vs.drop (n * sz), v.oneCell' = true := by
    intro v hm
    rcases List.mem_append.1 hm with hm | hm
    · rcases List.mem_append.1 hm with hm | hm
      · exact hv v (List.mem_of_mem_take hm)
      · exact hvx v hm
    · exact hd1 v hm
  have hflen : (vs.take (n * sz) ++ us ++ vs.drop (n * sz)).length = (s.len + x.len) * sz := by
    rw [List.length_append, List.length_append, htl, hdl, hlx, ← Nat.add_mul, ← Nat.add_mul]
    congr 1
    omega
  have hread : ∀ {w0 : World} {L0 : List SP} {o0 : Nat}, Ok e (pts b (vs ++ post) :: L0) w0 → o0 = n * sz → ∀ a, (some ⟨b, o0, none⟩ : Option Addr) = some a → ∀ j u, (vs.drop (n * sz))[j]? = some u → w0.cell? (a.add j) = some u := by
    intro w0 L0 o0 hk0 ho a ha' j u hu
    cases ha'
    rw [Addr.add_lit, ho]
    rw [List.getElem?_drop] at hu
    have hlt := (List.getElem?_eq_some_iff.1 hu).1
    exact hk0.cell (by rw [List.getElem?_append_left hlt]; exact hu)
  refine cs.mk (fun hg => ?_) (fun hroom => ?_)
  · have hg : s.cap < s.len + x.len := by
      have := of_decide_eq_true hg
      omega
    refine sb_at ha (by omega) (by omega) (by omega) (Int.le_refl _) fun s4 o4 ha4 hl4 hc4 ho4 _ => ?_
    have ho4 : o4 = 0 := by simpa using ho4
    subst ho4
    have hcnt : w64 (((s.len + x.len : Nat) : Int) - (n : Int)) = ((s.len + x.len - n : Nat) : Int) := by
      rw [show ((s.len + x.len : Nat) : Int) - (n : Int) = ((s.len + x.len - n : Nat) : Int) by omega]
      exact w64_i _ (by omega)
    rw [hcnt]
    have hk' : Ok e (pts b (vs.take (n * sz) ++ (vs.drop (n * sz) ++ post)) :: pts c (us ++ post2) :: L) w := by
      rw [← List.append_assoc, List.take_append_drop]; exact hk
    simp only [Int.toNat_natCast, Int.toNat_zero, Nat.sub_zero] at hl4 hc4
    refine ef.appendMake T hti hsz hk' ha4 (by rw [htl, hl4]) (by omega) (by omega) (by omega) fun s5 c5 w6 zs ps ha5 hl5 hc5 hzs hcap5 h6 => ?_
    dsimp only
    rw [← List.append_assoc (vs.take (n * sz)), List.take_append_drop] at h6
    have hl5 : s5.len = s.len + x.len := by omega
    refine sb_at ha5 (by omega) (by omega) (by omega) (Int.le_refl _) fun s7 o7 ha7 hl7 hc7 _ ho7 => ?_
    have ho7 := ho7 (by omega)
    simp only [Int.toNat_natCast] at ho7 hl7
    have hzl : zs.length = x.len * sz + (s.len - n) * sz := by
      rw [hzs, ← Nat.add_mul]
      congr 1
      omega
    refine ef.copyAt (us := us) (n := x.len) T h6 ha7 (by rw [show Nat.min x.len s7.len = min x.len s7.len from rfl]; omega) hlx (fun h => by rw [hxa] at h; cases h) (fun a ha' j u hu => ?_) hvx (by rw [ho7, htl]) (by omega) fun w9 h9 => ?_
    · rw [hxa] at ha'
      cases ha'
      rw [Addr.add_lit]
      have hlt := (List.getElem?_eq_some_iff.1 hu).1
      exact h6.p2.cell (by rw [Nat.zero_add, List.getElem?_append_left hlt]; exact hu)
    rw [← List.append_assoc] at h9
    refine dr.mk h9 fun w10 h9 => ?_
    refine sb_at ha5 (by omega) (by omega) (by omega) (Int.le_refl _) fun s11 o11 ha11 hl11 hc11 _ ho11 => ?_
    have ho11 := ho11 (by omega)
    simp only [Int.toNat_natCast] at ho11 hl11
    refine sb_at ha (by omega) (by omega) (by omega) (Int.le_refl _) fun s12 o12 ha12 hl12 hc12 _ ho12 => ?_
    have ho12 := ho12 (by omega)
    simp only [Int.toNat_natCast] at ho12 hl12
    have hzd : (zs.drop us.length).length = (s.len - n) * sz := by rw [List.length_drop, hzl, hlx]; omega
    have hA : (vs.take (n * sz) ++ us).length = o11 := by rw [List.length_append, htl, hlx, ho11, Nat.add_mul]
    refine ef.copyAt (us := vs.drop (n * sz)) (n := s.len - n) T h9 ha11 (by rw [show Nat.min s12.len s11.len = min s12.len s11.len from rfl]; omega) hdl (fun h => by rw [ha12] at h; cases h) (by rw [ha12]; exact hread h9.p1 ho12) hd1 hA.symm (by rw [hzd, hdl]; exact Nat.le_refl _) fun w14 h14 => ?_
    refine k s5 w14 hl5 ?_
    have hps : s5.cap * sz ≤ (s.len + x.len) * sz + ps.length := by
      refine Nat.le_trans hcap5 ?_
      rw [List.length_append, List.length_append, htl, hzl, Nat.add_mul, Nat.sub_mul]
      have : n * sz ≤ s.len * sz := Nat.mul_le_mul_right _ hn
      omega
    refine Ok.slcI (h14.p1.drop.p1.drop) ha5 (by rw [hflen, hl5]) hall hc5 ?_
    refine Nat.le_trans hps ?_
    rw [hflen, List.length_append]
    omega
  · have hroom : s.len + x.len ≤ s.cap := by
      have := of_decide_eq_false hroom
      omega
    refine sb_at ha (by omega) (by omega) (by omega) (Int.le_refl _) fun s15 o15 ha15 hl15 hc15 ho15 _ => ?_
    have ho15 : o15 = 0 := by simpa using ho15
    subst ho15
    simp only [Int.toNat_natCast, Int.toNat_zero, Nat.sub_zero] at hl15 hc15
    refine sb_at ha15 (by omega) (by omega) (by omega) (Int.le_refl _) fun s16 o16 ha16 hl16 hc16 _ ho16 => ?_
    have hne : vs ++ post ≠ [] := by
      intro h0
      have h1 := (List.append_eq_nil_iff.1 h0).1
      rw [h1] at hl
      have : 0 < s.len * sz := Nat.mul_pos (by omega) hsz
      simp only [List.length_nil] at hl
      omega
    obtain ⟨fn, tr, hf1, hf2, hf3, hf4, hf5⟩ := O.ex
    refine xt.overlaps hf1 hf2 hf3 hf4 hf5 T hk.p1 hxa ha16 hne ?_
    refine cs.yes rfl ?_
    refine dr.mk hk fun w19 hk => ?_
    refine sb_at ha15 (by omega) (by omega) (by omega) (Int.le_refl _) fun s20 o20 ha20 hl20 hc20 _ ho20 => ?_
    refine sb_at ha15 (by omega) (by omega) (by omega) (Int.le_refl _) fun s21 o21 ha21 hl21 hc21 _ ho21 => ?_
    have ho20 := ho20 (by omega)
    have ho21 := ho21 (by omega)
    simp only [Int.toNat_natCast] at ho20 hl20 ho21 hl21
    have htot : (s.len + x.len) * sz ≤ vs.length + post.length := Nat.le_trans (Nat.mul_le_mul_right _ hroom) hp
    have hsp : ((vs ++ post).take o20).length = o20 := by
      rw [List.length_take, List.length_append]
      have : o20 ≤ (s.len + x.len) * sz := by rw [ho20]; exact Nat.mul_le_mul_right _ (by omega)
      omega
    have hk2 : Ok e (pts b ((vs ++ post).take o20 ++ (vs ++ post).drop o20 ++ []) :: pts c (us ++ post2) :: L) w19 := by
      rw [List.append_nil, List.take_append_drop]; exact hk
    refine ef.copyAt (us := vs.drop (n * sz)) (n := s.len - n) T hk2 ha20 (by rw [show Nat.min s21.len s20.len = min s21.len s20.len from rfl]; omega) hdl (fun h => by rw [ha21] at h; cases h) (by rw [ha21]; exact hread hk ho21) hd1 hsp.symm ?_ fun w23 h23 => ?_
    · rw [hdl, List.length_drop, List.length_append, ho20, Nat.sub_mul, Nat.add_mul]
      rw [Nat.add_mul] at htot
      omega
    refine sb_at ha15 (by omega) (by omega) (by omega) (Int.le_refl _) fun s24 o24 ha24 hl24 hc24 _ ho24 => ?_
    have ho24 := ho24 (by omega)
    simp only [Int.toNat_natCast] at ho24 hl24
    have htk : (vs ++ post).take o20 = vs.take (n * sz) ++ ((vs ++ post).take o20).drop (n * sz) := by
      have h1 : ((vs ++ post).take o20).take (n * sz) = vs.take (n * sz) := by
        rw [List.take_take, Nat.min_eq_left (by rw [ho20, Nat.add_mul]; omega), List.take_append_of_le_length hin]
      rw [← h1, List.take_append_drop]
    have hdl2 : (((vs ++ post).take o20).drop (n * sz)).length = us.length := by
      rw [List.length_drop, hsp, ho20, hlx, Nat.add_mul]; omega
    rw [htk, List.append_assoc (vs.take (n * sz) ++ _)] at h23
    refine ef.copyAt (us := us) (n := x.len) T h23 ha24 (by rw [show Nat.min x.len s24.len = min x.len s24.len from rfl]; omega) hlx (fun h => by rw [hxa] at h; cases h) (fun a ha' j u hu => ?_) hvx (by rw [ho24, htl]) (by omega) fun w26 h26 => ?_
    · rw [hxa] at ha'
      cases ha'
      rw [Addr.add_lit]
      have hlt := (List.getElem?_eq_some_iff.1 hu).1
      exact h23.p1.cell (by rw [Nat.zero_add, List.getElem?_append_left hlt]; exact hu)
    refine k s15 w26 hl15 ?_
    rw [List.drop_eq_nil_of_le (Nat.le_of_eq hdl2), List.nil_append, ← List.append_assoc] at h26
    refine Ok.slcI (h26.p1.drop) ha15 (by rw [hflen, hl15]) hall (by omega) ?_
    rw [hflen, hc15]
    refine Nat.le_trans hp ?_
    simp only [List.length_append, List.length_drop, List.append_nil, hdl]
    have h5 : (s.len + x.len) * sz = s.len * sz + x.len * sz := Nat.add_mul ..
    have h6 : (s.len - n) * sz = s.len * sz - n * sz := Nat.sub_mul ..
    have h7 : o20 = n * sz + x.len * sz := by rw [ho20, Nat.add_mul]
    omega
end
end Go.Proofs.Ytjamgdepbjipdaa.B
