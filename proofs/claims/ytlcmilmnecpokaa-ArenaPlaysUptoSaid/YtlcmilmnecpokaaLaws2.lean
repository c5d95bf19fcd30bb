/- Laws of layer 2. -/
import Derived.Test.YtlcmilmnecpokaaArena
import Derived.Test.YtlcmilmnecpokaaRow
namespace Go.Proofs.Ytlcmilmnecpokaa.B
open Go
set_option linter.unusedVariables false

/-- what a law ends with -/
abbrev LawEnd (e : World) : List Value → World → Prop := fun vs w' => vs = [.bool true] ∧ Ok e [old e] w'

/-- a guard: what is known where it doesn't hold -/
theorem jn.g {w : World} {rest : TK [kB] → World → Prop} {body : (TK [kB] → World → Prop) → World → Prop} (p : Prop) (hb : ∀ J : TK [kB] → World → Prop, (∀ c : Bool, (c = false → p) → J (c, ()) w) → body J w)
    (hr : ∀ c : Bool, (c = false → p) → rest (c, ()) w) : jn [kB] w rest body := fun J hJ => hb J fun c hc => hJ _ _ (hr c hc)

theorem str_eq (l : List UInt8) : ((bs l).toList == (bs l).toList) = true := by simp

theorem unpack2 {e w A B L} (h : Ok e (oksH [A, B] :: L) w) : Ok e (A :: B :: L) w := h.unpack

theorem unpack3 {e w A B C L} (h : Ok e (oksH [A, B, C] :: L) w) : Ok e (A :: B :: C :: L) w := h.unpack

/-- a part and its bytes, as one argument -/
theorem pack_one {e w L b x A l} (h : Ok e (pts b [vS x] :: A :: L) w) (r : RdB e A x l) : Ok e (oksH [pts b [vS x], A] :: L) w ∧ RdP e (oksH [pts b [vS x], A]) ⟨some ⟨b, 0, none⟩, 1, 1⟩ [l] :=
  ⟨Ok.pack (M := [pts b [vS x], A]) h, rdp_one r⟩

set_option maxHeartbeats 1000000 in
theorem known_2 {e w L R} (h : Ok e L w) (k : ∀ w', Ok e L w' → R [.bool true] w') : sh8 R w := by
  unfold sh8
  refine call9 (New_arena h (fun h0 => absurd (by decide) h0) fun _ b w1 h => ⟨(some ⟨b, 0, none⟩, (0 : Int), ()), rfl, ?_⟩)
  refine jn.bool false (fun J hJ => cs.no rfl hJ) ?_
  refine cs.no rfl ?_
  refine al.mk h fun b1 w2 h => ?_
  have h : Ok e (pts b1 (by8 [97, 98]) :: arenaP b 0 (List.replicate (16 : Int).toNat 0) :: L) w2 := h
  refine ef.mark mkB h rfl fun w3 h => ?_
  refine al.mk h fun b2 w4 h => ?_
  have h : Ok e (pts b2 (by8 [99]) :: rdb ⟨some ⟨b1, 0, none⟩, 2, 2⟩ [97, 98] :: arenaP b 0 (List.replicate (16 : Int).toNat 0) :: L) w4 := h
  refine ef.mark mkB h rfl fun w5 h => ?_
  refine al.mk h fun b3 w6 h => ?_
  have r1 := rdb_rd h.p2
  have r2 := rdb_rd h.p1
  have r := rdp_two (b := b3) r1 r2
  have h := (Ok.emb (h) (.cons (A := pts b3 _) (by with_reducible first | exact sl0 | exact .there sl0 | exact .there sl1 | exact .there sl2 | exact .there sl3 | exact .there sl4 | exact .there sl5 | exact .there sl6 | exact .there sl7 | exact .there sl8 | exact .there sl9 | exact .there sl10 | exact .there sl11 | exact .there sl12) (.cons (A := rdb ⟨some ⟨b1, 0, none⟩, 2, 2⟩ _) (by with_reducible first | exact sl0 | exact .there sl0 | exact .there sl1 | exact .there sl2 | exact .there sl3 | exact .there sl4 | exact .there sl5 | exact .there sl6 | exact .there sl7 | exact .there sl8 | exact .there sl9 | exact .there sl10 | exact .there sl11 | exact .there sl12) (.cons (A := rdb ⟨some ⟨b2, 0, none⟩, 1, 1⟩ _) (by with_reducible first | exact sl0 | exact .there sl0 | exact .there sl1 | exact .there sl2 | exact .there sl3 | exact .there sl4 | exact .there sl5 | exact .there sl6 | exact .there sl7 | exact .there sl8 | exact .there sl9 | exact .there sl10 | exact .there sl11 | exact .there sl12) (.same _)))))
  have h := Ok.pack (M := [pts b3 [vS ⟨some ⟨b1, 0, none⟩, 2, 2⟩, vS ⟨some ⟨b2, 0, none⟩, 1, 1⟩], rdb ⟨some ⟨b1, 0, none⟩, 2, 2⟩ [97, 98], rdb ⟨some ⟨b2, 0, none⟩, 1, 1⟩ [99]]) h
  refine call10 (Write_arena h.p1 (by decide) r (by decide) (by decide) (fun h0 => absurd (by unfold inA; decide) h0) fun _ w7 h => ⟨((0 : Int), ()), rfl, ?_⟩)
  have e1 : wrA (List.replicate (16 : Int).toNat 0) (4 : Int).toNat [([97, 98] : List UInt8), [99]].flatten = [0, 0, 0, 0, 97, 98, 99, 0, 0, 0, 0, 0, 0, 0, 0, 0] := by rfl
  rw [e1] at h
  refine call12 (Read_arena h (by decide) (fun h0 => absurd (by unfold inA; decide) h0) fun _ s w8 hs h => ⟨(s, (0 : Int), ()), rfl, ?_⟩)
  refine call13 (PutWord_arena h.p1 (by decide) (by decide) (fun h0 => absurd (by unfold inA; decide) h0) fun _ _ w9 h => ⟨((0 : Int), ()), rfl, ?_⟩)
  have e2 : wrA [0, 0, 0, 0, 97, 98, 99, 0, 0, 0, 0, 0, 0, 0, 0, 0] (8 : Int).toNat (wB 16909060) = [0, 0, 0, 0, 97, 98, 99, 0, 4, 3, 2, 1, 0, 0, 0, 0] := by rfl
  rw [e2] at h
  refine call14 (Word_arena h (by decide) (fun h0 => absurd (by unfold inA; decide) h0) fun _ _ w10 h => ⟨((16909060 : Int), (0 : Int), ()), ?_, ?_⟩)
  · have : wordOf ((List.drop (8 : Int).toNat [0, 0, 0, 0, 97, 98, 99, 0, 4, 3, 2, 1, 0, 0, 0, 0]).take 4) = 16909060 := wordOf_wB (x := 16909060) (by decide) (by decide)
    rw [this]; rfl
  refine call14 (Word_arena h (by decide) (fun _ w11 h => ⟨((0 : Int), (-17 : Int), ()), rfl, ?_⟩) fun _ h0 => absurd h0 (by decide))
  refine jn.bool true (fun J hJ => cs.yes rfl ?_) ?_
  · refine tx.mkS bsT h.p1 ?_
    rw [bs_list, bs_list]
    exact hJ
  refine jn.bool true (fun J hJ => cs.yes rfl hJ) ?_
  refine jn.bool true (fun J hJ => cs.yes rfl hJ) ?_
  refine jn.bool true (fun J hJ => cs.yes rfl ?_) ?_
  · exact call18 (Size_arena h ⟨((16 : Int), ()), rfl, hJ⟩)
  refine jn.bool true (fun J hJ => cs.yes rfl ?_) ?_
  · exact call11 (Cost_arena h ⟨((16 : Int), ()), rfl, hJ⟩)
  exact k _ h.drop.drop.drop

theorem rep_wr {n : Nat} {x y : UInt8} : wrA (List.replicate n x) 0 (List.replicate n y) = List.replicate n y := by simp [wrA]

theorem wrA_back {m l : List UInt8} {a : Nat} (h : a + l.length ≤ m.length) : ((wrA m a l).drop a).take l.length = l := by
  unfold wrA
  have h1 : (m.take a).length = a := by rw [List.length_take]; omega
  rw [List.append_assoc, List.drop_append_of_le_length (by omega), List.drop_of_length_le (by omega), List.nil_append, List.take_append_of_le_length (Nat.le_refl _), List.take_length]

set_option maxHeartbeats 2000000 in
theorem ArenaTwins_walk {e : World} {a0 : Sl} {a1 a2 : Int} {xs : List Int} (ha : ArgI .u8 e a0 xs) (_ : (Lit.int .i64 a1).wf = true) (hc : (Lit.int .u8 a2).wf = true) : sh7 a0 a1 a2 (LawEnd e) e := by
  unfold sh7
  obtain ⟨l, rfl, r⟩ := argI_b ha
  obtain ⟨c, rfl⟩ : ∃ c : UInt8, a2 = (c.toNat : Int) := by
    have := wf_u8 hc
    refine ⟨UInt8.ofNat a2.toNat, ?_⟩
    rw [UInt8.toNat_ofNat']; omega
  have hl := r.len
  refine call8 (known_2 (Ok.start e) fun w1 h => ⟨(true, ()), enc_b rfl, ?_⟩)
  refine cs.no rfl ?_
  refine jn.g (a0.len ≤ 100 ∧ 0 ≤ a1) (fun J hJ => cs.mk (fun h1 => hJ true (fun h => by cases h)) (fun h1 => hJ _ fun h2 => ?_)) fun c1 hc1 => ?_
  · have := of_decide_eq_false h1; have := of_decide_eq_false h2; omega
  refine jn.g (a0.len ≤ 100 ∧ 0 ≤ a1 ∧ a1 ≤ 100) (fun J hJ => cs.mk (fun h1 => hJ true (fun h => by cases h)) (fun h1 => hJ _ fun h2 => ?_)) fun c2 hc2 => ?_
  · have := hc1 h1; have := of_decide_eq_false h2; omega
  refine cs.mk (fun _ => ⟨rfl, h⟩) (fun h1 => ?_)
  obtain ⟨g1, g2, g3⟩ := hc2 h1
  refine call9 (New_arena h (fun h0 => absurd (by decide) h0) fun _ b w2 h => ⟨(some ⟨b, 0, none⟩, (0 : Int), ()), rfl, ?_⟩)
  refine al.mk h fun b1 w3 h => ?_
  have h := (Ok.emb (h) (.cons (A := pts b1 _) (by with_reducible first | exact sl0 | exact .there sl0 | exact .there sl1 | exact .there sl2 | exact .there sl3 | exact .there sl4 | exact .there sl5 | exact .there sl6 | exact .there sl7 | exact .there sl8 | exact .there sl9 | exact .there sl10 | exact .there sl11 | exact .there sl12) (.cons (A := old e) (by with_reducible first | exact sl0 | exact .there sl0 | exact .there sl1 | exact .there sl2 | exact .there sl3 | exact .there sl4 | exact .there sl5 | exact .there sl6 | exact .there sl7 | exact .there sl8 | exact .there sl9 | exact .there sl10 | exact .there sl11 | exact .there sl12) (.same _))))
  obtain ⟨h, rp⟩ := pack_one (b := b1) h r
  have hm : ((List.replicate (200 : Int).toNat 0 : List UInt8)).length = 200 := List.length_replicate
  have hfl : ([l].flatten) = l := by simp
  refine call10 (Write_arena h.p1 (by omega) rp (by simp) (by rw [hfl]; omega) (fun h0 => absurd (by unfold inA; rw [hfl]; omega) h0) fun _ w4 h => ⟨((0 : Int), ()), rfl, ?_⟩)
  rw [hfl] at h
  have hm2 : (wrA (List.replicate (200 : Int).toNat 0) a1.toNat l).length = 200 := by rw [wrA_len (by omega)]; exact hm
  refine call17 (Twin_arena h (by omega) fun b2 w5 h => ⟨(some ⟨b2, 0, none⟩, ()), rfl, ?_⟩)
  refine jn.bool false (fun J hJ => cs.no rfl ?_) ?_
  · refine call11 (Cost_arena h ⟨(_, ()), rfl, ?_⟩)
    refine call11 (Cost_arena h.p1 ⟨(_, ()), rfl, ?_⟩)
    rw [bne_self_eq_false]
    exact hJ
  refine jn.bool false (fun J hJ => cs.no rfl ?_) ?_
  · refine call18 (Size_arena h ⟨((200 : Int), ()), by rw [hm2]; rfl, ?_⟩)
    exact hJ
  refine cs.no rfl ?_
  refine call15 (Fill_arena h (by omega) (fun h0 => absurd (by unfold inA; omega) h0) fun _ w6 h => ⟨((0 : Int), ()), rfl, ?_⟩)
  have e1 : wrA (wrA (List.replicate (200 : Int).toNat 0) a1.toNat l) (0 : Int).toNat (List.replicate (200 : Int).toNat c) = List.replicate 200 c := by
    have : ∀ m : List UInt8, m.length = 200 → wrA m 0 (List.replicate 200 c) = List.replicate 200 c := fun m hm => by
      unfold wrA
      rw [List.length_replicate, List.drop_of_length_le (by omega), List.append_nil, List.take_zero, List.nil_append]
    exact this _ hm2
  rw [e1] at h
  refine call12 (Read_arena h.p1 (by omega) (fun h0 => absurd (by unfold inA; omega) h0) fun _ s w7 hs h => ⟨(s, (0 : Int), ()), rfl, ?_⟩)
  rw [Int.toNat_natCast, ← hl, wrA_back (by omega)] at h
  refine call12 (Read_arena (Ok.emb (h) (.cons (A := arenaP b2 _ _) (by with_reducible first | exact sl0 | exact .there sl0 | exact .there sl1 | exact .there sl2 | exact .there sl3 | exact .there sl4 | exact .there sl5 | exact .there sl6 | exact .there sl7 | exact .there sl8 | exact .there sl9 | exact .there sl10 | exact .there sl11 | exact .there sl12) (.same _))) (by rw [List.length_replicate]; omega) (fun h0 => absurd (by unfold inA; rw [List.length_replicate]; omega) h0) fun _ s2 w8 hs2 h => ⟨(s2, (0 : Int), ()), rfl, ?_⟩)
  have e2 : ((List.replicate 200 c).drop (0 : Int).toNat).take (200 : Int).toNat = List.replicate 200 c := List.take_of_length_le (by rw [show (0 : Int).toNat = 0 from rfl, List.drop_zero, List.length_replicate]; decide)
  rw [e2] at h
  have hs2 : s2.len = 200 := hs2
  have hr2 := slc_rdB h
  have h := (Ok.emb (h) (.cons (A := slc 1 s2 _) (by with_reducible first | exact sl0 | exact .there sl0 | exact .there sl1 | exact .there sl2 | exact .there sl3 | exact .there sl4 | exact .there sl5 | exact .there sl6 | exact .there sl7 | exact .there sl8 | exact .there sl9 | exact .there sl10 | exact .there sl11 | exact .there sl12) (.cons (A := slc 1 s _) (by with_reducible first | exact sl0 | exact .there sl0 | exact .there sl1 | exact .there sl2 | exact .there sl3 | exact .there sl4 | exact .there sl5 | exact .there sl6 | exact .there sl7 | exact .there sl8 | exact .there sl9 | exact .there sl10 | exact .there sl11 | exact .there sl12) (.cons (A := oksH _) (by with_reducible first | exact sl0 | exact .there sl0 | exact .there sl1 | exact .there sl2 | exact .there sl3 | exact .there sl4 | exact .there sl5 | exact .there sl6 | exact .there sl7 | exact .there sl8 | exact .there sl9 | exact .there sl10 | exact .there sl11 | exact .there sl12) (.same _)))))
  refine lp.mk (fun t w' => ∃ i : Nat, t.1 = (i : Int) ∧ i ≤ 200 ∧ Ok e [slc 1 s2 (by8 (List.replicate 200 c)), slc 1 s (by8 l), oksH [pts b1 [vS a0], old e]] w') (fun t _ => 200 - t.1.toNat)
    ⟨0, rfl, Nat.zero_le _, (h.emb (by repeat' (first | with_reducible exact Emb.same _ | exact Emb.nil _ | refine Emb.cons (by with_reducible first | exact sl0 | exact .there sl0 | exact .there sl1 | exact .there sl2 | exact .there sl3 | exact .there sl4 | exact .there sl5 | exact .there sl6 | exact .there sl7 | exact .there sl8 | exact .there sl9 | exact .there sl10 | exact .there sl11 | exact .there sl12) ?_ | refine Emb.skip ?_)))⟩ ?_
  clear h
  rintro ⟨(i' : Int), _⟩ w9 ⟨i, hi, hi1, h⟩
  dsimp only at hi
  subst hi
  refine cs.mk (fun hlt => ?_) (fun hge => ?_)
  · have hlt : i < 200 := by have := of_decide_eq_true hlt; dsimp only at this; omega
    refine ix_rdb hr2 (Int.natCast_nonneg _) (by dsimp only; omega) fun b3 o3 x hx hcell => ldI.mk (hcell _ _ h) ?_
    have hxc : x = c := by
      dsimp only at hx
      rw [Int.toNat_natCast, List.getElem?_replicate, if_pos hlt] at hx
      cases hx; rfl
    subst hxc
    refine cs.no (by simp) ?_
    have hw : w64 ((i : Int) + 1) = ((i + 1 : Nat) : Int) := by rw [w64_in (by omega) (by omega)]; rfl
    dsimp only
    rw [hw]
    refine ⟨⟨i + 1, rfl, hlt, h⟩, ?_⟩
    show 200 - Int.toNat ((i + 1 : Nat) : Int) < 200 - Int.toNat (i : Int)
    omega
  · refine tx.mkS bsT h.p1 ?_
    have h := unpack2 h.p2
    have h := (Ok.emb (h) (.cons (A := old e) (by with_reducible first | exact sl0 | exact .there sl0 | exact .there sl1 | exact .there sl2 | exact .there sl3 | exact .there sl4 | exact .there sl5 | exact .there sl6 | exact .there sl7 | exact .there sl8 | exact .there sl9 | exact .there sl10 | exact .there sl11 | exact .there sl12) (.same _)))
    refine tx.mk bsT h r ?_
    refine jn.bool true (fun J hJ => cs.yes (str_eq l) ?_) ⟨rfl, (h.emb (by repeat' (first | with_reducible exact Emb.same _ | exact Emb.nil _ | refine Emb.cons (by with_reducible first | exact sl0 | exact .there sl0 | exact .there sl1 | exact .there sl2 | exact .there sl3 | exact .there sl4 | exact .there sl5 | exact .there sl6 | exact .there sl7 | exact .there sl8 | exact .there sl9 | exact .there sl10 | exact .there sl11 | exact .there sl12) ?_ | refine Emb.skip ?_)))⟩
    dsimp only
    rw [hs2]
    exact hJ

set_option maxHeartbeats 2000000 in
theorem ArenaEdges_walk {e : World} {a0 a1 a2 : Int} (_ : (Lit.int .i64 a0).wf = true) (_ : (Lit.int .i64 a1).wf = true) (hc : (Lit.int .u8 a2).wf = true) : sh5 a0 a1 a2 (LawEnd e) e := by
  unfold sh5
  obtain ⟨c, rfl⟩ : ∃ c : UInt8, a2 = (c.toNat : Int) := by
    have := wf_u8 hc
    refine ⟨UInt8.ofNat a2.toNat, ?_⟩
    rw [UInt8.toNat_ofNat']; omega
  obtain ⟨y, hy⟩ : ∃ y : UInt8, bOr .u8 (c.toNat : Int) 1 = (y.toNat : Int) := ⟨_, wrap_u8 _⟩
  refine call8 (known_2 (Ok.start e) fun w1 h => ⟨(true, ()), enc_b rfl, ?_⟩)
  refine cs.no rfl ?_
  refine jn.g (0 ≤ a0 ∧ a0 ≤ 500) (fun J hJ => cs.mk (fun h1 => hJ true (fun h => by cases h)) (fun h1 => hJ _ fun h2 => ?_)) fun c1 hc1 => ?_
  · have := of_decide_eq_false h1; have := of_decide_eq_false h2; omega
  refine jn.g (0 ≤ a0 ∧ a0 ≤ 500 ∧ 0 ≤ a1) (fun J hJ => cs.mk (fun h1 => hJ true (fun h => by cases h)) (fun h1 => hJ _ fun h2 => ?_)) fun c2 hc2 => ?_
  · have := hc1 h1; have := of_decide_eq_false h2; omega
  refine jn.g (0 ≤ a0 ∧ a0 ≤ 500 ∧ 0 ≤ a1 ∧ a1 ≤ 500) (fun J hJ => cs.mk (fun h1 => hJ true (fun h => by cases h)) (fun h1 => hJ _ fun h2 => ?_)) fun c3 hc3 => ?_
  · have := hc2 h1; have := of_decide_eq_false h2; omega
  refine cs.mk (fun _ => ⟨rfl, h⟩) (fun h1 => ?_)
  obtain ⟨g1, g2, g3, g4⟩ := hc3 h1
  clear hc1 hc2 hc3 h1
  refine call9 (New_arena h (fun h0 => absurd (by omega) h0) fun _ b w2 h => ⟨(some ⟨b, 0, none⟩, (0 : Int), ()), rfl, ?_⟩)
  refine ef.makeB mkT_b h g3 (by omega) fun s w3 hs hsc hsa h => ?_
  obtain ⟨z, rfl⟩ := Int.eq_ofNat_of_zero_le g1
  obtain ⟨n, rfl⟩ := Int.eq_ofNat_of_zero_le g3
  simp only [Int.toNat_natCast] at hs h
  refine lp.mk (fun t w' => ∃ i : Nat, t.1 = (i : Int) ∧ i ≤ n ∧ Ok e [slc 1 s (by8 (wrA (List.replicate n 0) 0 ((List.replicate n y).take i))), arenaP b 0 (List.replicate z 0), old e] w') (fun t _ => n - t.1.toNat)
    ⟨0, rfl, Nat.zero_le _, by rw [List.take_zero, wrA_nil]; exact h⟩ ?_
  clear h
  rintro ⟨(i' : Int), _⟩ w4 ⟨i, hi, hi1, h⟩
  dsimp only at hi
  subst hi
  refine cs.mk (fun hlt => ?_) (fun hge => ?_)
  · have hlt : i < n := by have := of_decide_eq_true hlt; dsimp only at this; omega
    have hsub : SubOf s 1 0 n s := ⟨by omega, fun h0 => by
      obtain ⟨-, -, hcc, hcase⟩ := h.slcE
      rcases hcase with ⟨h0', h00, _⟩ | ⟨b', post, hb, _⟩
      · omega
      · exact ⟨b', hb, by rw [hb, Nat.zero_mul]⟩⟩
    dsimp only
    rw [hy]
    refine st_sub h hsub (by omega) (by omega) (x := y) rfl fun w5 h => ?_
    have e0 := wrA_step (m := List.replicate n 0) (l := List.replicate n y) (a := 0) (k := i) (x := y) (by simp) (by simp [hlt])
    rw [e0] at h
    have hw : w64 ((i : Int) + 1) = ((i + 1 : Nat) : Int) := by rw [w64_in (by omega) (by omega)]; rfl
    rw [hw]
    refine ⟨⟨i + 1, rfl, hlt, h⟩, ?_⟩
    show n - Int.toNat ((i + 1 : Nat) : Int) < n - Int.toNat (i : Int)
    omega
  have hge : ¬ i < n := by have := of_decide_eq_false hge; dsimp only at this; omega
  rw [List.take_of_length_le (by simp; omega), rep_wr] at h
  have hr := slc_rdB h
  have hlen : (List.replicate n y).length = n := by simp
  have hfl : ([List.replicate n y].flatten).length = n := by simp
  have hm : ((List.replicate z 0 : List UInt8)).length = z := by simp
  have hw1 : w64 ((z : Int) - n) = (z : Int) - n := w64_in (by omega) (by omega)
  have hw2 : w64 ((z : Int) - n + 1) = (z : Int) - n + 1 := w64_in (by omega) (by omega)
  rw [hw1, hw2]
  by_cases hn : n ≤ z
  · refine al.mk h fun b1 w5 h => ?_
    obtain ⟨h, rp⟩ := pack_one (b := b1) h hr
    refine call10 (Write_arena h.p1 (by omega) rp (by simp) (by omega) (fun h0 => absurd (by unfold inA; omega) h0) fun _ w6 h => ⟨((0 : Int), ()), rfl, ?_⟩)
    have hfe : [List.replicate n y].flatten = List.replicate n y := by simp
    rw [hfe, show ((z : Int) - n).toNat = z - n by omega] at h
    have hm2 : (wrA (List.replicate z 0) (z - n) (List.replicate n y)).length = z := by rw [wrA_len (by omega)]; exact hm
    have h := (unpack2 h.p1).drop
    have h := (Ok.emb (h) (.cons (A := slc 1 s _) (by with_reducible first | exact sl0 | exact .there sl0 | exact .there sl1 | exact .there sl2 | exact .there sl3 | exact .there sl4 | exact .there sl5 | exact .there sl6 | exact .there sl7 | exact .there sl8 | exact .there sl9 | exact .there sl10 | exact .there sl11 | exact .there sl12) (.cons (A := arenaP b _ _) (by with_reducible first | exact sl0 | exact .there sl0 | exact .there sl1 | exact .there sl2 | exact .there sl3 | exact .there sl4 | exact .there sl5 | exact .there sl6 | exact .there sl7 | exact .there sl8 | exact .there sl9 | exact .there sl10 | exact .there sl11 | exact .there sl12) (.same _))))
    refine al.mk h fun b2 w7 h => ?_
    obtain ⟨h, rp⟩ := pack_one (b := b2) h hr
    refine call10 (Write_arena h.p1 (by omega) rp (by simp) (by omega) (fun _ w8 h => ⟨((-17 : Int), ()), rfl, ?_⟩) (fun h0 => by unfold inA at h0; omega))
    refine call15 (Fill_arena h (by omega) (fun h0 => absurd (by unfold inA; omega) h0) fun _ w9 h => ⟨((0 : Int), ()), rfl, ?_⟩)
    have e1 : ∀ m k, wrA m k (List.replicate (0 : Int).toNat c) = m := fun m k => wrA_nil
    rw [e1] at h
    refine call15 (Fill_arena h (by omega) (fun _ w10 h => ⟨((-17 : Int), ()), rfl, ?_⟩) (fun h0 => by unfold inA at h0; omega))
    refine cs.no (decide_eq_false (by omega)) ?_
    refine jn.bool false (fun J hJ => cs.no rfl hJ) ?_
    refine jn.bool false (fun J hJ => cs.no rfl hJ) ?_
    refine jn.bool false (fun J hJ => cs.no rfl hJ) ?_
    refine cs.no rfl ?_
    refine call12 (Read_arena h (by omega) (fun h0 => absurd (by unfold inA; omega) h0) fun _ s2 w11 hs2 h => ⟨(s2, (0 : Int), ()), rfl, ?_⟩)
    have e2 := wrA_back (m := List.replicate z 0) (l := List.replicate n y) (a := z - n) (by omega)
    rw [hlen] at e2
    rw [show ((z : Int) - n).toNat = z - n by omega, Int.toNat_natCast, e2] at h
    refine jn.bool true (fun J hJ => cs.yes rfl ?_) ⟨rfl, ?_⟩
    · refine tx.mkS bsT h ?_
      have h := unpack2 h.p2
      refine tx.mkS bsT h.p1 ?_
      rw [str_eq]
      exact hJ
    · have h := unpack2 h.p2
      exact (h.emb (by repeat' (first | with_reducible exact Emb.same _ | exact Emb.nil _ | refine Emb.cons (by with_reducible first | exact sl0 | exact .there sl0 | exact .there sl1 | exact .there sl2 | exact .there sl3 | exact .there sl4 | exact .there sl5 | exact .there sl6 | exact .there sl7 | exact .there sl8 | exact .there sl9 | exact .there sl10 | exact .there sl11 | exact .there sl12) ?_ | refine Emb.skip ?_)))
  · refine al.mk h fun b1 w5 h => ?_
    obtain ⟨h, rp⟩ := pack_one (b := b1) h hr
    refine call10 (Write_arena h.p1 (by omega) rp (by simp) (by omega) (fun _ w6 h => ⟨((-17 : Int), ()), rfl, ?_⟩) (fun h0 => by unfold inA at h0; omega))
    have h := (unpack2 h.p1).drop
    have h := (Ok.emb (h) (.cons (A := slc 1 s _) (by with_reducible first | exact sl0 | exact .there sl0 | exact .there sl1 | exact .there sl2 | exact .there sl3 | exact .there sl4 | exact .there sl5 | exact .there sl6 | exact .there sl7 | exact .there sl8 | exact .there sl9 | exact .there sl10 | exact .there sl11 | exact .there sl12) (.cons (A := arenaP b _ _) (by with_reducible first | exact sl0 | exact .there sl0 | exact .there sl1 | exact .there sl2 | exact .there sl3 | exact .there sl4 | exact .there sl5 | exact .there sl6 | exact .there sl7 | exact .there sl8 | exact .there sl9 | exact .there sl10 | exact .there sl11 | exact .there sl12) (.same _))))
    refine al.mk h fun b2 w7 h => ?_
    obtain ⟨h, rp⟩ := pack_one (b := b2) h hr
    refine call10 (Write_arena h.p1 (by omega) rp (by simp) (by omega) (fun _ w8 h => ⟨((-17 : Int), ()), rfl, ?_⟩) (fun h0 => by unfold inA at h0; omega))
    refine call15 (Fill_arena h (by omega) (fun h0 => absurd (by unfold inA; omega) h0) fun _ w9 h => ⟨((0 : Int), ()), rfl, ?_⟩)
    refine call15 (Fill_arena h (by rw [wrA_len (by simp)]; omega) (fun _ w10 h => ⟨((-17 : Int), ()), rfl, ?_⟩) (fun h0 => by unfold inA at h0; rw [wrA_len (by simp)] at h0; omega))
    refine cs.yes (decide_eq_true (by omega)) ?_
    refine jn.bool true (fun J hJ => cs.yes rfl ?_) ⟨rfl, ?_⟩
    · exact call11 (Cost_arena h ⟨((0 : Int), ()), rfl, hJ⟩)
    · have h := unpack2 h.p1
      exact (h.emb (by repeat' (first | with_reducible exact Emb.same _ | exact Emb.nil _ | refine Emb.cons (by with_reducible first | exact sl0 | exact .there sl0 | exact .there sl1 | exact .there sl2 | exact .there sl3 | exact .there sl4 | exact .there sl5 | exact .there sl6 | exact .there sl7 | exact .there sl8 | exact .there sl9 | exact .there sl10 | exact .there sl11 | exact .there sl12) ?_ | refine Emb.skip ?_)))

end Go.Proofs.Ytlcmilmnecpokaa.B
