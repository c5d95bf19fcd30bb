/- A law of layer 13: data come in the order in which they were sent. -/
import Derived.Test.YtadnjjnnkhofdaaLaws13d
namespace Go.Proofs.Ytadnjjnnkhofdaa.B
open Go
set_option linter.unusedVariables false

theorem sub_len : ∀ (l m : List Int), l.Nodup → (∀ i ∈ l, i ∈ m) → l.length ≤ m.length
  | [], _, _, _ => Nat.zero_le _
  | a :: l, m, hn, h => by
    have hn := List.nodup_cons.1 hn
    have ha := h a (List.mem_cons_self ..)
    have := sub_len l (m.erase a) hn.2 fun i hi => by
      have hne : i ≠ a := fun he => hn.1 (he ▸ hi)
      exact (List.mem_erase_of_ne hne).2 (h i (List.mem_cons_of_mem _ hi))
    rw [List.length_erase_of_mem ha] at this
    have := List.length_pos_of_mem ha
    simp only [List.length_cons]
    omega

theorem free_13 {e w L b byPri room q R} (h : Ok e (dtqP b byPri room q :: L) w) (ho : q.ok room) (hl : q.S.length < 16) (k : ∀ (t : Int) w', 1 ≤ t ∧ t ≤ 16 → t ∉ ids q.S → Ok e (dtqP b byPri room q :: L) w' → R [.int .i64 t] w') : sh17 (some ⟨b, 0, none⟩) R w := by
  unfold sh17
  refine call19 (Senders_dtq h ho fun s w1 hs h => ⟨(s, ()), rfl, ?_⟩)
  dsimp only
  refine lp.mk (fun t w' => ∃ m : Nat, @Eq Int t.1 ((m : Int) + 1) ∧ m ≤ 16 ∧ (∀ j : Int, 1 ≤ j → j ≤ m → j ∈ ids q.S) ∧ Ok e (slc 1 s (ints (ids q.S)) :: dtqP b byPri room q :: L) w')
    (fun t _ => 17 - t.1.toNat) ⟨0, rfl, by decide, fun j h1 h2 => absurd h1 (by omega), h⟩ ?_
  clear h
  rintro ⟨(t : Int), _⟩ w2 ⟨m, hm, hm1, hall, h⟩
  dsimp only at hm
  subst hm
  refine cs.mk (fun hlt => ?_) (fun hge => ?_)
  · have hlt : m < 16 := by have := of_decide_eq_true hlt; dsimp only at this; omega
    refine lp.mk (fun t w' => ∃ n : Nat, t.2.1 = (n : Int) ∧ n ≤ q.S.length ∧ t.1 = decide (((m : Int) + 1) ∈ (ids q.S).take n) ∧ Ok e (slc 1 s (ints (ids q.S)) :: dtqP b byPri room q :: L) w')
      (fun t _ => q.S.length - t.2.1.toNat) ⟨0, rfl, Nat.zero_le _, by simp; rfl, h⟩ ?_
    clear h
    rintro ⟨c, i, _⟩ w3 ⟨n, hn, hn1, hc, h⟩
    dsimp only at hn hc
    subst hn hc
    refine cs.mk (fun hlt2 => ?_) (fun hge2 => ?_)
    · have hlt2 : n < q.S.length := by have := of_decide_eq_true hlt2; dsimp only at this; omega
      have hw : w64 ((n : Int) + 1) = ((n + 1 : Nat) : Int) := by rw [w64_in (by omega) (by omega)]; rfl
      obtain ⟨y, hy⟩ : ∃ y, (ids q.S)[n]? = some y := ⟨_, List.getElem?_eq_getElem (by rw [List.length_map]; exact hlt2)⟩
      have htk : (ids q.S).take (n + 1) = (ids q.S).take n ++ [y] := by rw [List.take_add_one, hy]; rfl
      dsimp only
      rw [hw]
      refine jn.bool (decide (((m : Int) + 1) ∈ (ids q.S).take (n + 1))) (fun J hJ => cs.mk (fun hin => ?_) (fun hin => ?_)) ?_
      · have hin := of_decide_eq_true hin
        rw [decide_eq_true (by rw [htk]; exact List.mem_append_left _ hin)] at hJ
        exact hJ
      · have hin := of_decide_eq_false hin
        refine ix_int h (by simp) (by show (n : Int) < (s.len : Int); omega) fun c1 o z hz hcell => ldI.mk (hcell _ ⟨_, h⟩) ?_
        rw [Int.toNat_natCast, hy] at hz
        cases hz
        rw [show decide (((m : Int) + 1) ∈ (ids q.S).take (n + 1)) = (y == (m : Int) + 1) by
          rw [htk, Bool.eq_iff_iff, decide_eq_true_iff, List.mem_append, List.mem_singleton, beq_iff_eq]
          exact ⟨fun h => h.elim (fun h => absurd h hin) fun h => h.symm, fun h => .inr h.symm⟩] at hJ
        exact hJ
      refine ⟨⟨n + 1, rfl, hlt2, rfl, h⟩, ?_⟩
      show q.S.length - Int.toNat ((n + 1 : Nat) : Int) < q.S.length - Int.toNat (n : Int)
      omega
    have hge2 : n = q.S.length := by have := of_decide_eq_false hge2; dsimp only at this; omega
    subst hge2
    rw [List.take_of_length_le (by rw [List.length_map]; exact Nat.le_refl _)]
    refine cs.mk (fun hin => ?_) (fun hin => ?_)
    · have hin : ¬ ((m : Int) + 1) ∈ ids q.S := by rw [Bool.not_eq_true'] at hin; exact of_decide_eq_false hin
      exact k _ w3 (by omega) hin h.drop
    · have hin : ((m : Int) + 1) ∈ ids q.S := by rw [Bool.not_eq_false'] at hin; exact of_decide_eq_true hin
      dsimp only
      rw [w64_in (x := (m : Int) + 1 + 1) (by omega) (by omega)]
      refine ⟨⟨m + 1, rfl, hlt, fun j h1 h2 => ?_, h⟩, ?_⟩
      · by_cases hj : j = (m : Int) + 1
        · rw [hj]; exact hin
        · exact hall j h1 (by omega)
      · show 17 - Int.toNat ((m : Int) + 1 + 1) < 17 - Int.toNat ((m : Int) + 1)
        omega
  · have hge : 16 ≤ m := by have := of_decide_eq_false hge; dsimp only at this; omega
    exfalso
    have hn16 : ((List.range 16).map fun (k : Nat) => (k : Int) + 1).Nodup := by
      refine List.pairwise_map.2 (List.nodup_range.imp fun h h2 => h ?_)
      omega
    have := sub_len ((List.range 16).map fun (k : Nat) => (k : Int) + 1) (ids q.S) hn16 fun i hi => by
      obtain ⟨k, hk, rfl⟩ := List.mem_map.1 hi
      have := List.mem_range.1 hk
      exact hall _ (by omega) (by omega)
    rw [List.length_map, List.length_map, List.length_range] at this
    omega

theorem send_free {room : Int} {q : DQ} {t d : Int} (hV : q.V = []) (ht : 1 ≤ t ∧ t ≤ 16) (hn : t ∉ ids q.S) :
    (room ≤ q.D.length → q.send false room t 1 d = ((false, 0, 0), ⟨q.S ++ [(t, 1)], [], q.D, fun i => if i = t then d else q.g i⟩)) ∧
    (¬ room ≤ q.D.length → q.send false room t 1 d = ((true, 0, 0), ⟨q.S, [], q.D ++ [d], q.g⟩)) := by
  obtain ⟨S, V, D, g⟩ := q
  dsimp only at hV hn ⊢
  subst hV
  have ha : addL false S t 1 = (0, S ++ [(t, 1)]) := by
    unfold addL
    rw [if_neg (by omega), if_neg (by rw [atI_pos]; exact hn), putL_false]
  constructor
  · intro h
    unfold DQ.send
    rw [if_neg (by simp [DQ.trySend, h])]
    simp only [ha]
    rfl
  · intro h
    have ht : DQ.trySend room ⟨S, [], D, g⟩ d = ((true, 0), ⟨S, [], D ++ [d], g⟩) := by
      unfold DQ.trySend
      exact if_neg h
    unfold DQ.send
    rw [ht]
    rfl

set_option maxHeartbeats 1000000 in
theorem DataOrder_walk {e : World} {a0 : Int} {a1 a2 : Sl} {xs : List Int} {vs : List Value} (w0 : (Lit.int .u8 a0).wf = true) (ha : ArgI .i64 e a1 xs) (hb : ArgF [.b] e a2 vs) : sh5 a0 a1 a2 (LawEnd e) e := by
  unfold sh5
  have h8 := wf_u8 w0
  obtain ⟨N, hN, hN64⟩ : ∃ N : Nat, w64 (Int.tmod a0 65) = (N : Int) ∧ N ≤ 64 := by
    refine ⟨(a0 % 65).toNat, ?_, by omega⟩
    rw [Int.tmod_eq_emod_of_nonneg h8.1, w64_in (by omega) (by omega)]
    omega
  rw [hN]
  have hr := rd_arg ha
  refine call9 (known_13 (Ok.start e) fun w1 h => ⟨(true, ()), enc_b rfl, ?_⟩)
  refine cs.no rfl ?_
  refine jn.bool (decide (a1.len > 100 ∨ a2.len > 300)) (fun J hJ => ?_) ?_
  · refine cs.mk (fun h1 => ?_) (fun h1 => ?_)
    · have h1 := of_decide_eq_true h1
      rw [decide_eq_true (by omega)] at hJ
      exact hJ
    · have h1 := of_decide_eq_false h1
      rw [show decide ((a2.len : Int) > 300) = decide (a1.len > 100 ∨ a2.len > 300) from decide_eq_decide.2 (by omega)]
      exact hJ
  refine cs.mk (fun _ => ⟨rfl, h⟩) (fun hc => ?_)
  have hc := of_decide_eq_false hc
  refine call10 (New_dtq h (fun h0 => absurd (by omega) h0) fun h0 b w2 h => ⟨(some ⟨b, 0, none⟩, (0 : Int), ()), rfl, ?_⟩)
  refine lp.mk (fun t w' => ∃ (st i : Nat) (q : DQ) (O : List Int), t.1 = (st : Int) ∧ t.2.1 = (q.S.length : Int) ∧ t.2.2.2.1 = (i : Int) ∧ i ≤ a2.len ∧ st ≤ a1.len ∧ q.ok N ∧ q.V = [] ∧ (q.S ≠ [] → q.D.length = N) ∧ O ++ outs q = xs.take st ∧ O.length ≤ i ∧
      Ok e [slc 1 t.2.2.1 (ints O), dtqP b false N q, old e] w')
    (fun t _ => a2.len - t.2.2.2.1.toNat) ⟨0, 0, dqNew, [], rfl, rfl, rfl, Nat.zero_le _, Nat.zero_le _, dqNew_ok (by omega), rfl, fun h => absurd rfl h, rfl, Nat.le_refl _, h.slcNil 1⟩ ?_
  clear h
  rintro ⟨st', wt', so, i', _⟩ w3 ⟨st, i, q, O, hst, hwt, hi, hi1, hst1, oq, hV, hfull, hO, hOl, h⟩
  dsimp only at hst hwt hi h
  subst hst hwt hi
  have hso := slc_ints_len h
  have hl1 := okL_len oq.1
  refine cs.mk (fun hlt => ?_) (fun hge => ?_)
  · have hlt : i < a2.len := by have := of_decide_eq_true hlt; dsimp only at this; omega
    have hmu : a2.len - Int.toNat ((i + 1 : Nat) : Int) < a2.len - Int.toNat (i : Int) := by omega
    have hw : w64 ((i : Int) + 1) = ((i + 1 : Nat) : Int) := by rw [w64_in (by omega) (by omega)]; rfl
    obtain ⟨_, hv0, c0, rfl⟩ := hb.2 i hlt 0 _ rfl
    refine ix_args hb.1 (by decide) (by simp) (by simpa using hlt) fun b1 o hh => ?_
    refine ldB.mk (hh 0 _ (by decide) (by simpa using hv0) _ ⟨_, h.p2⟩) ?_
    clear hh
    dsimp only
    rw [hw]
    refine jn.bool (c0 && decide (st < a1.len)) (fun J hJ => ?_) ?_
    · refine cs.mk (fun h1 => ?_) (fun h1 => ?_)
      · subst h1
        rw [Bool.true_and, show decide (st < a1.len) = decide ((st : Int) < (a1.len : Int)) from decide_eq_decide.2 (by omega)] at hJ
        exact hJ
      · subst h1
        exact hJ
    refine jn.bool (c0 && decide (st < a1.len) && decide (q.S.length < 16)) (fun J hJ => ?_) ?_
    · refine cs.mk (fun h1 => ?_) (fun h1 => ?_)
      · dsimp only at h1
        rw [h1, Bool.true_and, show decide (q.S.length < 16) = decide ((q.S.length : Int) < 16) from decide_eq_decide.2 (by omega)] at hJ
        exact hJ
      · dsimp only at h1
        rw [h1] at hJ
        exact hJ
    refine cs.mk (fun hc1 => ?_) (fun hc1 => ?_)
    · simp only [Bool.and_eq_true, decide_eq_true_eq] at hc1
      obtain ⟨⟨_, hst2⟩, hS16⟩ := hc1
      refine dr.mk h fun w4 h => ?_
      refine ix_rd hr (by simp) (by simpa using hst2) fun c o x hx hcell => ldI.mk (hcell _ _ (Ok.emb (h) (.cons (A := old e) (by with_reducible first | exact sl0 | exact .there sl0 | exact .there sl1 | exact .there sl2 | exact .there sl3 | exact .there sl4 | exact .there sl5 | exact .there sl6 | exact .there sl7 | exact .there sl8 | exact .there sl9 | exact .there sl10 | exact .there sl11 | exact .there sl12) (.same _)))) ?_
      rw [Int.toNat_natCast] at hx
      refine call17 (free_13 (Ok.emb (h) (.cons (A := dtqP b _ _ _) (by with_reducible first | exact sl0 | exact .there sl0 | exact .there sl1 | exact .there sl2 | exact .there sl3 | exact .there sl4 | exact .there sl5 | exact .there sl6 | exact .there sl7 | exact .there sl8 | exact .there sl9 | exact .there sl10 | exact .there sl11 | exact .there sl12) (.same _))) oq hS16 fun t w5 ht hnt h => ⟨(t, ()), rfl, hcell _ _ (Ok.emb (h) (.cons (A := old e) (by with_reducible first | exact sl0 | exact .there sl0 | exact .there sl1 | exact .there sl2 | exact .there sl3 | exact .there sl4 | exact .there sl5 | exact .there sl6 | exact .there sl7 | exact .there sl8 | exact .there sl9 | exact .there sl10 | exact .there sl11 | exact .there sl12) (.same _))), ?_⟩)
      clear hcell
      obtain ⟨hs1, hs2⟩ := send_free (room := (N : Int)) (d := x) hV ht hnt
      have htake : xs.take (st + 1) = xs.take st ++ [x] := by rw [List.take_add_one, hx]; rfl
      have hw2 : w64 ((st : Int) + 1) = ((st + 1 : Nat) : Int) := by rw [w64_in (by omega) (by omega)]; rfl
      have o2 := send_ok (byPri := false) (task := t) (pri := 1) (d := x) oq
      by_cases hroom : (N : Int) ≤ q.D.length
      · have hs := hs1 hroom
        refine call12 (Send_dtq h oq fun w6 h => ⟨(false, (0 : Int), (0 : Int), ()), by rw [hs]; rfl, ?_⟩)
        rw [hs] at h o2
        refine jn.bool false (fun J hJ => cs.no rfl hJ) ?_
        refine cs.no rfl ?_
        refine jn.at (((q.S.length + 1 : Nat) : Int), ()) (fun w' => w6 = w') (fun J hJ => cs.yes rfl ?_) (fun w7 hw7 => ?_)
        · rw [w64_in (x := (q.S.length : Int) + 1) (by omega) (by omega)]
          exact hJ _ rfl
        subst hw7
        dsimp only at h o2 ⊢
        rw [hw2]
        refine ⟨⟨st + 1, i + 1, _, O, rfl, by simp; rfl, rfl, hlt, hst2, o2, rfl, fun _ => ?_, ?_, by omega, (h.emb (by repeat' (first | with_reducible exact Emb.same _ | exact Emb.nil _ | refine Emb.cons (by with_reducible first | exact sl0 | exact .there sl0 | exact .there sl1 | exact .there sl2 | exact .there sl3 | exact .there sl4 | exact .there sl5 | exact .there sl6 | exact .there sl7 | exact .there sl8 | exact .there sl9 | exact .there sl10 | exact .there sl11 | exact .there sl12) ?_ | refine Emb.skip ?_)))⟩, hmu⟩
        · have := oq.2.2.1
          show q.D.length = N
          omega
        · rw [htake, ← hO, List.append_assoc]
          congr 1
          unfold outs
          simp only [List.map_append, List.map_cons, List.map_nil, if_true]
          rw [List.append_assoc]
          congr 2
          rw [List.map_eq_map_iff]
          intro y hy
          rw [if_neg]
          exact fun he => hnt (he ▸ List.mem_map_of_mem hy)
      · have hs := hs2 hroom
        have hSnil : q.S = [] := by
          refine Decidable.byContradiction fun hne => ?_
          have := hfull hne
          omega
        refine call12 (Send_dtq h oq fun w6 h => ⟨(true, (0 : Int), (0 : Int), ()), by rw [hs]; rfl, ?_⟩)
        rw [hs] at h o2
        refine jn.bool false (fun J hJ => cs.no rfl hJ) ?_
        refine cs.no rfl ?_
        refine jn.at ((q.S.length : Int), ()) (fun w' => w6 = w') (fun J hJ => cs.no rfl (hJ _ rfl)) (fun w7 hw7 => ?_)
        subst hw7
        dsimp only at h o2 ⊢
        rw [hw2]
        refine ⟨⟨st + 1, i + 1, ⟨q.S, [], q.D ++ [x], q.g⟩, O, rfl, rfl, rfl, hlt, hst2, o2, rfl, fun h => absurd hSnil h, ?_, by omega, (h.emb (by repeat' (first | with_reducible exact Emb.same _ | exact Emb.nil _ | refine Emb.cons (by with_reducible first | exact sl0 | exact .there sl0 | exact .there sl1 | exact .there sl2 | exact .there sl3 | exact .there sl4 | exact .there sl5 | exact .there sl6 | exact .there sl7 | exact .there sl8 | exact .there sl9 | exact .there sl10 | exact .there sl11 | exact .there sl12) ?_ | refine Emb.skip ?_)))⟩, hmu⟩
        rw [htake, ← hO, List.append_assoc]
        congr 1
        unfold outs
        simp [hSnil]
    · refine call14 (TryRecv_dtq (Ok.emb (h) (.cons (A := dtqP b _ _ _) (by with_reducible first | exact sl0 | exact .there sl0 | exact .there sl1 | exact .there sl2 | exact .there sl3 | exact .there sl4 | exact .there sl5 | exact .there sl6 | exact .there sl7 | exact .there sl8 | exact .there sl9 | exact .there sl10 | exact .there sl11 | exact .there sl12) (.same _))) oq fun w10 h => ⟨((q.tryRecv.1.1, q.tryRecv.1.2.1, q.tryRecv.1.2.2, ()), ()), rfl, ?_⟩)
      refine al.mk h fun c w11 h => ?_
      dsimp only
      have o2 := tryRecv_ok oq
      cases hoq : outs q with
      | nil =>
        have ht := outs_none hoq
        rw [ht] at h o2 ⊢
        dsimp only at h o2 ⊢
        (repeat (first | with_reducible refine dr.mk h fun _ h => ?_ | with_reducible refine nn.mk ?_ | ((first | with_reducible apply ldI.mk | with_reducible apply ldB.mk | with_reducible apply ldP.mk | with_reducible apply ldS.mk | with_reducible apply ldM.mk | with_reducible apply ldF.mk | with_reducible apply ldG.mk); (· exact (by refine Ok.cellS h (by with_reducible first | exact sl0 | exact .there sl0 | exact .there sl1 | exact .there sl2 | exact .there sl3 | exact .there sl4 | exact .there sl5 | exact .there sl6 | exact .there sl7 | exact .there sl8 | exact .there sl9 | exact .there sl10 | exact .there sl11 | exact .there sl12) ?_; rfl))) | (refine st1.mk (Ok.bring h (by with_reducible first | exact sl0 | exact .there sl0 | exact .there sl1 | exact .there sl2 | exact .there sl3 | exact .there sl4 | exact .there sl5 | exact .there sl6 | exact .there sl7 | exact .there sl8 | exact .there sl9 | exact .there sl10 | exact .there sl11 | exact .there sl12)) (by simp) fun _ h => ?_; dsimp only [List.set] at h)))
        refine jn.at (so, ()) (fun w' => Ok e [pts c [.int .i64 0, .bool false, .int .i64 0], slc 1 so (ints O), dtqP b false N q, old e] w') (fun J hJ => cs.no rfl (hJ _ (h.emb (by repeat' (first | with_reducible exact Emb.same _ | exact Emb.nil _ | refine Emb.cons (by with_reducible first | exact sl0 | exact .there sl0 | exact .there sl1 | exact .there sl2 | exact .there sl3 | exact .there sl4 | exact .there sl5 | exact .there sl6 | exact .there sl7 | exact .there sl8 | exact .there sl9 | exact .there sl10 | exact .there sl11 | exact .there sl12) ?_ | refine Emb.skip ?_))))) (fun w12 h => ?_)
        (repeat (first | with_reducible refine dr.mk h fun _ h => ?_ | with_reducible refine nn.mk ?_ | ((first | with_reducible apply ldI.mk | with_reducible apply ldB.mk | with_reducible apply ldP.mk | with_reducible apply ldS.mk | with_reducible apply ldM.mk | with_reducible apply ldF.mk | with_reducible apply ldG.mk); (· exact (by refine Ok.cellS h (by with_reducible first | exact sl0 | exact .there sl0 | exact .there sl1 | exact .there sl2 | exact .there sl3 | exact .there sl4 | exact .there sl5 | exact .there sl6 | exact .there sl7 | exact .there sl8 | exact .there sl9 | exact .there sl10 | exact .there sl11 | exact .there sl12) ?_; rfl))) | (refine st1.mk (Ok.bring h (by with_reducible first | exact sl0 | exact .there sl0 | exact .there sl1 | exact .there sl2 | exact .there sl3 | exact .there sl4 | exact .there sl5 | exact .there sl6 | exact .there sl7 | exact .there sl8 | exact .there sl9 | exact .there sl10 | exact .there sl11 | exact .there sl12)) (by simp) fun _ h => ?_; dsimp only [List.set] at h)))
        refine cs.no rfl ?_
        rw [hoq] at hO
        exact ⟨⟨st, i + 1, q, O, rfl, rfl, rfl, hlt, hst1, oq, hV, hfull, by rw [hoq]; exact hO, by omega, (h.emb (by repeat' (first | with_reducible exact Emb.same _ | exact Emb.nil _ | refine Emb.cons (by with_reducible first | exact sl0 | exact .there sl0 | exact .there sl1 | exact .there sl2 | exact .there sl3 | exact .there sl4 | exact .there sl5 | exact .there sl6 | exact .there sl7 | exact .there sl8 | exact .there sl9 | exact .there sl10 | exact .there sl11 | exact .there sl12) ?_ | refine Emb.skip ?_)))⟩, hmu⟩
      | cons d r =>
        obtain ⟨ht1, ht2, ht3, ht4, ht5⟩ := outs_some hoq
        rw [ht1]
        dsimp only
        (repeat (first | with_reducible refine dr.mk h fun _ h => ?_ | with_reducible refine nn.mk ?_ | ((first | with_reducible apply ldI.mk | with_reducible apply ldB.mk | with_reducible apply ldP.mk | with_reducible apply ldS.mk | with_reducible apply ldM.mk | with_reducible apply ldF.mk | with_reducible apply ldG.mk); (· exact (by refine Ok.cellS h (by with_reducible first | exact sl0 | exact .there sl0 | exact .there sl1 | exact .there sl2 | exact .there sl3 | exact .there sl4 | exact .there sl5 | exact .there sl6 | exact .there sl7 | exact .there sl8 | exact .there sl9 | exact .there sl10 | exact .there sl11 | exact .there sl12) ?_; rfl))) | (refine st1.mk (Ok.bring h (by with_reducible first | exact sl0 | exact .there sl0 | exact .there sl1 | exact .there sl2 | exact .there sl3 | exact .there sl4 | exact .there sl5 | exact .there sl6 | exact .there sl7 | exact .there sl8 | exact .there sl9 | exact .there sl10 | exact .there sl11 | exact .there sl12)) (by simp) fun _ h => ?_; dsimp only [List.set] at h)))
        refine jn.all (fun (t : TK [kS]) w' => Ok e [pts c [.int .i64 d, .bool true, .int .i64 (q.S.head?.getD (0, 0)).1], slc 1 t.1 (ints (O ++ [d])), dtqP b false N q.tryRecv.2, old e] w') (fun J hJ => cs.yes rfl ?_) (fun t w12 h => ?_)
        · (repeat (first | with_reducible refine dr.mk h fun _ h => ?_ | with_reducible refine nn.mk ?_ | ((first | with_reducible apply ldI.mk | with_reducible apply ldB.mk | with_reducible apply ldP.mk | with_reducible apply ldS.mk | with_reducible apply ldM.mk | with_reducible apply ldF.mk | with_reducible apply ldG.mk); (· exact (by refine Ok.cellS h (by with_reducible first | exact sl0 | exact .there sl0 | exact .there sl1 | exact .there sl2 | exact .there sl3 | exact .there sl4 | exact .there sl5 | exact .there sl6 | exact .there sl7 | exact .there sl8 | exact .there sl9 | exact .there sl10 | exact .there sl11 | exact .there sl12) ?_; rfl))) | (refine st1.mk (Ok.bring h (by with_reducible first | exact sl0 | exact .there sl0 | exact .there sl1 | exact .there sl2 | exact .there sl3 | exact .there sl4 | exact .there sl5 | exact .there sl6 | exact .there sl7 | exact .there sl8 | exact .there sl9 | exact .there sl10 | exact .there sl11 | exact .there sl12)) (by simp) fun _ h => ?_; dsimp only [List.set] at h)))
          refine al.mk h fun c2 w12 h => ?_
          refine ef.append1 (n := 1) slT_int (by decide) (Ok.emb (h) (.cons (A := pts c2 _) (by with_reducible first | exact sl0 | exact .there sl0 | exact .there sl1 | exact .there sl2 | exact .there sl3 | exact .there sl4 | exact .there sl5 | exact .there sl6 | exact .there sl7 | exact .there sl8 | exact .there sl9 | exact .there sl10 | exact .there sl11 | exact .there sl12) (.cons (A := slc 1 so _) (by with_reducible first | exact sl0 | exact .there sl0 | exact .there sl1 | exact .there sl2 | exact .there sl3 | exact .there sl4 | exact .there sl5 | exact .there sl6 | exact .there sl7 | exact .there sl8 | exact .there sl9 | exact .there sl10 | exact .there sl11 | exact .there sl12) (.same _)))) rfl (by intro v hv; simp at hv; subst hv; rfl) (by omega) fun s4 w13 hl4 h => ?_
          rw [ints_snoc] at h
          exact hJ _ _ (h.emb (by repeat' (first | with_reducible exact Emb.same _ | exact Emb.nil _ | refine Emb.cons (by with_reducible first | exact sl0 | exact .there sl0 | exact .there sl1 | exact .there sl2 | exact .there sl3 | exact .there sl4 | exact .there sl5 | exact .there sl6 | exact .there sl7 | exact .there sl8 | exact .there sl9 | exact .there sl10 | exact .there sl11 | exact .there sl12) ?_ | refine Emb.skip ?_)))
        obtain ⟨s4, _⟩ := t
        dsimp only at h ⊢
        (repeat (first | with_reducible refine dr.mk h fun _ h => ?_ | with_reducible refine nn.mk ?_ | ((first | with_reducible apply ldI.mk | with_reducible apply ldB.mk | with_reducible apply ldP.mk | with_reducible apply ldS.mk | with_reducible apply ldM.mk | with_reducible apply ldF.mk | with_reducible apply ldG.mk); (· exact (by refine Ok.cellS h (by with_reducible first | exact sl0 | exact .there sl0 | exact .there sl1 | exact .there sl2 | exact .there sl3 | exact .there sl4 | exact .there sl5 | exact .there sl6 | exact .there sl7 | exact .there sl8 | exact .there sl9 | exact .there sl10 | exact .there sl11 | exact .there sl12) ?_; rfl))) | (refine st1.mk (Ok.bring h (by with_reducible first | exact sl0 | exact .there sl0 | exact .there sl1 | exact .there sl2 | exact .there sl3 | exact .there sl4 | exact .there sl5 | exact .there sl6 | exact .there sl7 | exact .there sl8 | exact .there sl9 | exact .there sl10 | exact .there sl11 | exact .there sl12)) (by simp) fun _ h => ?_; dsimp only [List.set] at h)))
        have hO2 : O ++ [d] ++ outs q.tryRecv.2 = xs.take st := by rw [ht2, ← hO, hoq]; simp
        cases hS : q.S with
        | nil =>
          rw [hS] at h ht3
          dsimp only [List.head?_nil, Option.getD_none] at h ⊢
          refine cs.no rfl ?_
          exact ⟨⟨st, i + 1, q.tryRecv.2, O ++ [d], rfl, by rw [ht3]; rfl, rfl, hlt, hst1, o2, ht4.trans hV, fun hne => absurd ht3 hne, hO2, by simp; omega, (h.emb (by repeat' (first | with_reducible exact Emb.same _ | exact Emb.nil _ | refine Emb.cons (by with_reducible first | exact sl0 | exact .there sl0 | exact .there sl1 | exact .there sl2 | exact .there sl3 | exact .there sl4 | exact .there sl5 | exact .there sl6 | exact .there sl7 | exact .there sl8 | exact .there sl9 | exact .there sl10 | exact .there sl11 | exact .there sl12) ?_ | refine Emb.skip ?_)))⟩, hmu⟩
        | cons y S =>
          have hy := (okL_tail (show okL (y :: S) from hS ▸ oq.1)).2.2
          rw [hS] at ht3 hl1
          simp only [List.length_cons] at hl1
          rw [hS] at h
          dsimp only [List.head?_cons, Option.getD_some] at h ⊢
          refine cs.yes (by rw [bne_iff_ne]; omega) ?_
          have hw3 : w64 (((y :: S).length : Int) - 1) = (S.length : Int) := by rw [w64_in (by simp only [List.length_cons]; omega) (by simp only [List.length_cons]; omega)]; simp
          rw [hw3]
          exact ⟨⟨st, i + 1, q.tryRecv.2, O ++ [d], rfl, by rw [ht3]; rfl, rfl, hlt, hst1, o2, ht4.trans hV, fun _ => by rw [ht5 (by rw [hS]; simp)]; exact hfull (by rw [hS]; simp), hO2, by simp; omega, (h.emb (by repeat' (first | with_reducible exact Emb.same _ | exact Emb.nil _ | refine Emb.cons (by with_reducible first | exact sl0 | exact .there sl0 | exact .there sl1 | exact .there sl2 | exact .there sl3 | exact .there sl4 | exact .there sl5 | exact .there sl6 | exact .there sl7 | exact .there sl8 | exact .there sl9 | exact .there sl10 | exact .there sl11 | exact .there sl12) ?_ | refine Emb.skip ?_)))⟩, hmu⟩
  refine jn.all (fun (t : TK [kS]) w' => Ok e [slc 1 t.1 (ints (xs.take st)), old e] w') (fun J hJ => ?_) (fun t w' h => ?_)
  · have hD := oq.2.2
    have hol : (outs q).length ≤ 80 := by unfold outs; rw [List.length_append, List.length_map]; omega
    refine lp.mk (fun t w' => ∃ (k : Nat) (q2 : DQ) (O2 : List Int), t.2.1 = (k : Int) ∧ k ≤ 200 ∧ q2.ok N ∧ O2 ++ outs q2 = xs.take st ∧ k + (outs q2).length ≤ 80 ∧ Ok e [slc 1 t.1 (ints O2), dtqP b false N q2, old e] w')
      (fun t _ => 200 - t.2.1.toNat) ⟨0, q, O, rfl, by decide, oq, hO, by omega, h⟩ ?_
    clear h
    rintro ⟨s5, k', _⟩ w4 ⟨k, q2, O2, hk, hk1, oq2, hO2, hkl, h⟩
    dsimp only at hk h
    subst hk
    have hs5 := slc_ints_len h
    have hOl2 : O2.length ≤ 100 := by
      have := congrArg List.length hO2
      rw [List.length_append, List.length_take, hr.1] at this
      omega
    refine cs.mk (fun hlt => ?_) (fun hge => ?_)
    · have hlt : k < 200 := by have := of_decide_eq_true hlt; dsimp only at this; omega
      have hw : w64 ((k : Int) + 1) = ((k + 1 : Nat) : Int) := by rw [w64_in (by omega) (by omega)]; rfl
      refine call14 (TryRecv_dtq (Ok.emb (h) (.cons (A := dtqP b _ _ _) (by with_reducible first | exact sl0 | exact .there sl0 | exact .there sl1 | exact .there sl2 | exact .there sl3 | exact .there sl4 | exact .there sl5 | exact .there sl6 | exact .there sl7 | exact .there sl8 | exact .there sl9 | exact .there sl10 | exact .there sl11 | exact .there sl12) (.same _))) oq2 fun w10 h => ⟨((q2.tryRecv.1.1, q2.tryRecv.1.2.1, q2.tryRecv.1.2.2, ()), ()), rfl, ?_⟩)
      refine al.mk h fun c w11 h => ?_
      dsimp only
      rw [hw]
      have o2 := tryRecv_ok oq2
      cases hoq : outs q2 with
      | nil =>
        have ht := outs_none hoq
        rw [ht] at h o2 ⊢
        dsimp only at h o2 ⊢
        (repeat (first | with_reducible refine dr.mk h fun _ h => ?_ | with_reducible refine nn.mk ?_ | ((first | with_reducible apply ldI.mk | with_reducible apply ldB.mk | with_reducible apply ldP.mk | with_reducible apply ldS.mk | with_reducible apply ldM.mk | with_reducible apply ldF.mk | with_reducible apply ldG.mk); (· exact (by refine Ok.cellS h (by with_reducible first | exact sl0 | exact .there sl0 | exact .there sl1 | exact .there sl2 | exact .there sl3 | exact .there sl4 | exact .there sl5 | exact .there sl6 | exact .there sl7 | exact .there sl8 | exact .there sl9 | exact .there sl10 | exact .there sl11 | exact .there sl12) ?_; rfl))) | (refine st1.mk (Ok.bring h (by with_reducible first | exact sl0 | exact .there sl0 | exact .there sl1 | exact .there sl2 | exact .there sl3 | exact .there sl4 | exact .there sl5 | exact .there sl6 | exact .there sl7 | exact .there sl8 | exact .there sl9 | exact .there sl10 | exact .there sl11 | exact .there sl12)) (by simp) fun _ h => ?_; dsimp only [List.set] at h)))
        rw [hoq, List.append_nil] at hO2
        rw [hO2] at h
        exact cs.yes rfl (hJ _ _ (h.emb (by repeat' (first | with_reducible exact Emb.same _ | exact Emb.nil _ | refine Emb.cons (by with_reducible first | exact sl0 | exact .there sl0 | exact .there sl1 | exact .there sl2 | exact .there sl3 | exact .there sl4 | exact .there sl5 | exact .there sl6 | exact .there sl7 | exact .there sl8 | exact .there sl9 | exact .there sl10 | exact .there sl11 | exact .there sl12) ?_ | refine Emb.skip ?_))))
      | cons d r =>
        obtain ⟨ht1, ht2, ht3, ht4, ht5⟩ := outs_some hoq
        rw [ht1]
        dsimp only
        (repeat (first | with_reducible refine dr.mk h fun _ h => ?_ | with_reducible refine nn.mk ?_ | ((first | with_reducible apply ldI.mk | with_reducible apply ldB.mk | with_reducible apply ldP.mk | with_reducible apply ldS.mk | with_reducible apply ldM.mk | with_reducible apply ldF.mk | with_reducible apply ldG.mk); (· exact (by refine Ok.cellS h (by with_reducible first | exact sl0 | exact .there sl0 | exact .there sl1 | exact .there sl2 | exact .there sl3 | exact .there sl4 | exact .there sl5 | exact .there sl6 | exact .there sl7 | exact .there sl8 | exact .there sl9 | exact .there sl10 | exact .there sl11 | exact .there sl12) ?_; rfl))) | (refine st1.mk (Ok.bring h (by with_reducible first | exact sl0 | exact .there sl0 | exact .there sl1 | exact .there sl2 | exact .there sl3 | exact .there sl4 | exact .there sl5 | exact .there sl6 | exact .there sl7 | exact .there sl8 | exact .there sl9 | exact .there sl10 | exact .there sl11 | exact .there sl12)) (by simp) fun _ h => ?_; dsimp only [List.set] at h)))
        refine cs.no rfl ?_
        (repeat (first | with_reducible refine dr.mk h fun _ h => ?_ | with_reducible refine nn.mk ?_ | ((first | with_reducible apply ldI.mk | with_reducible apply ldB.mk | with_reducible apply ldP.mk | with_reducible apply ldS.mk | with_reducible apply ldM.mk | with_reducible apply ldF.mk | with_reducible apply ldG.mk); (· exact (by refine Ok.cellS h (by with_reducible first | exact sl0 | exact .there sl0 | exact .there sl1 | exact .there sl2 | exact .there sl3 | exact .there sl4 | exact .there sl5 | exact .there sl6 | exact .there sl7 | exact .there sl8 | exact .there sl9 | exact .there sl10 | exact .there sl11 | exact .there sl12) ?_; rfl))) | (refine st1.mk (Ok.bring h (by with_reducible first | exact sl0 | exact .there sl0 | exact .there sl1 | exact .there sl2 | exact .there sl3 | exact .there sl4 | exact .there sl5 | exact .there sl6 | exact .there sl7 | exact .there sl8 | exact .there sl9 | exact .there sl10 | exact .there sl11 | exact .there sl12)) (by simp) fun _ h => ?_; dsimp only [List.set] at h)))
        refine al.mk h fun c2 w12 h => ?_
        refine ef.append1 (n := 1) slT_int (by decide) (Ok.emb (h) (.cons (A := pts c2 _) (by with_reducible first | exact sl0 | exact .there sl0 | exact .there sl1 | exact .there sl2 | exact .there sl3 | exact .there sl4 | exact .there sl5 | exact .there sl6 | exact .there sl7 | exact .there sl8 | exact .there sl9 | exact .there sl10 | exact .there sl11 | exact .there sl12) (.cons (A := slc 1 s5 _) (by with_reducible first | exact sl0 | exact .there sl0 | exact .there sl1 | exact .there sl2 | exact .there sl3 | exact .there sl4 | exact .there sl5 | exact .there sl6 | exact .there sl7 | exact .there sl8 | exact .there sl9 | exact .there sl10 | exact .there sl11 | exact .there sl12) (.same _)))) rfl (by intro v hv; simp at hv; subst hv; rfl) (by omega) fun s6 w13 hl4 h => ?_
        rw [ints_snoc] at h
        rw [hoq, List.length_cons] at hkl
        refine ⟨⟨k + 1, q2.tryRecv.2, O2 ++ [d], rfl, by omega, o2, by rw [ht2, ← hO2, hoq]; simp, by rw [ht2]; omega, ?_⟩, ?_⟩
        · show Ok e (slc 1 s6 (ints (O2 ++ [d])) :: _) _
          exact (h.emb (by repeat' (first | with_reducible exact Emb.same _ | exact Emb.nil _ | refine Emb.cons (by with_reducible first | exact sl0 | exact .there sl0 | exact .there sl1 | exact .there sl2 | exact .there sl3 | exact .there sl4 | exact .there sl5 | exact .there sl6 | exact .there sl7 | exact .there sl8 | exact .there sl9 | exact .there sl10 | exact .there sl11 | exact .there sl12) ?_ | refine Emb.skip ?_)))
        · show 200 - Int.toNat ((k + 1 : Nat) : Int) < 200 - Int.toNat (k : Int)
          omega
    · have hge : 200 ≤ k := by have := of_decide_eq_false hge; dsimp only at this; omega
      omega
  · obtain ⟨s7, _⟩ := t
    dsimp only at h ⊢
    have hcap := ha.cap
    have hs7 := slc_ints_len h
    rw [List.length_take] at hs7
    refine sb_rd hr (Int.le_refl _) (by omega) (by omega) (by omega) (Int.le_refl _) fun x hxl hxc hx => ?_
    have hsr := rd_slc (k := .i64) (xs := xs.take st) h
    refine call15 (Same_rd h hsr hx (by omega) fun w6 h => ⟨(true, ()), ?_, ?_⟩)
    · rw [show (xs.take st == (List.take (Int.toNat (st : Int)) xs).drop (Int.toNat 0)) = true by simp]
      rfl
    exact ⟨rfl, (h.emb (by repeat' (first | with_reducible exact Emb.same _ | exact Emb.nil _ | refine Emb.cons (by with_reducible first | exact sl0 | exact .there sl0 | exact .there sl1 | exact .there sl2 | exact .there sl3 | exact .there sl4 | exact .there sl5 | exact .there sl6 | exact .there sl7 | exact .there sl8 | exact .there sl9 | exact .there sl10 | exact .there sl11 | exact .there sl12) ?_ | refine Emb.skip ?_)))⟩

end Go.Proofs.Ytadnjjnnkhofdaa.B
