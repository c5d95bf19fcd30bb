/- Contracts of the package mpf: what it tells; one apart. -/
import Derived.Test.YtbdgglhfmanfbaaMpf2
namespace Go.Proofs.Ytbdgglhfmanfbaa.B
open Go
set_option linter.unusedVariables false

/-- where bytes lie in a block, of a row of blocks -/
theorem IndexFunc_holds {e w L t l b c0 c1 c2 z n a' x1 x2 x4 x5 x6 x7 R} (h : Ok e (slc 1 t (ints l) :: pts c0 [.int .i64 a'] :: pts c1 [.pointer (some ⟨b, 0, none⟩)] :: pts c2 [.int .i64 n] :: pts b [x1, x2, x4, .int .i64 z, x5, x6, x7] :: L) w) (hb : l.length ≤ 2 ^ 31) (hl : ∀ x ∈ l, 0 ≤ x ∧ x ≤ 65536) (hz : 1 ≤ z ∧ z ≤ 4096) (hn : 1 ≤ n ∧ n ≤ z)
    (k : ∀ i w', decide (0 ≤ i) = l.any (fun x => decide (x ≤ a' ∧ a' ≤ x + z - n)) → Ok e (slc 1 t (ints l) :: pts c0 [.int .i64 a'] :: pts c1 [.pointer (some ⟨b, 0, none⟩)] :: pts c2 [.int .i64 n] :: pts b [x1, x2, x4, .int .i64 z, x5, x6, x7] :: L) w' → R [.int .i64 i] w') : sh68 t ⟨57, [], [.pointer (some ⟨c0, 0, none⟩), .pointer (some ⟨c1, 0, none⟩), .pointer (some ⟨c2, 0, none⟩)]⟩ R w := by
  unfold sh68
  have ht := h.slc_len
  rw [ints_len, Nat.mul_one] at ht
  refine lp.mk (fun t' w' => ∃ m : Nat, t'.1 = (m : Int) ∧ m ≤ l.length ∧ (∀ j, j < m → ∀ x, l[j]? = some x → ¬ (x ≤ a' ∧ a' ≤ x + z - n)) ∧ Ok e (slc 1 t (ints l) :: pts c0 [.int .i64 a'] :: pts c1 [.pointer (some ⟨b, 0, none⟩)] :: pts c2 [.int .i64 n] :: pts b [x1, x2, x4, .int .i64 z, x5, x6, x7] :: L) w')
    (fun t' _ => l.length - t'.1.toNat) ⟨0, rfl, Nat.zero_le _, fun j hj => absurd hj (Nat.not_lt_zero _), h⟩ ?_
  clear h
  rintro ⟨i, _⟩ w1 ⟨m, hm, hml, hno, h⟩
  dsimp only at hm
  subst hm
  refine cs.mk (fun hlt => ?_) (fun hge => ?_)
  · have hlt : m < l.length := by have := of_decide_eq_true hlt; dsimp only at this; omega
    refine ix_int h (Int.natCast_nonneg _) (by show (m : Int) < (t.len : Int); omega) fun c o x hx hc => ldI.mk (hc _ ⟨_, h⟩) ?_
    rw [Int.toNat_natCast] at hx
    clear hc
    have hxb := hl x (List.mem_of_getElem? hx)
    refine ob.mk (by kernel_rfl) ?_
    refine call57 (a0 := x) (c0 := c0) (c1 := c1) (c2 := c2) ?_
    unfold sh57
    refine dr.mk h fun w2 h => ?_
    refine jn.at (decide (x ≤ a' ∧ a' ≤ x + z - n), ()) (fun w' => Ok e (slc 1 t (ints l) :: pts c0 [.int .i64 a'] :: pts c1 [.pointer (some ⟨b, 0, none⟩)] :: pts c2 [.int .i64 n] :: pts b [x1, x2, x4, .int .i64 z, x5, x6, x7] :: L) w') (fun J hJ => ?_) (fun w3 h => ?_)
    · refine ldI.mk (by refine Ok.cellS h (by with_reducible first | exact sl0 | exact .there sl0 | exact .there sl1 | exact .there sl2 | exact .there sl3 | exact .there sl4 | exact .there sl5 | exact .there sl6 | exact .there sl7 | exact .there sl8 | exact .there sl9 | exact .there sl10 | exact .there sl11 | exact .there sl12) ?_; rfl) (cs.mk (fun h1 => ?_) (fun h1 => ?_))
      · have h1 := of_decide_eq_true h1
        (repeat (first | with_reducible refine dr.mk h fun _ h => ?_ | with_reducible refine nn.mk ?_ | ((first | with_reducible apply ldI.mk | with_reducible apply ldB.mk | with_reducible apply ldP.mk | with_reducible apply ldS.mk | with_reducible apply ldM.mk | with_reducible apply ldF.mk | with_reducible apply ldG.mk); (· exact (by refine Ok.cellS h (by with_reducible first | exact sl0 | exact .there sl0 | exact .there sl1 | exact .there sl2 | exact .there sl3 | exact .there sl4 | exact .there sl5 | exact .there sl6 | exact .there sl7 | exact .there sl8 | exact .there sl9 | exact .there sl10 | exact .there sl11 | exact .there sl12) ?_; rfl))) | (refine st1.mk (Ok.bring h (by with_reducible first | exact sl0 | exact .there sl0 | exact .there sl1 | exact .there sl2 | exact .there sl3 | exact .there sl4 | exact .there sl5 | exact .there sl6 | exact .there sl7 | exact .there sl8 | exact .there sl9 | exact .there sl10 | exact .there sl11 | exact .there sl12)) (by simp) fun _ h => ?_; dsimp only [List.set] at h)))
        rw [w64_in (x := x + z) (by omega) (by omega), w64_in (x := x + z - n) (by omega) (by omega)]
        rw [show decide (x ≤ a' ∧ a' ≤ x + z - n) = decide (a' ≤ x + z - n) from decide_eq_decide.2 (by omega)] at hJ
        exact hJ _ h
      · have h1 := of_decide_eq_false h1
        rw [decide_eq_false (by omega)] at hJ
        exact hJ _ h
    refine ⟨(decide (x ≤ a' ∧ a' ≤ x + z - n), ()), rfl, ?_⟩
    dsimp only
    refine cs.mk (fun hy => ?_) (fun hy => ?_)
    · refine k m w3 ?_ h
      rw [decide_eq_true (Int.natCast_nonneg _)]
      exact (List.any_eq_true.2 ⟨x, List.mem_of_getElem? hx, hy⟩).symm
    · have hy := of_decide_eq_false hy
      rw [w64_in (x := (m : Int) + 1) (by omega) (by omega)]
      refine ⟨⟨m + 1, rfl, hlt, fun j hj y hjy => ?_, h⟩, ?_⟩
      · rcases Nat.lt_or_ge j m with h5 | h5
        · exact hno j h5 y hjy
        · obtain rfl : j = m := by omega
          rw [hx] at hjy
          cases hjy
          exact hy
      · show l.length - Int.toNat ((m : Int) + 1) < l.length - Int.toNat (m : Int)
        omega
  · have hge : l.length ≤ m := by have := of_decide_eq_false hge; dsimp only at this; omega
    refine k (-1) w1 ?_ h
    rw [decide_eq_false (by decide)]
    refine (List.any_eq_false.2 fun x hx => ?_).symm
    obtain ⟨j, hj⟩ := List.getElem?_of_mem hx
    have := hno j (by have := (List.getElem?_eq_some_iff.1 hj).1; omega) x hj
    rw [decide_eq_true_eq]
    exact this

theorem Holds_mpf {e w L b byPri a n z q a' m R} (h : Ok e (mpfP b byPri a n z q :: L) w) (ho : MPo a n z q)
    (k : ∀ w', Ok e (mpfP b byPri a n z q :: L) w' → R [.bool (q.holds z a' m)] w') : sh28 (some ⟨b, 0, none⟩) a' m R w := by
  unfold sh28
  have hlen := ho.len
  have hhad := ho.had
  have hc := ho.c
  have hz := And.intro hc.2.2.2.2.1 hc.2.2.2.2.2.1
  have h4 := stp_bd hz
  obtain ⟨p, s, t, hs, ht, h⟩ := mpfE h
  refine al.mk h fun c1 w1 h => al.mk h fun c0 w2 h => al.mk h fun c2 w3 h => ?_
  refine dr.mk h fun w4 h => ?_
  refine jn.at (q.holds z a' m, ()) (fun w' => Ok e (mpfP b byPri a n z q :: L) w') (fun J hJ => ?_) (fun w5 h => k w5 h)
  unfold MP.holds at hJ
  refine ldI.mk (by refine Ok.cellS h (by with_reducible first | exact sl0 | exact .there sl0 | exact .there sl1 | exact .there sl2 | exact .there sl3 | exact .there sl4 | exact .there sl5 | exact .there sl6 | exact .there sl7 | exact .there sl8 | exact .there sl9 | exact .there sl10 | exact .there sl11 | exact .there sl12) ?_; rfl) (cs.mk (fun h1 => ?_) (fun h1 => ?_))
  · have h1 := of_decide_eq_true h1
    refine ldI.mk (by refine Ok.cellS h (by with_reducible first | exact sl0 | exact .there sl0 | exact .there sl1 | exact .there sl2 | exact .there sl3 | exact .there sl4 | exact .there sl5 | exact .there sl6 | exact .there sl7 | exact .there sl8 | exact .there sl9 | exact .there sl10 | exact .there sl11 | exact .there sl12) ?_; rfl) (ldP.mk (by refine Ok.cellS h (by with_reducible first | exact sl0 | exact .there sl0 | exact .there sl1 | exact .there sl2 | exact .there sl3 | exact .there sl4 | exact .there sl5 | exact .there sl6 | exact .there sl7 | exact .there sl8 | exact .there sl9 | exact .there sl10 | exact .there sl11 | exact .there sl12) ?_; rfl) (nn.mk (ldI.mk (by refine Ok.cellS h (by with_reducible first | exact sl0 | exact .there sl0 | exact .there sl1 | exact .there sl2 | exact .there sl3 | exact .there sl4 | exact .there sl5 | exact .there sl6 | exact .there sl7 | exact .there sl8 | exact .there sl9 | exact .there sl10 | exact .there sl11 | exact .there sl12) ?_; rfl) (cs.mk (fun h2 => ?_) (fun h2 => ?_)))))
    · have h2 := of_decide_eq_true h2
      refine ldP.mk (by refine Ok.cellS h (by with_reducible first | exact sl0 | exact .there sl0 | exact .there sl1 | exact .there sl2 | exact .there sl3 | exact .there sl4 | exact .there sl5 | exact .there sl6 | exact .there sl7 | exact .there sl8 | exact .there sl9 | exact .there sl10 | exact .there sl11 | exact .there sl12) ?_; rfl) (nn.mk (ldS.mk (by refine Ok.cellS h (by with_reducible first | exact sl0 | exact .there sl0 | exact .there sl1 | exact .there sl2 | exact .there sl3 | exact .there sl4 | exact .there sl5 | exact .there sl6 | exact .there sl7 | exact .there sl8 | exact .there sl9 | exact .there sl10 | exact .there sl11 | exact .there sl12) ?_; rfl) ?_))
      refine call56 (a1 := ⟨57, [], [.pointer (some ⟨c0, 0, none⟩), .pointer (some ⟨c1, 0, none⟩), .pointer (some ⟨c2, 0, none⟩)]⟩) ?_
      unfold sh56
      refine call68 (a1 := ⟨57, [], [.pointer (some ⟨c0, 0, none⟩), .pointer (some ⟨c1, 0, none⟩), .pointer (some ⟨c2, 0, none⟩)]⟩) (IndexFunc_holds (Ok.emb (h) (.cons (A := slc 1 t _) (by with_reducible first | exact sl0 | exact .there sl0 | exact .there sl1 | exact .there sl2 | exact .there sl3 | exact .there sl4 | exact .there sl5 | exact .there sl6 | exact .there sl7 | exact .there sl8 | exact .there sl9 | exact .there sl10 | exact .there sl11 | exact .there sl12) (.cons (A := pts c0 _) (by with_reducible first | exact sl0 | exact .there sl0 | exact .there sl1 | exact .there sl2 | exact .there sl3 | exact .there sl4 | exact .there sl5 | exact .there sl6 | exact .there sl7 | exact .there sl8 | exact .there sl9 | exact .there sl10 | exact .there sl11 | exact .there sl12) (.cons (A := pts c1 _) (by with_reducible first | exact sl0 | exact .there sl0 | exact .there sl1 | exact .there sl2 | exact .there sl3 | exact .there sl4 | exact .there sl5 | exact .there sl6 | exact .there sl7 | exact .there sl8 | exact .there sl9 | exact .there sl10 | exact .there sl11 | exact .there sl12) (.cons (A := pts c2 _) (by with_reducible first | exact sl0 | exact .there sl0 | exact .there sl1 | exact .there sl2 | exact .there sl3 | exact .there sl4 | exact .there sl5 | exact .there sl6 | exact .there sl7 | exact .there sl8 | exact .there sl9 | exact .there sl10 | exact .there sl11 | exact .there sl12) (.cons (A := pts b _) (by with_reducible first | exact sl0 | exact .there sl0 | exact .there sl1 | exact .there sl2 | exact .there sl3 | exact .there sl4 | exact .there sl5 | exact .there sl6 | exact .there sl7 | exact .there sl8 | exact .there sl9 | exact .there sl10 | exact .there sl11 | exact .there sl12) (.same _))))))) (by omega) (fun x hx => by have := ho.bd (List.mem_append_right _ hx); omega) hz ⟨h1, h2⟩ fun i w6 hi h => ⟨(i, ()), rfl, ?_⟩)
      refine ⟨(decide (0 ≤ i), ()), rfl, ?_⟩
      dsimp only
      rw [hi]
      rw [decide_eq_true (show 1 ≤ m ∧ m ≤ z from ⟨h1, h2⟩), Bool.true_and] at hJ
      exact hJ _ (mpfI (q := q) (p := p) (s := s) (t := t) (h.emb (by repeat' (first | with_reducible exact Emb.same _ | exact Emb.nil _ | refine Emb.cons (by with_reducible first | exact sl0 | exact .there sl0 | exact .there sl1 | exact .there sl2 | exact .there sl3 | exact .there sl4 | exact .there sl5 | exact .there sl6 | exact .there sl7 | exact .there sl8 | exact .there sl9 | exact .there sl10 | exact .there sl11 | exact .there sl12) ?_ | refine Emb.skip ?_))))
    · have h2 := of_decide_eq_false h2
      rw [decide_eq_false (by omega), Bool.false_and] at hJ
      exact hJ _ (mpfI (q := q) (p := p) (s := s) (t := t) (h.emb (by repeat' (first | with_reducible exact Emb.same _ | exact Emb.nil _ | refine Emb.cons (by with_reducible first | exact sl0 | exact .there sl0 | exact .there sl1 | exact .there sl2 | exact .there sl3 | exact .there sl4 | exact .there sl5 | exact .there sl6 | exact .there sl7 | exact .there sl8 | exact .there sl9 | exact .there sl10 | exact .there sl11 | exact .there sl12) ?_ | refine Emb.skip ?_))))
  · have h1 := of_decide_eq_false h1
    rw [decide_eq_false (by omega), Bool.false_and] at hJ
    exact hJ _ (mpfI (q := q) (p := p) (s := s) (t := t) (h.emb (by repeat' (first | with_reducible exact Emb.same _ | exact Emb.nil _ | refine Emb.cons (by with_reducible first | exact sl0 | exact .there sl0 | exact .there sl1 | exact .there sl2 | exact .there sl3 | exact .there sl4 | exact .there sl5 | exact .there sl6 | exact .there sl7 | exact .there sl8 | exact .there sl9 | exact .there sl10 | exact .there sl11 | exact .there sl12) ?_ | refine Emb.skip ?_))))

set_option maxHeartbeats 1000000 in
theorem Apart_mpf {e w L b byPri a n z q R} (h : Ok e (mpfP b byPri a n z q :: L) w) (ho : MPo a n z q)
    (k : ∀ b' w', Ok e (mpfP b' byPri a n z q :: mpfP b byPri a n z q :: L) w' → R [.pointer (some ⟨b', 0, none⟩)] w') : sh24 (some ⟨b, 0, none⟩) R w := by
  unfold sh24
  have l1 := okL_len ho.line
  have hlen := ho.len
  have hhad := ho.had
  have hc := ho.c
  obtain ⟨p, s, t, hs, ht, h⟩ := mpfE h
  refine nn.mk (ldP.mk (by refine Ok.cellS h (by with_reducible first | exact sl0 | exact .there sl0 | exact .there sl1 | exact .there sl2 | exact .there sl3 | exact .there sl4 | exact .there sl5 | exact .there sl6 | exact .there sl7 | exact .there sl8 | exact .there sl9 | exact .there sl10 | exact .there sl11 | exact .there sl12) ?_; rfl) (ldI.mk (by refine Ok.cellS h (by with_reducible first | exact sl0 | exact .there sl0 | exact .there sl1 | exact .there sl2 | exact .there sl3 | exact .there sl4 | exact .there sl5 | exact .there sl6 | exact .there sl7 | exact .there sl8 | exact .there sl9 | exact .there sl10 | exact .there sl11 | exact .there sl12) ?_; rfl) (ldI.mk (by refine Ok.cellS h (by with_reducible first | exact sl0 | exact .there sl0 | exact .there sl1 | exact .there sl2 | exact .there sl3 | exact .there sl4 | exact .there sl5 | exact .there sl6 | exact .there sl7 | exact .there sl8 | exact .there sl9 | exact .there sl10 | exact .there sl11 | exact .there sl12) ?_; rfl) (ldI.mk (by refine Ok.cellS h (by with_reducible first | exact sl0 | exact .there sl0 | exact .there sl1 | exact .there sl2 | exact .there sl3 | exact .there sl4 | exact .there sl5 | exact .there sl6 | exact .there sl7 | exact .there sl8 | exact .there sl9 | exact .there sl10 | exact .there sl11 | exact .there sl12) ?_; rfl) (ldI.mk (by refine Ok.cellS h (by with_reducible first | exact sl0 | exact .there sl0 | exact .there sl1 | exact .there sl2 | exact .there sl3 | exact .there sl4 | exact .there sl5 | exact .there sl6 | exact .there sl7 | exact .there sl8 | exact .there sl9 | exact .there sl10 | exact .there sl11 | exact .there sl12) ?_; rfl) (ldS.mk (by refine Ok.cellS h (by with_reducible first | exact sl0 | exact .there sl0 | exact .there sl1 | exact .there sl2 | exact .there sl3 | exact .there sl4 | exact .there sl5 | exact .there sl6 | exact .there sl7 | exact .there sl8 | exact .there sl9 | exact .there sl10 | exact .there sl11 | exact .there sl12) ?_; rfl) (ldS.mk (by refine Ok.cellS h (by with_reducible first | exact sl0 | exact .there sl0 | exact .there sl1 | exact .there sl2 | exact .there sl3 | exact .there sl4 | exact .there sl5 | exact .there sl6 | exact .there sl7 | exact .there sl8 | exact .there sl9 | exact .there sl10 | exact .there sl11 | exact .there sl12) ?_; rfl) ?_)))))))
  refine al.mk h fun b' w1 h => ?_
  refine st1.mk h (by simp) fun w2 h => st1.mk h (by simp) fun w2 h => st1.mk h (by simp) fun w2 h => st1.mk h (by simp) fun w2 h => st1.mk h (by simp) fun w2 h => st1.mk h (by simp) fun w2 h => st1.mk h (by simp) fun w2 h => ?_
  dsimp only [List.set, List.tail_cons, List.tail_nil, List.head?_cons, List.head?_nil, Option.getD_some, Option.getD_none] at h
  refine nn.mk (ldP.mk (by refine Ok.cellS h (by with_reducible first | exact sl0 | exact .there sl0 | exact .there sl1 | exact .there sl2 | exact .there sl3 | exact .there sl4 | exact .there sl5 | exact .there sl6 | exact .there sl7 | exact .there sl8 | exact .there sl9 | exact .there sl10 | exact .there sl11 | exact .there sl12) ?_; rfl) ?_)
  refine call50 (Twin_order (Ok.emb (h) (.cons (A := lineP p _ _) (by with_reducible first | exact sl0 | exact .there sl0 | exact .there sl1 | exact .there sl2 | exact .there sl3 | exact .there sl4 | exact .there sl5 | exact .there sl6 | exact .there sl7 | exact .there sl8 | exact .there sl9 | exact .there sl10 | exact .there sl11 | exact .there sl12) (.same _))) (by omega) fun p' w2 h => ⟨(some ⟨p', 0, none⟩, ()), rfl, ?_⟩)
  refine st1.mk (Ok.emb (h) (.cons (A := pts b' _) (by with_reducible first | exact sl0 | exact .there sl0 | exact .there sl1 | exact .there sl2 | exact .there sl3 | exact .there sl4 | exact .there sl5 | exact .there sl6 | exact .there sl7 | exact .there sl8 | exact .there sl9 | exact .there sl10 | exact .there sl11 | exact .there sl12) (.same _))) (by simp) fun w3 h => dr.mk h fun w4 h => ?_
  dsimp only [List.set, List.tail_cons, List.tail_nil, List.head?_cons, List.head?_nil, Option.getD_some, Option.getD_none] at h
  refine nn.mk (ldS.mk (by refine Ok.cellS h (by with_reducible first | exact sl0 | exact .there sl0 | exact .there sl1 | exact .there sl2 | exact .there sl3 | exact .there sl4 | exact .there sl5 | exact .there sl6 | exact .there sl7 | exact .there sl8 | exact .there sl9 | exact .there sl10 | exact .there sl11 | exact .there sl12) ?_; rfl) (nn.mk (ldS.mk (by refine Ok.cellS h (by with_reducible first | exact sl0 | exact .there sl0 | exact .there sl1 | exact .there sl2 | exact .there sl3 | exact .there sl4 | exact .there sl5 | exact .there sl6 | exact .there sl7 | exact .there sl8 | exact .there sl9 | exact .there sl10 | exact .there sl11 | exact .there sl12) ?_; rfl) ?_)))
  refine call37 (Clone_int (Ok.emb (h) (.cons (A := slc 1 s _) (by with_reducible first | exact sl0 | exact .there sl0 | exact .there sl1 | exact .there sl2 | exact .there sl3 | exact .there sl4 | exact .there sl5 | exact .there sl6 | exact .there sl7 | exact .there sl8 | exact .there sl9 | exact .there sl10 | exact .there sl11 | exact .there sl12) (.same _))) (by omega) fun s' w5 hl1 h => ⟨(s', ()), rfl, (by refine Ok.cellS h (by with_reducible first | exact sl0 | exact .there sl0 | exact .there sl1 | exact .there sl2 | exact .there sl3 | exact .there sl4 | exact .there sl5 | exact .there sl6 | exact .there sl7 | exact .there sl8 | exact .there sl9 | exact .there sl10 | exact .there sl11 | exact .there sl12) ?_; rfl), ?_⟩)
  refine call37 (Clone_int (Ok.emb (h) (.cons (A := slc 1 t _) (by with_reducible first | exact sl0 | exact .there sl0 | exact .there sl1 | exact .there sl2 | exact .there sl3 | exact .there sl4 | exact .there sl5 | exact .there sl6 | exact .there sl7 | exact .there sl8 | exact .there sl9 | exact .there sl10 | exact .there sl11 | exact .there sl12) (.same _))) (by omega) fun t' w6 hl2 h => ⟨(t', ()), rfl, ?_⟩)
  refine st1.mk (Ok.emb (h) (.cons (A := pts b' _) (by with_reducible first | exact sl0 | exact .there sl0 | exact .there sl1 | exact .there sl2 | exact .there sl3 | exact .there sl4 | exact .there sl5 | exact .there sl6 | exact .there sl7 | exact .there sl8 | exact .there sl9 | exact .there sl10 | exact .there sl11 | exact .there sl12) (.same _))) (by simp) fun w7 h => st1.mk h (by simp) fun w8 h => k b' w8 ?_
  dsimp only [List.set, List.tail_cons, List.tail_nil, List.head?_cons, List.head?_nil, Option.getD_some, Option.getD_none] at h
  have h := mpfI (q := q) (p := p') (s := s') (t := t') (Ok.emb (h) (.cons (A := pts b' _) (by with_reducible first | exact sl0 | exact .there sl0 | exact .there sl1 | exact .there sl2 | exact .there sl3 | exact .there sl4 | exact .there sl5 | exact .there sl6 | exact .there sl7 | exact .there sl8 | exact .there sl9 | exact .there sl10 | exact .there sl11 | exact .there sl12) (.cons (A := lineP p' _ _) (by with_reducible first | exact sl0 | exact .there sl0 | exact .there sl1 | exact .there sl2 | exact .there sl3 | exact .there sl4 | exact .there sl5 | exact .there sl6 | exact .there sl7 | exact .there sl8 | exact .there sl9 | exact .there sl10 | exact .there sl11 | exact .there sl12) (.cons (A := slc 1 s' _) (by with_reducible first | exact sl0 | exact .there sl0 | exact .there sl1 | exact .there sl2 | exact .there sl3 | exact .there sl4 | exact .there sl5 | exact .there sl6 | exact .there sl7 | exact .there sl8 | exact .there sl9 | exact .there sl10 | exact .there sl11 | exact .there sl12) (.cons (A := slc 1 t' _) (by with_reducible first | exact sl0 | exact .there sl0 | exact .there sl1 | exact .there sl2 | exact .there sl3 | exact .there sl4 | exact .there sl5 | exact .there sl6 | exact .there sl7 | exact .there sl8 | exact .there sl9 | exact .there sl10 | exact .there sl11 | exact .there sl12) (.same _))))))
  exact Ok.p1 (mpfI (q := q) (p := p) (s := s) (t := t) (Ok.emb (h) (.cons (A := pts b _) (by with_reducible first | exact sl0 | exact .there sl0 | exact .there sl1 | exact .there sl2 | exact .there sl3 | exact .there sl4 | exact .there sl5 | exact .there sl6 | exact .there sl7 | exact .there sl8 | exact .there sl9 | exact .there sl10 | exact .there sl11 | exact .there sl12) (.cons (A := lineP p _ _) (by with_reducible first | exact sl0 | exact .there sl0 | exact .there sl1 | exact .there sl2 | exact .there sl3 | exact .there sl4 | exact .there sl5 | exact .there sl6 | exact .there sl7 | exact .there sl8 | exact .there sl9 | exact .there sl10 | exact .there sl11 | exact .there sl12) (.cons (A := slc 1 s _) (by with_reducible first | exact sl0 | exact .there sl0 | exact .there sl1 | exact .there sl2 | exact .there sl3 | exact .there sl4 | exact .there sl5 | exact .there sl6 | exact .there sl7 | exact .there sl8 | exact .there sl9 | exact .there sl10 | exact .there sl11 | exact .there sl12) (.cons (A := slc 1 t _) (by with_reducible first | exact sl0 | exact .there sl0 | exact .there sl1 | exact .there sl2 | exact .there sl3 | exact .there sl4 | exact .there sl5 | exact .there sl6 | exact .there sl7 | exact .there sl8 | exact .there sl9 | exact .there sl10 | exact .there sl11 | exact .there sl12) (.same _)))))))

end Go.Proofs.Ytbdgglhfmanfbaa.B
