/- Contracts of the package mpl: its calls. -/
import Derived.Test.YtnghegppcogdbaaMpl3
namespace Go.Proofs.Ytnghegppcogdbaa.B
open Go
set_option linter.unusedVariables false

theorem IndexFunc_put {e w L s l c x R} (h : Ok e (slc 2 s (prs l) :: pts c [.int .i64 x] :: L) w) (hb : l.length ≤ 2 ^ 31) (hl : ∀ p ∈ l, 0 ≤ p.1 ∧ p.1 ≤ 65536)
    (k : ∀ w', Ok e (slc 2 s (prs l) :: pts c [.int .i64 x] :: L) w' → R [.int .i64 (atI l (x - 8))] w') : sh35 s ⟨36, [], [.pointer (some ⟨c, 0, none⟩)]⟩ R w := by
  unfold sh35
  have hsl := slc_prs_len h
  refine lp.mk (fun t w' => ∃ n : Nat, t.1 = (n : Int) ∧ n ≤ l.length ∧ (∀ m, m < n → ∀ q, l[m]? = some q → q.1 ≠ x - 8) ∧ Ok e (slc 2 s (prs l) :: pts c [.int .i64 x] :: L) w')
    (fun t _ => l.length - t.1.toNat) ⟨0, rfl, Nat.zero_le _, fun m hm => absurd hm (Nat.not_lt_zero _), h⟩ ?_
  rintro ⟨i, _⟩ w1 ⟨n, hn, hnl, hno, h⟩
  dsimp only at hn
  subst hn
  refine cs.mk (fun hlt => ?_) (fun hge => ?_)
  · have hlt : n < l.length := by have := of_decide_eq_true hlt; dsimp only at this; omega
    refine ix_pr h (by simp) (by simpa using hlt) fun b o p hp ha ho hc1 hc2 => ?_
    refine ldI.mk (hc1 _ ⟨_, h⟩) (ldI.mk (hc2 _ ⟨_, h⟩) ?_)
    refine ob.mk (by kernel_rfl) ?_
    have hp : l[n]? = some p := by simpa using hp
    have hpb := hl p (List.mem_of_getElem? hp)
    refine call36 (a0 := (p.1, p.2, ())) (c0 := c) ?_
    unfold sh36
    refine al.mk h fun b1 w2 h => ?_
    refine ldI.mk (h.cell rfl) (ldI.mk (h.p2.cell rfl) ?_)
    rw [w64_in (x := p.1 + 8) (by omega) (by omega)]
    refine ⟨(p.1 + 8 == x, ()), rfl, ?_⟩
    dsimp only
    refine cs.mk (fun he => ?_) (fun hne => ?_)
    · have he : p.1 = x - 8 := by have := eq_of_beq he; omega
      have := k w2 h.drop
      rw [atI_some hp he hno] at this
      exact this
    · have hne : p.1 ≠ x - 8 := by have := beq_eq_false_iff_ne.1 hne; omega
      refine ⟨⟨n + 1, ?_, hlt, fun m hm q hq => ?_, h.drop⟩, ?_⟩
      · show w64 _ = _
        rw [w64_in (by omega) (by omega)]; rfl
      · rcases Nat.lt_or_ge m n with hm' | hm'
        · exact hno m hm' q hq
        · have : m = n := by omega
          subst this
          rw [hp] at hq
          cases hq
          exact hne
      · show _ - (w64 _).toNat < _ - Int.toNat _
        rw [w64_in (by omega) (by omega)]
        omega
  · have hge : l.length ≤ n := by have := of_decide_eq_false hge; dsimp only at this; omega
    have := k w1 h
    rw [atI_none fun p hp => by
      obtain ⟨m, hm, rfl⟩ := List.getElem_of_mem hp
      exact hno m (by omega) _ (List.getElem?_eq_getElem hm)] at this
    exact this

def LP.cut (q : LP) (i : Nat) : LP := ⟨q.S, q.L.take i ++ q.L.drop (i + 1), q.g⟩

theorem cut_ok {a z q i} (h : LPo a z q) (hi : i < q.L.length) : LPo a z (q.cut i) := ⟨h.c, h.line, chL_del h.ch hi, h.want⟩

def LP.put (a z : Int) (q : LP) (x : Int) : (List (Int × Int) × Int) × LP :=
  if 0 ≤ atI q.L (x - 8) then ((((q.cut (atI q.L (x - 8)).toNat).fill a z).1, 0), ((q.cut (atI q.L (x - 8)).toNat).fill a z).2) else (([], -17), q)

theorem lput_ok {a z q x} (h : LPo a z q) : LPo a z (q.put a z x).2 := by
  unfold LP.put
  split
  · next h1 => exact fill_ok (cut_ok h (atI_lt h1).1)
  · exact h

theorem Put_mpl {e w L b byPri a z q x R} (h : Ok e (mplP b byPri a z q :: L) w) (ho : LPo a z q)
    (k : ∀ r w', r.len = (q.put a z x).1.1.length → Ok e (slc 2 r (prs (q.put a z x).1.1) :: mplP b byPri a z (q.put a z x).2 :: L) w' → R [vS r, .int .i64 (q.put a z x).1.2] w') : sh11 (some ⟨b, 0, none⟩) x R w := by
  unfold sh11
  unfold LP.put at k
  have hc := ho.c
  have hlen := ho.len
  obtain ⟨p, s, m, f, hf, hs, h⟩ := mplE h
  refine al.mk h fun c w1 h => ?_
  refine nn.mk (ldS.mk (by refine Ok.cellS h (by with_reducible first | exact sl0 | exact .there sl0 | exact .there sl1 | exact .there sl2 | exact .there sl3 | exact .there sl4 | exact .there sl5 | exact .there sl6 | exact .there sl7 | exact .there sl8 | exact .there sl9 | exact .there sl10 | exact .there sl11 | exact .there sl12) ?_; rfl) ?_)
  refine call35 (a1 := ⟨36, [], [.pointer (some ⟨c, 0, none⟩)]⟩) (IndexFunc_put (c := c) (x := x) (Ok.emb (h) (.cons (A := slc 2 s _) (by with_reducible first | exact sl0 | exact .there sl0 | exact .there sl1 | exact .there sl2 | exact .there sl3 | exact .there sl4 | exact .there sl5 | exact .there sl6 | exact .there sl7 | exact .there sl8 | exact .there sl9 | exact .there sl10 | exact .there sl11 | exact .there sl12) (.cons (A := pts c _) (by with_reducible first | exact sl0 | exact .there sl0 | exact .there sl1 | exact .there sl2 | exact .there sl3 | exact .there sl4 | exact .there sl5 | exact .there sl6 | exact .there sl7 | exact .there sl8 | exact .there sl9 | exact .there sl10 | exact .there sl11 | exact .there sl12) (.same _)))) (by omega) (fun p hp => by
    have := chL_mem ho.ch hp
    have := tk_ge (n := p.2) (by omega)
    omega) fun w2 h => ⟨(atI q.L (x - 8), ()), rfl, ?_⟩)
  dsimp only
  refine cs.mk (fun h1 => ?_) (fun h1 => ?_)
  · have h1 : ¬ 0 ≤ atI q.L (x - 8) := by have := of_decide_eq_true h1; omega
    rw [if_neg h1] at k
    dsimp only at k
    have h := mplI (q := q) (p := p) (s := s) (m := m) hf (Ok.emb (h) (.cons (A := pts b _) (by with_reducible first | exact sl0 | exact .there sl0 | exact .there sl1 | exact .there sl2 | exact .there sl3 | exact .there sl4 | exact .there sl5 | exact .there sl6 | exact .there sl7 | exact .there sl8 | exact .there sl9 | exact .there sl10 | exact .there sl11 | exact .there sl12) (.cons (A := lineP p _ _) (by with_reducible first | exact sl0 | exact .there sl0 | exact .there sl1 | exact .there sl2 | exact .there sl3 | exact .there sl4 | exact .there sl5 | exact .there sl6 | exact .there sl7 | exact .there sl8 | exact .there sl9 | exact .there sl10 | exact .there sl11 | exact .there sl12) (.cons (A := slc 2 s _) (by with_reducible first | exact sl0 | exact .there sl0 | exact .there sl1 | exact .there sl2 | exact .there sl3 | exact .there sl4 | exact .there sl5 | exact .there sl6 | exact .there sl7 | exact .there sl8 | exact .there sl9 | exact .there sl10 | exact .there sl11 | exact .there sl12) (.cons (A := mpP m f) (by with_reducible first | exact sl0 | exact .there sl0 | exact .there sl1 | exact .there sl2 | exact .there sl3 | exact .there sl4 | exact .there sl5 | exact .there sl6 | exact .there sl7 | exact .there sl8 | exact .there sl9 | exact .there sl10 | exact .there sl11 | exact .there sl12) (.same _))))))
    have h : Ok e (slc 2 ⟨none, 0, 0⟩ (prs []) :: _) w2 := h.slcNil 2
    exact k ⟨none, 0, 0⟩ w2 rfl (h.emb (by repeat' (first | with_reducible exact Emb.same _ | exact Emb.nil _ | refine Emb.cons (by with_reducible first | exact sl0 | exact .there sl0 | exact .there sl1 | exact .there sl2 | exact .there sl3 | exact .there sl4 | exact .there sl5 | exact .there sl6 | exact .there sl7 | exact .there sl8 | exact .there sl9 | exact .there sl10 | exact .there sl11 | exact .there sl12) ?_ | refine Emb.skip ?_)))
  · have h1 : 0 ≤ atI q.L (x - 8) := by have := of_decide_eq_false h1; omega
    rw [if_pos h1] at k
    have hi := (atI_lt h1).1
    refine nn.mk (ldS.mk (by refine Ok.cellS h (by with_reducible first | exact sl0 | exact .there sl0 | exact .there sl1 | exact .there sl2 | exact .there sl3 | exact .there sl4 | exact .there sl5 | exact .there sl6 | exact .there sl7 | exact .there sl8 | exact .there sl9 | exact .there sl10 | exact .there sl11 | exact .there sl12) ?_; rfl) ?_)
    rw [w64_in (x := atI q.L (x - 8) + 1) (by omega) (by omega)]
    refine call37 (Delete_block (Ok.emb (h) (.cons (A := slc 2 s _) (by with_reducible first | exact sl0 | exact .there sl0 | exact .there sl1 | exact .there sl2 | exact .there sl3 | exact .there sl4 | exact .there sl5 | exact .there sl6 | exact .there sl7 | exact .there sl8 | exact .there sl9 | exact .there sl10 | exact .there sl11 | exact .there sl12) (.same _))) h1 (by omega) (by omega) fun s' w3 h => ⟨(s', ()), rfl, ?_⟩)
    dsimp only
    refine nn.mk (st1.mk (Ok.emb (h) (.cons (A := pts b _) (by with_reducible first | exact sl0 | exact .there sl0 | exact .there sl1 | exact .there sl2 | exact .there sl3 | exact .there sl4 | exact .there sl5 | exact .there sl6 | exact .there sl7 | exact .there sl8 | exact .there sl9 | exact .there sl10 | exact .there sl11 | exact .there sl12) (.same _))) (by simp) fun w4 h => ?_)
    dsimp only [List.set, List.tail_cons, List.tail_nil, List.head?_cons, List.head?_nil, Option.getD_some, Option.getD_none] at h
    have h := (Ok.emb (h) (.cons (A := pts b _) (by with_reducible first | exact sl0 | exact .there sl0 | exact .there sl1 | exact .there sl2 | exact .there sl3 | exact .there sl4 | exact .there sl5 | exact .there sl6 | exact .there sl7 | exact .there sl8 | exact .there sl9 | exact .there sl10 | exact .there sl11 | exact .there sl12) (.cons (A := lineP p _ _) (by with_reducible first | exact sl0 | exact .there sl0 | exact .there sl1 | exact .there sl2 | exact .there sl3 | exact .there sl4 | exact .there sl5 | exact .there sl6 | exact .there sl7 | exact .there sl8 | exact .there sl9 | exact .there sl10 | exact .there sl11 | exact .there sl12) (.cons (A := slc 2 s' _) (by with_reducible first | exact sl0 | exact .there sl0 | exact .there sl1 | exact .there sl2 | exact .there sl3 | exact .there sl4 | exact .there sl5 | exact .there sl6 | exact .there sl7 | exact .there sl8 | exact .there sl9 | exact .there sl10 | exact .there sl11 | exact .there sl12) (.cons (A := mpP m f) (by with_reducible first | exact sl0 | exact .there sl0 | exact .there sl1 | exact .there sl2 | exact .there sl3 | exact .there sl4 | exact .there sl5 | exact .there sl6 | exact .there sl7 | exact .there sl8 | exact .there sl9 | exact .there sl10 | exact .there sl11 | exact .there sl12) (.same _))))))
    have h := mplI (q := q.cut (atI q.L (x - 8)).toNat) (p := p) (s := s') (m := m) hf h
    refine call38 (fill_mpl h (cut_ok ho hi) fun r w5 hr h => ⟨(r, ()), rfl, ?_⟩)
    exact k r w5 hr (h.emb (by repeat' (first | with_reducible exact Emb.same _ | exact Emb.nil _ | refine Emb.cons (by with_reducible first | exact sl0 | exact .there sl0 | exact .there sl1 | exact .there sl2 | exact .there sl3 | exact .there sl4 | exact .there sl5 | exact .there sl6 | exact .there sl7 | exact .there sl8 | exact .there sl9 | exact .there sl10 | exact .there sl11 | exact .there sl12) ?_ | refine Emb.skip ?_)))

def LP.get (a z : Int) (byPri : Bool) (q : LP) (task pri n : Int) : (Int × Bool × Int) × LP :=
  if 1 ≤ n ∧ n ≤ z - 8 then
    if q.S = [] ∧ (q.find a z n).1.2 = true then (((q.find a z n).1.1, true, 0), (q.find a z n).2)
    else ((0, false, (addL byPri q.S task pri).1), ⟨(addL byPri q.S task pri).2, q.L, if (addL byPri q.S task pri).1 = 0 then fun i => if i = task then n else q.g i else q.g⟩)
  else ((0, false, -17), q)

theorem lget_ok {a z byPri q task pri n} (h : LPo a z q) : LPo a z (q.get a z byPri task pri n).2 := by
  unfold LP.get
  split
  · next h1 =>
    split
    · exact find_ok h1.1 h
    · refine ⟨h.c, okL_add h.line, h.ch, fun i hi => ?_⟩
      dsimp only at hi ⊢
      split
      · by_cases hne : i = task
        · simp only [if_pos hne]
          exact h1
        · simp only [if_neg hne]
          rcases addL_mem hi with h5 | h5
          · exact absurd h5.2 hne
          · exact h.want i h5
      · next h0 =>
        rw [addL_other h0] at hi
        exact h.want i hi
  · exact h

theorem find_no {a z n q} (h : (LP.find a z q n).1.2 = false) : (q.find a z n).2 = q := by
  obtain ⟨S, L, g⟩ := q
  unfold LP.find at h ⊢
  dsimp only at h ⊢
  rw [findL_no h]

set_option maxHeartbeats 1000000 in
theorem Get_mpl {e w L b byPri a z q task pri n R} (h : Ok e (mplP b byPri a z q :: L) w) (ho : LPo a z q)
    (k : ∀ w', Ok e (mplP b byPri a z (q.get a z byPri task pri n).2 :: L) w' → R [.int .i64 (q.get a z byPri task pri n).1.1, .bool (q.get a z byPri task pri n).1.2.1, .int .i64 (q.get a z byPri task pri n).1.2.2] w') : sh13 (some ⟨b, 0, none⟩) task pri n R w := by
  unfold sh13
  unfold LP.get at k
  have l1 := okL_len ho.line
  refine call32 (may_mpl h ho ⟨(decide (1 ≤ n ∧ n ≤ z - 8), ()), rfl, ?_⟩)
  dsimp only
  refine cs.mk (fun h1 => ?_) (fun h1 => ?_)
  · have h1 : ¬ (1 ≤ n ∧ n ≤ z - 8) := by rw [Bool.not_eq_true'] at h1; exact of_decide_eq_false h1
    rw [if_neg h1] at k
    exact k w h
  have h1 : 1 ≤ n ∧ n ≤ z - 8 := by rw [Bool.not_eq_false'] at h1; exact of_decide_eq_true h1
  rw [if_pos h1] at k
  obtain ⟨p, s, m, f, hf, hs, h⟩ := mplE h
  refine nn.mk (ldP.mk (by refine Ok.cellS h (by with_reducible first | exact sl0 | exact .there sl0 | exact .there sl1 | exact .there sl2 | exact .there sl3 | exact .there sl4 | exact .there sl5 | exact .there sl6 | exact .there sl7 | exact .there sl8 | exact .there sl9 | exact .there sl10 | exact .there sl11 | exact .there sl12) ?_; rfl) (nn.mk ?_))
  refine call14 (Len_order (Ok.emb (h) (.cons (A := lineP p _ _) (by with_reducible first | exact sl0 | exact .there sl0 | exact .there sl1 | exact .there sl2 | exact .there sl3 | exact .there sl4 | exact .there sl5 | exact .there sl6 | exact .there sl7 | exact .there sl8 | exact .there sl9 | exact .there sl10 | exact .there sl11 | exact .there sl12) (.same _))) ⟨((q.S.length : Int), ()), rfl, ?_⟩)
  have h := mplI (q := q) (p := p) (s := s) (m := m) hf h
  clear hf hs
  refine jn.mk fun J hJ => ?_
  have tail : (¬ (q.S = [] ∧ (q.find a z n).1.2 = true)) → ∀ w', Ok e (mplP b byPri a z q :: L) w' → J () w' := by
    intro hno w1 h
    rw [if_neg hno] at k
    refine hJ _ _ ?_
    obtain ⟨p, s, m, f, hf, hs, h⟩ := mplE h
    refine nn.mk (ldP.mk (by refine Ok.cellS h (by with_reducible first | exact sl0 | exact .there sl0 | exact .there sl1 | exact .there sl2 | exact .there sl3 | exact .there sl4 | exact .there sl5 | exact .there sl6 | exact .there sl7 | exact .there sl8 | exact .there sl9 | exact .there sl10 | exact .there sl11 | exact .there sl12) ?_; rfl) ?_)
    refine call40 (Add_order (Ok.emb (h) (.cons (A := lineP p _ _) (by with_reducible first | exact sl0 | exact .there sl0 | exact .there sl1 | exact .there sl2 | exact .there sl3 | exact .there sl4 | exact .there sl5 | exact .there sl6 | exact .there sl7 | exact .there sl8 | exact .there sl9 | exact .there sl10 | exact .there sl11 | exact .there sl12) (.same _))) (by omega) fun w3 h => ⟨((addL byPri q.S task pri).1, ()), rfl, ?_⟩)
    dsimp only
    refine cs.mk (fun hc => ?_) (fun hc => ?_)
    · have hc : (addL byPri q.S task pri).1 ≠ 0 := by simpa using hc
      rw [if_neg hc] at k
      refine k w3 (mplI (q := ⟨(addL byPri q.S task pri).2, q.L, q.g⟩) (p := p) (s := s) (m := m) (f := f) (fun i hi => ?_) (h.emb (by repeat' (first | with_reducible exact Emb.same _ | exact Emb.nil _ | refine Emb.cons (by with_reducible first | exact sl0 | exact .there sl0 | exact .there sl1 | exact .there sl2 | exact .there sl3 | exact .there sl4 | exact .there sl5 | exact .there sl6 | exact .there sl7 | exact .there sl8 | exact .there sl9 | exact .there sl10 | exact .there sl11 | exact .there sl12) ?_ | refine Emb.skip ?_))))
      rw [addL_other hc] at hi
      exact hf i hi
    · have hc : (addL byPri q.S task pri).1 = 0 := by simpa using hc
      rw [if_pos hc, hc] at k
      refine nn.mk (ldM.mk (by refine Ok.cellS h (by with_reducible first | exact sl0 | exact .there sl0 | exact .there sl1 | exact .there sl2 | exact .there sl3 | exact .there sl4 | exact .there sl5 | exact .there sl6 | exact .there sl7 | exact .there sl8 | exact .there sl9 | exact .there sl10 | exact .there sl11 | exact .there sl12) ?_; rfl) ?_)
      refine efU.mapUpdate mapT_ii (Ok.emb (h) (.cons (A := mpP m f) (by with_reducible first | exact sl0 | exact .there sl0 | exact .there sl1 | exact .there sl2 | exact .there sl3 | exact .there sl4 | exact .there sl5 | exact .there sl6 | exact .there sl7 | exact .there sl8 | exact .there sl9 | exact .there sl10 | exact .there sl11 | exact .there sl12) (.same _))) fun w4 h => k w4 (mplI (q := ⟨(addL byPri q.S task pri).2, q.L, fun i => if i = task then n else q.g i⟩) (p := p) (s := s) (m := m) (f := upd f task (some (.int .i64 n))) (fun i hi => ?_) (h.emb (by repeat' (first | with_reducible exact Emb.same _ | exact Emb.nil _ | refine Emb.cons (by with_reducible first | exact sl0 | exact .there sl0 | exact .there sl1 | exact .there sl2 | exact .there sl3 | exact .there sl4 | exact .there sl5 | exact .there sl6 | exact .there sl7 | exact .there sl8 | exact .there sl9 | exact .there sl10 | exact .there sl11 | exact .there sl12) ?_ | refine Emb.skip ?_))))
      by_cases hi2 : i = task
      · subst hi2
        simp [upd]
      · simp only [upd, if_neg hi2]
        rcases addL_mem hi with h5 | h5
        · exact absurd h5.2 hi2
        · exact hf i h5
  refine cs.mk (fun hc => ?_) (fun hc => ?_)
  · have hS : q.S = [] := by
      have := eq_of_beq hc
      exact List.eq_nil_of_length_eq_zero (by dsimp only at this; omega)
    refine call33 (find_mpl h ho h1 fun w2 h => ⟨((q.find a z n).1.1, (q.find a z n).1.2, ()), rfl, ?_⟩)
    dsimp only
    refine cs.mk (fun hc2 => ?_) (fun hc2 => ?_)
    · rw [if_pos ⟨hS, hc2⟩] at k
      exact k w2 h
    · refine tail (fun hh => by rw [hc2] at hh; cases hh.2) w2 ?_
      rw [find_no hc2] at h
      exact h
  · refine tail (fun hh => ?_) w h
    rw [hh.1] at hc
    simp at hc

def freeF (a hi : Int) (l : List (Int × Int)) : Nat → Int × Int
  | 0 => (0, 0)
  | i + 1 => ((freeF a hi l i).1 + (toL hi l i - frL a l i), if toL hi l i - frL a l i - 8 > (freeF a hi l i).2 then toL hi l i - frL a l i - 8 else (freeF a hi l i).2)

theorem freeF_bd {a z : Int} {q : LP} (ho : LPo a z q) : ∀ {i : Nat}, i ≤ q.L.length + 1 → 0 ≤ (freeF a (a + z) q.L i).1 ∧ (freeF a (a + z) q.L i).1 ≤ 65536 * i ∧ 0 ≤ (freeF a (a + z) q.L i).2 ∧ (freeF a (a + z) q.L i).2 ≤ 65536
  | 0, _ => ⟨Int.le_refl _, Int.le_refl _, Int.le_refl _, by show (0 : Int) ≤ 65536; omega⟩
  | i + 1, h => by
    have hc := ho.c
    have h1 := freeF_bd ho (i := i) (by omega)
    have h2 := chL_gap ho.ch (i := i) (by omega)
    unfold freeF
    dsimp only
    refine ⟨by omega, by omega, ?_, ?_⟩ <;> split <;> omega

set_option maxHeartbeats 1000000 in
theorem Free_mpl {e w L b byPri a z q R} (h : Ok e (mplP b byPri a z q :: L) w) (ho : LPo a z q)
    (k : ∀ w', Ok e (mplP b byPri a z q :: L) w' → R [.int .i64 (freeF a (a + z) q.L (q.L.length + 1)).1, .int .i64 (freeF a (a + z) q.L (q.L.length + 1)).2] w') : sh10 (some ⟨b, 0, none⟩) R w := by
  unfold sh10
  have hc := ho.c
  have hlen := ho.len
  have h0 := h
  obtain ⟨p, s, m, f, hf, hs, h⟩ := mplE h
  refine nn.mk (ldS.mk (by refine Ok.cellS h (by with_reducible first | exact sl0 | exact .there sl0 | exact .there sl1 | exact .there sl2 | exact .there sl3 | exact .there sl4 | exact .there sl5 | exact .there sl6 | exact .there sl7 | exact .there sl8 | exact .there sl9 | exact .there sl10 | exact .there sl11 | exact .there sl12) ?_; rfl) ?_)
  clear h
  have hw0 : w64 ((s.len : Int) + 1) = ((q.L.length + 1 : Nat) : Int) := by rw [w64_in (by omega) (by omega)]; omega
  rw [hw0]
  refine lp.mk (fun t w' => ∃ i : Nat, t.1 = (freeF a (a + z) q.L i).1 ∧ t.2.1 = (freeF a (a + z) q.L i).2 ∧ t.2.2.1 = (i : Int) ∧ i ≤ q.L.length + 1 ∧ Ok e (mplP b byPri a z q :: L) w') (fun t _ => q.L.length + 1 - t.2.2.1.toNat) ⟨0, rfl, rfl, rfl, Nat.zero_le _, h0⟩ ?_
  clear h0
  rintro ⟨x', y', i', _⟩ w1 ⟨i, hx, hy, hi, hi1, h⟩
  dsimp only at hx hy hi
  subst hx hy hi
  refine cs.mk (fun hlt => ?_) (fun hge => ?_)
  · have hlt : i ≤ q.L.length := by have := of_decide_eq_true hlt; dsimp only at this; omega
    have hw : w64 ((i : Int) + 1) = ((i + 1 : Nat) : Int) := by rw [w64_in (by omega) (by omega)]; rfl
    have hg := chL_gap ho.ch hlt
    have hb := freeF_bd ho (i := i) (by omega)
    refine call34 (gap_mpl h ho hlt fun w2 h => ⟨(frL a q.L i, toL (a + z) q.L i - frL a q.L i, ()), rfl, ?_⟩)
    dsimp only
    rw [hw, w64_in (x := toL (a + z) q.L i - frL a q.L i - 8) (by omega) (by omega), w64_in (by omega) (by omega)]
    refine ⟨⟨i + 1, rfl, rfl, rfl, by omega, h⟩, ?_⟩
    show q.L.length + 1 - Int.toNat ((i + 1 : Nat) : Int) < q.L.length + 1 - Int.toNat (i : Int)
    omega
  · have hge : q.L.length + 1 ≤ i := by have := of_decide_eq_false hge; dsimp only at this; omega
    obtain rfl : i = q.L.length + 1 := by omega
    exact k w1 h

end Go.Proofs.Ytnghegppcogdbaa.B
