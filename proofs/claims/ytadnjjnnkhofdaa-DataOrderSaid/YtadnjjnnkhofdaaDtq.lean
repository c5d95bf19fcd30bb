/- Contracts of the package dtq. -/
import Derived.Test.YtadnjjnnkhofdaaIds
namespace Go.Proofs.Ytadnjjnnkhofdaa.B
open Go
set_option linter.unusedVariables false

/-- a part of a row of whole numbers, copied -/
theorem Clone_subint {e w L s x vs R} {i j : Nat} (h : Ok e (slc 1 s vs :: L) w) (hx : SubOf s 1 i j x) (hj : j ≤ s.len) (hb : s.len ≤ 2 ^ 31) (k : ∀ s' w', s'.len = j - i → Ok e (slc 1 s' ((vs.take j).drop i) :: slc 1 s vs :: L) w' → R [vS s'] w') : sh40 x R w := by
  unfold sh40
  have hl := h.slc_len
  refine cs.mk (fun hn => ?_) (fun hn => ?_)
  · have hxa : x.a = none := by simpa using hn
    have hij : ¬ i < j := fun h2 => by
      obtain ⟨b, _, h3⟩ := hx.at' h2
      rw [hxa] at h3; cases h3
    have e1 : (vs.take j).drop i = [] := List.drop_eq_nil_of_le (by rw [List.length_take]; omega)
    have h2 := h.slcNil 1
    rw [e1] at k
    exact k ⟨none, 0, 0⟩ w (by simp only; omega) h2
  · refine al.mk h fun b w1 h => ?_
    have h := h.slcNew (n := 0) (sz := 1) rfl (by simp)
    refine ef.appendSub slT_int (by decide) h hx hj (by simp only; omega) fun s' w2 hl2 h => ?_
    rw [Nat.mul_one, Nat.mul_one, List.nil_append] at h
    exact k s' w2 (by simpa using hl2) h

theorem ints_take (D : List Int) (n : Nat) : (ints D).take n = ints (D.take n) := by simp [ints, List.map_take]

theorem ints_drop (D : List Int) (n : Nat) : (ints D).drop n = ints (D.drop n) := by simp [ints, List.map_drop]

theorem ints_snoc (D : List Int) (d : Int) : ints D ++ [Value.int .i64 d] = ints (D ++ [d]) := by simp [ints]

theorem ints_tail {s : Sl} {D : List Int} (h : D.length = s.len) : ((ints D).take ((s.len : Int)).toNat).drop ((1 : Int)).toNat = ints D.tail := by
  rw [Int.toNat_natCast, List.take_of_length_le (by rw [ints_len]; omega), ints_drop]
  cases D <;> rfl

theorem slc_ints_len {e w L s D} (h : Ok e (slc 1 s (ints D) :: L) w) : D.length = s.len := by
  have := h.slc_len
  rw [ints_len] at this
  omega

/-- what a data queue has -/
structure DQ where
  S : List (Int × Int)
  V : List (Int × Int)
  D : List Int
  g : Int → Int

def DQ.ok (room : Int) (q : DQ) : Prop := okL q.S ∧ okL q.V ∧ (q.D.length : Int) ≤ room ∧ room ≤ 64

def dqNew : DQ := ⟨[], [], [], fun _ => 0⟩

def DQ.trySend (room : Int) (q : DQ) (d : Int) : (Bool × Int) × DQ :=
  match q.V with
  | x :: r => ((true, x.1), ⟨q.S, r, q.D, q.g⟩)
  | [] => if (q.D.length : Int) ≥ room then ((false, 0), q) else ((true, 0), ⟨q.S, [], q.D ++ [d], q.g⟩)

def DQ.send (byPri : Bool) (room : Int) (q : DQ) (task pri d : Int) : (Bool × Int × Int) × DQ :=
  if (q.trySend room d).1.1 then ((true, (q.trySend room d).1.2, 0), (q.trySend room d).2)
  else ((false, 0, (addL byPri q.S task pri).1), ⟨(addL byPri q.S task pri).2, q.V, q.D, if (addL byPri q.S task pri).1 = 0 then fun i => if i = task then d else q.g i else q.g⟩)

def DQ.tryRecv (q : DQ) : (Int × Bool × Int) × DQ :=
  match q.D, q.S with
  | d :: D, x :: r => ((d, true, x.1), ⟨r, q.V, D ++ [q.g x.1], q.g⟩)
  | d :: D, [] => ((d, true, 0), ⟨[], q.V, D, q.g⟩)
  | [], x :: r => ((q.g x.1, true, x.1), ⟨r, q.V, [], q.g⟩)
  | [], [] => ((0, false, 0), q)

def DQ.recv (q : DQ) (task pri : Int) : ((Int × Bool × Int) × Int) × DQ :=
  if q.tryRecv.1.2.1 then ((q.tryRecv.1, 0), q.tryRecv.2) else (((0, false, 0), (addL false q.V task pri).1), ⟨q.S, (addL false q.V task pri).2, q.D, q.g⟩)

def DQ.force (room : Int) (q : DQ) (d : Int) : (Int × Int) × DQ :=
  if room = 0 then ((0, -28), q)
  else if (q.trySend room d).1.1 then (((q.trySend room d).1.2, 0), (q.trySend room d).2)
  else ((0, 0), ⟨q.S, q.V, q.D.tail ++ [d], q.g⟩)

def DQ.drop (q : DQ) (task : Int) : Bool × DQ :=
  if 0 ≤ atI q.S task then (true, ⟨rmL q.S task, q.V, q.D, q.g⟩) else (decide (0 ≤ atI q.V task), ⟨q.S, rmL q.V task, q.D, q.g⟩)

def DQ.change (byPri : Bool) (q : DQ) (task pri : Int) : Bool × DQ :=
  if (chgL byPri q.S task pri).1 then (true, ⟨(chgL byPri q.S task pri).2, q.V, q.D, q.g⟩) else ((chgL false q.V task pri).1, ⟨q.S, (chgL false q.V task pri).2, q.D, q.g⟩)

theorem dqNew_ok {room : Int} (h : 0 ≤ room ∧ room ≤ 64) : dqNew.ok room := ⟨okL_nil, okL_nil, h.1, h.2⟩

theorem trySend_ok {room q d} (h : DQ.ok room q) : DQ.ok room (q.trySend room d).2 := by
  obtain ⟨h1, h2, h3, h4⟩ := h
  unfold DQ.trySend
  split
  · next x r he => rw [he] at h2; exact ⟨h1, (okL_tail h2).1, h3, h4⟩
  · next he =>
    split
    · exact ⟨h1, h2, h3, h4⟩
    · exact ⟨h1, okL_nil, by simp only [List.length_append, List.length_singleton]; omega, h4⟩

theorem send_ok {byPri room q task pri d} (h : DQ.ok room q) : DQ.ok room (q.send byPri room task pri d).2 := by
  unfold DQ.send
  split
  · exact trySend_ok h
  · exact ⟨okL_add h.1, h.2.1, h.2.2⟩

theorem tryRecv_ok {room q} (h : DQ.ok room q) : DQ.ok room q.tryRecv.2 := by
  obtain ⟨h1, h2, h3, h4⟩ := h
  unfold DQ.tryRecv
  split
  · next d D x r hD hS => rw [hS] at h1; rw [hD] at h3; exact ⟨(okL_tail h1).1, h2, by simp at h3 ⊢; omega, h4⟩
  · next d D hD hS => rw [hD] at h3; exact ⟨okL_nil, h2, by simp at h3 ⊢; omega, h4⟩
  · next x r hD hS => rw [hS] at h1; rw [hD] at h3; exact ⟨(okL_tail h1).1, h2, h3, h4⟩
  · exact ⟨h1, h2, h3, h4⟩

theorem recv_ok {room q task pri} (h : DQ.ok room q) : DQ.ok room (q.recv task pri).2 := by
  unfold DQ.recv
  split
  · exact tryRecv_ok h
  · exact ⟨h.1, okL_add h.2.1, h.2.2⟩

theorem force_ok {room q d} (h : DQ.ok room q) : DQ.ok room (q.force room d).2 := by
  unfold DQ.force
  split
  · exact h
  · next h0 =>
    split
    · exact trySend_ok h
    · exact ⟨h.1, h.2.1, by have := h.2.2; simp only [List.length_append, List.length_tail, List.length_singleton]; omega, h.2.2.2⟩

theorem drop_ok {room q task} (h : DQ.ok room q) : DQ.ok room (q.drop task).2 := by
  unfold DQ.drop
  split
  · exact ⟨okL_rm h.1, h.2.1, h.2.2⟩
  · exact ⟨h.1, okL_rm h.2.1, h.2.2⟩

theorem change_ok {byPri room q task pri} (h : DQ.ok room q) : DQ.ok room (q.change byPri task pri).2 := by
  unfold DQ.change
  split
  · exact ⟨okL_chg h.1, h.2.1, h.2.2⟩
  · exact ⟨h.1, okL_chg h.2.1, h.2.2⟩

def heldF (S : List (Int × Int)) (g : Int → Int) (f : Int → Option Value) : Prop := ∀ i ∈ ids S, f i = some (.int .i64 (g i))

def dtqP (b : Nat) (byPri : Bool) (room : Int) (q : DQ) : SP := fun h => ∃ p r s m, ∃ f : Int → Option Value, heldF q.S q.g f ∧
  oksH [pts b [.pointer (some ⟨p, 0, none⟩), .pointer (some ⟨r, 0, none⟩), .int .i64 room, vS s, .map (some m)], lineP p [.bool byPri] q.S, lineP r [.bool false] q.V, slc 1 s (ints q.D), mpP m f] h

theorem dtqE {e w L b byPri room q} (h : Ok e (dtqP b byPri room q :: L) w) : ∃ p r s m, ∃ f : Int → Option Value, heldF q.S q.g f ∧ q.D.length = s.len ∧
    Ok e (pts b [.pointer (some ⟨p, 0, none⟩), .pointer (some ⟨r, 0, none⟩), .int .i64 room, vS s, .map (some m)] :: lineP p [.bool byPri] q.S :: lineP r [.bool false] q.V :: slc 1 s (ints q.D) :: mpP m f :: L) w := by
  obtain ⟨p, h⟩ := h.exE
  obtain ⟨r, h⟩ := h.exE
  obtain ⟨s, h⟩ := h.exE
  obtain ⟨m, h⟩ := h.exE
  obtain ⟨f, h⟩ := h.exE
  obtain ⟨hf, h⟩ := h.pureE
  have h := h.unpack
  exact ⟨p, r, s, m, f, hf, slc_ints_len h.p3, h⟩

theorem dtqI {e w L b byPri room q p r s m f} (hf : heldF q.S q.g f) (h : Ok e (pts b [.pointer (some ⟨p, 0, none⟩), .pointer (some ⟨r, 0, none⟩), .int .i64 room, vS s, .map (some m)] :: lineP p [.bool byPri] q.S :: lineP r [.bool false] q.V :: slc 1 s (ints q.D) :: mpP m f :: L) w) : Ok e (dtqP b byPri room q :: L) w :=
  (Ok.pack (M := [pts b [.pointer (some ⟨p, 0, none⟩), .pointer (some ⟨r, 0, none⟩), .int .i64 room, vS s, .map (some m)], lineP p [.bool byPri] q.S, lineP r [.bool false] q.V, slc 1 s (ints q.D), mpP m f]) h).imp fun k hk => ⟨p, r, s, m, f, hf, hk⟩

theorem mapT_ii : MapT Pg 72 (.int .i64 0) := .of (by kernel_rfl)

theorem New_dtq {e w L byPri room R} (h : Ok e L w) (k0 : ¬ (0 ≤ room ∧ room ≤ 64) → R [.pointer none, .int .i64 (-17)] w) (k1 : 0 ≤ room ∧ room ≤ 64 → ∀ b w', Ok e (dtqP b byPri room dqNew :: L) w' → R [.pointer (some ⟨b, 0, none⟩), .int .i64 0] w') : sh10 byPri room R w := by
  unfold sh10
  refine jn.bool (decide (¬ (0 ≤ room ∧ room ≤ 64))) (fun J hJ => cs.mk (fun h1 => ?_) (fun h1 => ?_)) ?_
  · have h1 := of_decide_eq_true h1
    rw [decide_eq_true (by omega)] at hJ
    exact hJ
  · have h1 := of_decide_eq_false h1
    rw [show decide (room > 64) = decide (¬ (0 ≤ room ∧ room ≤ 64)) from decide_eq_decide.2 (by omega)]
    exact hJ
  refine cs.mk (fun h1 => k0 (of_decide_eq_true h1)) (fun h1 => ?_)
  have h1 : 0 ≤ room ∧ room ≤ 64 := Decidable.not_not.1 (of_decide_eq_false h1)
  refine call34 (New_order h fun p w1 h => ⟨(some ⟨p, 0, none⟩, ()), rfl, ?_⟩)
  refine call34 (New_order h fun r w2 h => ⟨(some ⟨r, 0, none⟩, ()), rfl, ?_⟩)
  refine ef.makeMap h fun m w3 h => ?_
  refine al.mk h fun b w4 h => k1 h1 b w4 ?_
  refine dtqI (p := p) (r := r) (s := ⟨none, 0, 0⟩) (m := m) (f := fun _ => none) (q := dqNew) (fun i hi => by simp [dqNew] at hi) ?_
  have h := h.slcNil 1
  have h := (Ok.emb (h) (.cons (A := pts b _) (by with_reducible first | exact sl0 | exact .there sl0 | exact .there sl1 | exact .there sl2 | exact .there sl3 | exact .there sl4 | exact .there sl5 | exact .there sl6 | exact .there sl7 | exact .there sl8 | exact .there sl9 | exact .there sl10 | exact .there sl11 | exact .there sl12) (.cons (A := lineP p _ _) (by with_reducible first | exact sl0 | exact .there sl0 | exact .there sl1 | exact .there sl2 | exact .there sl3 | exact .there sl4 | exact .there sl5 | exact .there sl6 | exact .there sl7 | exact .there sl8 | exact .there sl9 | exact .there sl10 | exact .there sl11 | exact .there sl12) (.cons (A := lineP r _ _) (by with_reducible first | exact sl0 | exact .there sl0 | exact .there sl1 | exact .there sl2 | exact .there sl3 | exact .there sl4 | exact .there sl5 | exact .there sl6 | exact .there sl7 | exact .there sl8 | exact .there sl9 | exact .there sl10 | exact .there sl11 | exact .there sl12) (.cons (A := slc 1 _ _) (by with_reducible first | exact sl0 | exact .there sl0 | exact .there sl1 | exact .there sl2 | exact .there sl3 | exact .there sl4 | exact .there sl5 | exact .there sl6 | exact .there sl7 | exact .there sl8 | exact .there sl9 | exact .there sl10 | exact .there sl11 | exact .there sl12) (.cons (A := mpP m _) (by with_reducible first | exact sl0 | exact .there sl0 | exact .there sl1 | exact .there sl2 | exact .there sl3 | exact .there sl4 | exact .there sl5 | exact .there sl6 | exact .there sl7 | exact .there sl8 | exact .there sl9 | exact .there sl10 | exact .there sl11 | exact .there sl12) (.same _)))))))
  exact h

theorem TrySend_dtq {e w L b byPri room q d R} (h : Ok e (dtqP b byPri room q :: L) w) (ho : q.ok room)
    (k : ∀ w', Ok e (dtqP b byPri room (q.trySend room d).2 :: L) w' → R [.bool (q.trySend room d).1.1, .int .i64 (q.trySend room d).1.2] w') : sh11 (some ⟨b, 0, none⟩) d R w := by
  unfold sh11
  unfold DQ.trySend at k
  obtain ⟨h1, h2, h3, h4⟩ := ho
  have l2 := okL_len h2
  have h0 := h
  obtain ⟨p, r, s, m, f, hf, hs, h⟩ := dtqE h
  refine nn.mk (ldP.mk (by refine Ok.cellS h (by with_reducible first | exact sl0 | exact .there sl0 | exact .there sl1 | exact .there sl2 | exact .there sl3 | exact .there sl4 | exact .there sl5 | exact .there sl6 | exact .there sl7 | exact .there sl8 | exact .there sl9 | exact .there sl10 | exact .there sl11 | exact .there sl12) ?_; rfl) ?_)
  refine call35 (Take_order (Ok.emb (h) (.cons (A := lineP r _ _) (by with_reducible first | exact sl0 | exact .there sl0 | exact .there sl1 | exact .there sl2 | exact .there sl3 | exact .there sl4 | exact .there sl5 | exact .there sl6 | exact .there sl7 | exact .there sl8 | exact .there sl9 | exact .there sl10 | exact .there sl11 | exact .there sl12) (.same _))) (by omega) fun w1 h => ⟨(((q.V.head?.getD (0, 0)).1, (q.V.head?.getD (0, 0)).2, ()), !q.V.isEmpty, ()), rfl, ?_⟩)
  refine al.mk h fun c w2 h => st1.mk h (by simp) fun w3 h => st1.mk h (by simp) fun w4 h => ?_
  dsimp only
  obtain ⟨S, V, D, g⟩ := q
  dsimp only at *
  cases V with
  | cons x V =>
    refine cs.yes rfl (dr.mk h fun w5 h => ldI.mk (h.cell rfl) (k w5 ?_))
    exact dtqI (q := ⟨S, V, D, g⟩) hf (h.emb (by repeat' (first | with_reducible exact Emb.same _ | exact Emb.nil _ | refine Emb.cons (by with_reducible first | exact sl0 | exact .there sl0 | exact .there sl1 | exact .there sl2 | exact .there sl3 | exact .there sl4 | exact .there sl5 | exact .there sl6 | exact .there sl7 | exact .there sl8 | exact .there sl9 | exact .there sl10 | exact .there sl11 | exact .there sl12) ?_ | refine Emb.skip ?_)))
  | nil =>
    refine cs.no rfl (dr.mk h fun w5 h => ?_)
    refine nn.mk (ldS.mk (by refine Ok.cellS h (by with_reducible first | exact sl0 | exact .there sl0 | exact .there sl1 | exact .there sl2 | exact .there sl3 | exact .there sl4 | exact .there sl5 | exact .there sl6 | exact .there sl7 | exact .there sl8 | exact .there sl9 | exact .there sl10 | exact .there sl11 | exact .there sl12) ?_; rfl) (nn.mk (ldI.mk (by refine Ok.cellS h (by with_reducible first | exact sl0 | exact .there sl0 | exact .there sl1 | exact .there sl2 | exact .there sl3 | exact .there sl4 | exact .there sl5 | exact .there sl6 | exact .there sl7 | exact .there sl8 | exact .there sl9 | exact .there sl10 | exact .there sl11 | exact .there sl12) ?_; rfl) ?_)))
    refine cs.mk (fun hc => ?_) (fun hc => ?_)
    · have hc := of_decide_eq_true hc
      rw [← hs] at hc
      simp only [if_pos hc] at k
      exact k w5 (dtqI (q := ⟨S, [], D, g⟩) hf (h.emb (by repeat' (first | with_reducible exact Emb.same _ | exact Emb.nil _ | refine Emb.cons (by with_reducible first | exact sl0 | exact .there sl0 | exact .there sl1 | exact .there sl2 | exact .there sl3 | exact .there sl4 | exact .there sl5 | exact .there sl6 | exact .there sl7 | exact .there sl8 | exact .there sl9 | exact .there sl10 | exact .there sl11 | exact .there sl12) ?_ | refine Emb.skip ?_))))
    · have hc := of_decide_eq_false hc
      rw [← hs] at hc
      simp only [if_neg hc] at k
      refine nn.mk (ldS.mk (by refine Ok.cellS h (by with_reducible first | exact sl0 | exact .there sl0 | exact .there sl1 | exact .there sl2 | exact .there sl3 | exact .there sl4 | exact .there sl5 | exact .there sl6 | exact .there sl7 | exact .there sl8 | exact .there sl9 | exact .there sl10 | exact .there sl11 | exact .there sl12) ?_; rfl) ?_)
      refine al.mk h fun c2 w6 h => ?_
      refine ef.append1 (n := 1) slT_int (by decide) (Ok.emb (h) (.cons (A := pts c2 _) (by with_reducible first | exact sl0 | exact .there sl0 | exact .there sl1 | exact .there sl2 | exact .there sl3 | exact .there sl4 | exact .there sl5 | exact .there sl6 | exact .there sl7 | exact .there sl8 | exact .there sl9 | exact .there sl10 | exact .there sl11 | exact .there sl12) (.cons (A := slc 1 s _) (by with_reducible first | exact sl0 | exact .there sl0 | exact .there sl1 | exact .there sl2 | exact .there sl3 | exact .there sl4 | exact .there sl5 | exact .there sl6 | exact .there sl7 | exact .there sl8 | exact .there sl9 | exact .there sl10 | exact .there sl11 | exact .there sl12) (.same _)))) rfl (by intro v hv; simp at hv; subst hv; rfl) (by omega) fun s2 w7 hl2 h => ?_
      refine nn.mk (st1.mk (Ok.emb (h) (.cons (A := pts b _) (by with_reducible first | exact sl0 | exact .there sl0 | exact .there sl1 | exact .there sl2 | exact .there sl3 | exact .there sl4 | exact .there sl5 | exact .there sl6 | exact .there sl7 | exact .there sl8 | exact .there sl9 | exact .there sl10 | exact .there sl11 | exact .there sl12) (.same _))) (by simp) fun w8 h => k w8 ?_)
      rw [ints_snoc] at h
      dsimp only [List.set, List.tail_cons, List.tail_nil, List.head?_cons, List.head?_nil, Option.getD_some, Option.getD_none] at h
      exact dtqI (q := ⟨S, [], D ++ [d], g⟩) (s := s2) (p := p) (r := r) (m := m) hf (h.emb (by repeat' (first | with_reducible exact Emb.same _ | exact Emb.nil _ | refine Emb.cons (by with_reducible first | exact sl0 | exact .there sl0 | exact .there sl1 | exact .there sl2 | exact .there sl3 | exact .there sl4 | exact .there sl5 | exact .there sl6 | exact .there sl7 | exact .there sl8 | exact .there sl9 | exact .there sl10 | exact .there sl11 | exact .there sl12) ?_ | refine Emb.skip ?_)))

theorem Send_dtq {e w L b byPri room q task pri d R} (h : Ok e (dtqP b byPri room q :: L) w) (ho : q.ok room)
    (k : ∀ w', Ok e (dtqP b byPri room (q.send byPri room task pri d).2 :: L) w' → R [.bool (q.send byPri room task pri d).1.1, .int .i64 (q.send byPri room task pri d).1.2.1, .int .i64 (q.send byPri room task pri d).1.2.2] w') : sh12 (some ⟨b, 0, none⟩) task pri d R w := by
  unfold sh12
  unfold DQ.send at k
  refine call11 (TrySend_dtq h ho fun w1 h => ⟨((q.trySend room d).1.1, (q.trySend room d).1.2, ()), rfl, ?_⟩)
  have ho2 := trySend_ok (d := d) ho
  dsimp only
  refine cs.mk (fun hc => ?_) (fun hc => ?_)
  · simp only [hc, if_true] at k
    exact k w1 h
  simp only [hc, Bool.false_eq_true, if_false] at k
  have hq : (q.trySend room d).2 = q ∧ q.V = [] := by
    unfold DQ.trySend at hc ⊢
    split at hc
    · cases hc
    · next hv =>
      split at hc
      · next h5 => rw [hv]; simp only [if_pos h5, and_self]
      · cases hc
  rw [hq.1] at h
  obtain ⟨h1, h2, h3, h4⟩ := ho
  have l1 := okL_len h1
  obtain ⟨p, r, s, m, f, hf, hs, h⟩ := dtqE h
  refine nn.mk (ldP.mk (by refine Ok.cellS h (by with_reducible first | exact sl0 | exact .there sl0 | exact .there sl1 | exact .there sl2 | exact .there sl3 | exact .there sl4 | exact .there sl5 | exact .there sl6 | exact .there sl7 | exact .there sl8 | exact .there sl9 | exact .there sl10 | exact .there sl11 | exact .there sl12) ?_; rfl) (nn.mk ?_))
  refine call36 (Has_order (Ok.emb (h) (.cons (A := lineP r _ _) (by with_reducible first | exact sl0 | exact .there sl0 | exact .there sl1 | exact .there sl2 | exact .there sl3 | exact .there sl4 | exact .there sl5 | exact .there sl6 | exact .there sl7 | exact .there sl8 | exact .there sl9 | exact .there sl10 | exact .there sl11 | exact .there sl12) (.same _))) (by rw [hq.2]; simp) fun w2 h => ⟨(false, ()), by rw [hq.2]; rfl, ?_⟩)
  refine cs.no rfl (nn.mk (ldP.mk (by refine Ok.cellS h (by with_reducible first | exact sl0 | exact .there sl0 | exact .there sl1 | exact .there sl2 | exact .there sl3 | exact .there sl4 | exact .there sl5 | exact .there sl6 | exact .there sl7 | exact .there sl8 | exact .there sl9 | exact .there sl10 | exact .there sl11 | exact .there sl12) ?_; rfl) ?_))
  refine call37 (Add_order (Ok.emb (h) (.cons (A := lineP p _ _) (by with_reducible first | exact sl0 | exact .there sl0 | exact .there sl1 | exact .there sl2 | exact .there sl3 | exact .there sl4 | exact .there sl5 | exact .there sl6 | exact .there sl7 | exact .there sl8 | exact .there sl9 | exact .there sl10 | exact .there sl11 | exact .there sl12) (.same _))) (by omega) fun w3 h => ⟨((addL byPri q.S task pri).1, ()), rfl, ?_⟩)
  dsimp only
  refine cs.mk (fun hc => ?_) (fun hc => ?_)
  · have hc : (addL byPri q.S task pri).1 ≠ 0 := by simpa using hc
    rw [if_neg hc] at k
    refine k w3 (dtqI (q := ⟨(addL byPri q.S task pri).2, q.V, q.D, q.g⟩) (fun i hi => ?_) (h.emb (by repeat' (first | with_reducible exact Emb.same _ | exact Emb.nil _ | refine Emb.cons (by with_reducible first | exact sl0 | exact .there sl0 | exact .there sl1 | exact .there sl2 | exact .there sl3 | exact .there sl4 | exact .there sl5 | exact .there sl6 | exact .there sl7 | exact .there sl8 | exact .there sl9 | exact .there sl10 | exact .there sl11 | exact .there sl12) ?_ | refine Emb.skip ?_))))
    rw [addL_other hc] at hi
    exact hf i hi
  · have hc : (addL byPri q.S task pri).1 = 0 := by simpa using hc
    rw [if_pos hc, hc] at k
    refine nn.mk (ldM.mk (by refine Ok.cellS h (by with_reducible first | exact sl0 | exact .there sl0 | exact .there sl1 | exact .there sl2 | exact .there sl3 | exact .there sl4 | exact .there sl5 | exact .there sl6 | exact .there sl7 | exact .there sl8 | exact .there sl9 | exact .there sl10 | exact .there sl11 | exact .there sl12) ?_; rfl) ?_)
    refine efU.mapUpdate mapT_ii (Ok.emb (h) (.cons (A := mpP m f) (by with_reducible first | exact sl0 | exact .there sl0 | exact .there sl1 | exact .there sl2 | exact .there sl3 | exact .there sl4 | exact .there sl5 | exact .there sl6 | exact .there sl7 | exact .there sl8 | exact .there sl9 | exact .there sl10 | exact .there sl11 | exact .there sl12) (.same _))) fun w4 h => k w4 (dtqI (q := ⟨(addL byPri q.S task pri).2, q.V, q.D, fun i => if i = task then d else q.g i⟩) (fun i hi => ?_) (h.emb (by repeat' (first | with_reducible exact Emb.same _ | exact Emb.nil _ | refine Emb.cons (by with_reducible first | exact sl0 | exact .there sl0 | exact .there sl1 | exact .there sl2 | exact .there sl3 | exact .there sl4 | exact .there sl5 | exact .there sl6 | exact .there sl7 | exact .there sl8 | exact .there sl9 | exact .there sl10 | exact .there sl11 | exact .there sl12) ?_ | refine Emb.skip ?_))))
    by_cases hi2 : i = task
    · subst hi2
      simp [upd]
    · simp only [upd, if_neg hi2]
      rcases addL_mem hi with h5 | h5
      · exact absurd h5.2 hi2
      · exact hf i h5

theorem next_dtq {e w L b byPri room q R} (h : Ok e (dtqP b byPri room q :: L) w) (ho : q.ok room)
    (k0 : q.S = [] → ∀ w', Ok e (dtqP b byPri room q :: L) w' → R [.int .i64 0, .int .i64 0, .bool false] w')
    (k1 : ∀ x r, q.S = x :: r → ∀ w', Ok e (dtqP b byPri room ⟨r, q.V, q.D, q.g⟩ :: L) w' → R [.int .i64 (q.g x.1), .int .i64 x.1, .bool true] w') : sh39 (some ⟨b, 0, none⟩) R w := by
  unfold sh39
  obtain ⟨h1, h2, h3, h4⟩ := ho
  have l1 := okL_len h1
  obtain ⟨p, r, s, m, f, hf, hs, h⟩ := dtqE h
  obtain ⟨S, V, D, g⟩ := q
  dsimp only at *
  refine nn.mk (ldP.mk (by refine Ok.cellS h (by with_reducible first | exact sl0 | exact .there sl0 | exact .there sl1 | exact .there sl2 | exact .there sl3 | exact .there sl4 | exact .there sl5 | exact .there sl6 | exact .there sl7 | exact .there sl8 | exact .there sl9 | exact .there sl10 | exact .there sl11 | exact .there sl12) ?_; rfl) ?_)
  refine call35 (Take_order (Ok.emb (h) (.cons (A := lineP p _ _) (by with_reducible first | exact sl0 | exact .there sl0 | exact .there sl1 | exact .there sl2 | exact .there sl3 | exact .there sl4 | exact .there sl5 | exact .there sl6 | exact .there sl7 | exact .there sl8 | exact .there sl9 | exact .there sl10 | exact .there sl11 | exact .there sl12) (.same _))) (by omega) fun w1 h => ⟨(((S.head?.getD (0, 0)).1, (S.head?.getD (0, 0)).2, ()), !S.isEmpty, ()), rfl, ?_⟩)
  refine al.mk h fun c w2 h => st1.mk h (by simp) fun w3 h => st1.mk h (by simp) fun w4 h => ?_
  dsimp only
  cases S with
  | nil => exact cs.yes rfl (k0 rfl w4 (dtqI (q := ⟨[], V, D, g⟩) hf (h.emb (by repeat' (first | with_reducible exact Emb.same _ | exact Emb.nil _ | refine Emb.cons (by with_reducible first | exact sl0 | exact .there sl0 | exact .there sl1 | exact .there sl2 | exact .there sl3 | exact .there sl4 | exact .there sl5 | exact .there sl6 | exact .there sl7 | exact .there sl8 | exact .there sl9 | exact .there sl10 | exact .there sl11 | exact .there sl12) ?_ | refine Emb.skip ?_)))))
  | cons x S =>
    refine cs.no rfl (dr.mk h fun w5 h => nn.mk (ldM.mk (by refine Ok.cellS h (by with_reducible first | exact sl0 | exact .there sl0 | exact .there sl1 | exact .there sl2 | exact .there sl3 | exact .there sl4 | exact .there sl5 | exact .there sl6 | exact .there sl7 | exact .there sl8 | exact .there sl9 | exact .there sl10 | exact .there sl11 | exact .there sl12) ?_; rfl) (ldI.mk (by refine Ok.cellS h (by with_reducible first | exact sl0 | exact .there sl0 | exact .there sl1 | exact .there sl2 | exact .there sl3 | exact .there sl4 | exact .there sl5 | exact .there sl6 | exact .there sl7 | exact .there sl8 | exact .there sl9 | exact .there sl10 | exact .there sl11 | exact .there sl12) ?_; rfl) ?_)))
    refine ef.lookup mapT_ii (Ok.emb (h) (.cons (A := mpP m f) (by with_reducible first | exact sl0 | exact .there sl0 | exact .there sl1 | exact .there sl2 | exact .there sl3 | exact .there sl4 | exact .there sl5 | exact .there sl6 | exact .there sl7 | exact .there sl8 | exact .there sl9 | exact .there sl10 | exact .there sl11 | exact .there sl12) (.same _))) ((g x.1 : Int), ()) (by show _ = (f x.1).getD _; rw [hf x.1 (List.mem_cons_self ..)]; rfl) ?_
    refine dr.mk h fun w6 h => nn.mk (ldM.mk (by refine Ok.cellS h (by with_reducible first | exact sl0 | exact .there sl0 | exact .there sl1 | exact .there sl2 | exact .there sl3 | exact .there sl4 | exact .there sl5 | exact .there sl6 | exact .there sl7 | exact .there sl8 | exact .there sl9 | exact .there sl10 | exact .there sl11 | exact .there sl12) ?_; rfl) (ldI.mk (by refine Ok.cellS h (by with_reducible first | exact sl0 | exact .there sl0 | exact .there sl1 | exact .there sl2 | exact .there sl3 | exact .there sl4 | exact .there sl5 | exact .there sl6 | exact .there sl7 | exact .there sl8 | exact .there sl9 | exact .there sl10 | exact .there sl11 | exact .there sl12) ?_; rfl) ?_))
    refine ef.delete mapT_ii (Ok.emb (h) (.cons (A := mpP m f) (by with_reducible first | exact sl0 | exact .there sl0 | exact .there sl1 | exact .there sl2 | exact .there sl3 | exact .there sl4 | exact .there sl5 | exact .there sl6 | exact .there sl7 | exact .there sl8 | exact .there sl9 | exact .there sl10 | exact .there sl11 | exact .there sl12) (.same _))) fun w7 h => dr.mk h fun w8 h => ldI.mk (by refine Ok.cellS h (by with_reducible first | exact sl0 | exact .there sl0 | exact .there sl1 | exact .there sl2 | exact .there sl3 | exact .there sl4 | exact .there sl5 | exact .there sl6 | exact .there sl7 | exact .there sl8 | exact .there sl9 | exact .there sl10 | exact .there sl11 | exact .there sl12) ?_; rfl) (k1 x S rfl w8 ?_)
    have ht := okL_tail h1
    refine dtqI (q := ⟨S, V, D, g⟩) (fun i hi => ?_) (h.emb (by repeat' (first | with_reducible exact Emb.same _ | exact Emb.nil _ | refine Emb.cons (by with_reducible first | exact sl0 | exact .there sl0 | exact .there sl1 | exact .there sl2 | exact .there sl3 | exact .there sl4 | exact .there sl5 | exact .there sl6 | exact .there sl7 | exact .there sl8 | exact .there sl9 | exact .there sl10 | exact .there sl11 | exact .there sl12) ?_ | refine Emb.skip ?_)))
    have hne : i ≠ x.1 := fun he => ht.2.1 (he ▸ hi)
    simp only [List.head?_cons, Option.getD_some]
    rw [upd_other hne]
    exact hf i (List.mem_cons_of_mem _ hi)

end Go.Proofs.Ytadnjjnnkhofdaa.B
