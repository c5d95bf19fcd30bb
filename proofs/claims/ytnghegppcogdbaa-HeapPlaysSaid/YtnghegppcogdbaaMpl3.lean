/- Contracts of the package mpl: filling, giving back. -/
import Derived.Test.YtnghegppcogdbaaMpl2
namespace Go.Proofs.Ytnghegppcogdbaa.B
open Go
set_option linter.unusedVariables false

theorem New_mpl {e w L byPri a z R} (h : Ok e L w) (k0 : ¬ (0 ≤ a ∧ a ≤ 65536 ∧ a % 8 = 0 ∧ 8 ≤ z ∧ z ≤ 65536 - a ∧ z % 8 = 0) → R [.pointer none, .int .i64 (-17)] w)
    (k1 : 0 ≤ a ∧ a ≤ 65536 ∧ a % 8 = 0 ∧ 8 ≤ z ∧ z ≤ 65536 - a ∧ z % 8 = 0 → ∀ b w', Ok e (mplP b byPri a z ⟨[], [], fun _ => 0⟩ :: L) w' → R [.pointer (some ⟨b, 0, none⟩), .int .i64 0] w') : sh8 byPri a z R w := by
  unfold sh8
  refine jn.bool (decide (¬ (0 ≤ a ∧ a ≤ 65536))) (fun J hJ => ?_) ?_
  · refine cs.mk (fun h1 => ?_) (fun h1 => ?_)
    · have h1 := of_decide_eq_true h1
      rw [decide_eq_true (by omega)] at hJ
      exact hJ
    · have h1 := of_decide_eq_false h1
      rw [show decide (¬ (0 ≤ a ∧ a ≤ 65536)) = decide (a > 65536) from decide_eq_decide.2 (by omega)] at hJ
      exact hJ
  refine jn.bool (decide (¬ (0 ≤ a ∧ a ≤ 65536 ∧ a % 8 = 0))) (fun J hJ => ?_) ?_
  · refine cs.mk (fun h1 => ?_) (fun h1 => ?_)
    · have h1 := of_decide_eq_true h1
      rw [decide_eq_true (by omega)] at hJ
      exact hJ
    · have h1 := of_decide_eq_false h1
      rw [show decide (¬ (0 ≤ a ∧ a ≤ 65536 ∧ a % 8 = 0)) = (Int.tmod a 8 != 0) by
        rw [Int.tmod_eq_emod_of_nonneg (by omega), Bool.eq_iff_iff, decide_eq_true_iff, bne_iff_ne]; omega] at hJ
      exact hJ
  refine jn.bool (decide (¬ (0 ≤ a ∧ a ≤ 65536 ∧ a % 8 = 0 ∧ 8 ≤ z))) (fun J hJ => ?_) ?_
  · refine cs.mk (fun h1 => ?_) (fun h1 => ?_)
    · have h1 := of_decide_eq_true h1
      rw [decide_eq_true (by omega)] at hJ
      exact hJ
    · have h1 := of_decide_eq_false h1
      rw [show decide (¬ (0 ≤ a ∧ a ≤ 65536 ∧ a % 8 = 0 ∧ 8 ≤ z)) = decide (z < 8) from decide_eq_decide.2 (by omega)] at hJ
      exact hJ
  refine jn.bool (decide (¬ (0 ≤ a ∧ a ≤ 65536 ∧ a % 8 = 0 ∧ 8 ≤ z ∧ z ≤ 65536 - a))) (fun J hJ => ?_) ?_
  · refine cs.mk (fun h1 => ?_) (fun h1 => ?_)
    · have h1 := of_decide_eq_true h1
      rw [decide_eq_true (by omega)] at hJ
      exact hJ
    · have h1 := of_decide_eq_false h1
      rw [w64_in (x := 65536 - a) (by omega) (by omega)]
      rw [show decide (¬ (0 ≤ a ∧ a ≤ 65536 ∧ a % 8 = 0 ∧ 8 ≤ z ∧ z ≤ 65536 - a)) = decide (z > 65536 - a) from decide_eq_decide.2 (by omega)] at hJ
      exact hJ
  refine jn.bool (decide (¬ (0 ≤ a ∧ a ≤ 65536 ∧ a % 8 = 0 ∧ 8 ≤ z ∧ z ≤ 65536 - a ∧ z % 8 = 0))) (fun J hJ => ?_) ?_
  · refine cs.mk (fun h1 => ?_) (fun h1 => ?_)
    · have h1 := of_decide_eq_true h1
      rw [decide_eq_true (by omega)] at hJ
      exact hJ
    · have h1 := of_decide_eq_false h1
      rw [show decide (¬ (0 ≤ a ∧ a ≤ 65536 ∧ a % 8 = 0 ∧ 8 ≤ z ∧ z ≤ 65536 - a ∧ z % 8 = 0)) = (Int.tmod z 8 != 0) by
        rw [Int.tmod_eq_emod_of_nonneg (by omega), Bool.eq_iff_iff, decide_eq_true_iff, bne_iff_ne]; omega] at hJ
      exact hJ
  refine cs.mk (fun h1 => k0 (of_decide_eq_true h1)) (fun h1 => ?_)
  have h1 := Decidable.not_not.1 (of_decide_eq_false h1)
  refine call31 (New_order h fun p w1 h => ⟨(some ⟨p, 0, none⟩, ()), rfl, ?_⟩)
  refine ef.makeMap h fun m w3 h => ?_
  refine al.mk h fun b w4 h => k1 h1 b w4 ?_
  refine mplI (p := p) (s := ⟨none, 0, 0⟩) (m := m) (f := fun _ => none) (q := ⟨[], [], fun _ => 0⟩) (fun i hi => by simp at hi) ?_
  have h := h.slcNil 2
  have h := (Ok.emb (h) (.cons (A := pts b _) (by with_reducible first | exact sl0 | exact .there sl0 | exact .there sl1 | exact .there sl2 | exact .there sl3 | exact .there sl4 | exact .there sl5 | exact .there sl6 | exact .there sl7 | exact .there sl8 | exact .there sl9 | exact .there sl10 | exact .there sl11 | exact .there sl12) (.cons (A := lineP p _ _) (by with_reducible first | exact sl0 | exact .there sl0 | exact .there sl1 | exact .there sl2 | exact .there sl3 | exact .there sl4 | exact .there sl5 | exact .there sl6 | exact .there sl7 | exact .there sl8 | exact .there sl9 | exact .there sl10 | exact .there sl11 | exact .there sl12) (.cons (A := slc 2 _ _) (by with_reducible first | exact sl0 | exact .there sl0 | exact .there sl1 | exact .there sl2 | exact .there sl3 | exact .there sl4 | exact .there sl5 | exact .there sl6 | exact .there sl7 | exact .there sl8 | exact .there sl9 | exact .there sl10 | exact .there sl11 | exact .there sl12) (.cons (A := mpP m _) (by with_reducible first | exact sl0 | exact .there sl0 | exact .there sl1 | exact .there sl2 | exact .there sl3 | exact .there sl4 | exact .there sl5 | exact .there sl6 | exact .there sl7 | exact .there sl8 | exact .there sl9 | exact .there sl10 | exact .there sl11 | exact .there sl12) (.same _))))))
  exact h

theorem lp0_ok {a z : Int} (h : 0 ≤ a ∧ a ≤ 65536 ∧ a % 8 = 0 ∧ 8 ≤ z ∧ z ≤ 65536 - a ∧ z % 8 = 0) : LPo a z ⟨[], [], fun _ => 0⟩ :=
  ⟨by omega, okL_nil, by show a ≤ a + z; omega, fun i hi => by simp at hi⟩

/-- those that wait have theirs, as long as the first one finds a gap -/
def fillL (a hi : Int) (g : Int → Int) : List (Int × Int) → List (Int × Int) → List (Int × Int) × List (Int × Int) × List (Int × Int)
  | [], L => ([], [], L)
  | x :: r, L => if (findL a hi L (g x.1)).1.2 then ((x.1, (findL a hi L (g x.1)).1.1) :: (fillL a hi g r (findL a hi L (g x.1)).2).1, (fillL a hi g r (findL a hi L (g x.1)).2).2) else ([], x :: r, L)

def LP.fill (a z : Int) (q : LP) : List (Int × Int) × LP := ((fillL a (a + z) q.g q.S q.L).1, ⟨(fillL a (a + z) q.g q.S q.L).2.1, (fillL a (a + z) q.g q.S q.L).2.2, q.g⟩)

theorem findL_no {a hi n : Int} {l : List (Int × Int)} (h : (findL a hi l n).1.2 = false) : (findL a hi l n).2 = l := by
  unfold findL at h ⊢
  split at h
  · cases h
  · rfl

theorem fillL_ok {a z : Int} {g : Int → Int} : ∀ {S L : List (Int × Int)}, LPo a z ⟨S, L, g⟩ → LPo a z ⟨(fillL a (a + z) g S L).2.1, (fillL a (a + z) g S L).2.2, g⟩
  | [], _, h => h
  | x :: r, L, h => by
    unfold fillL
    split
    · refine fillL_ok (S := r) ⟨h.c, (okL_tail h.line).1, ?_, fun i hi => h.want i (List.mem_cons_of_mem _ hi)⟩
      exact findL_ok (h.want x.1 (List.mem_cons_self ..)).1 h.ch
    · exact h

theorem fill_ok {a z q} (h : LPo a z q) : LPo a z (q.fill a z).2 := fillL_ok h

theorem prs_snoc (l : List (Int × Int)) (x y : Int) : prs l ++ [.int .i64 x, .int .i64 y] = prs (l ++ [(x, y)]) := by rw [prs_append]; rfl

theorem slT_wok : SlT Pg 33 2 := .of (by kernel_rfl)

theorem Clip_wok {e w L s vs R} (h : Ok e (slc 2 s vs :: L) w) (k : ∀ s' w', s'.len = s.len → Ok e (slc 2 s' vs :: L) w' → R [vS s'] w') : sh65 s R w := by
  unfold sh65
  exact sb.clip h fun s' hl h' => k s' w hl h'

set_option maxHeartbeats 2000000 in
theorem fill_mpl {e w L b byPri a z q R} (h : Ok e (mplP b byPri a z q :: L) w) (ho : LPo a z q)
    (k : ∀ r w', r.len = (q.fill a z).1.length → Ok e (slc 2 r (prs (q.fill a z).1) :: mplP b byPri a z (q.fill a z).2 :: L) w' → R [vS r] w') : sh38 (some ⟨b, 0, none⟩) R w := by
  unfold sh38
  have hS0 := okL_len ho.line
  obtain ⟨p, s, m, f, hf, hs, h⟩ := mplE h
  refine nn.mk (ldP.mk (by refine Ok.cellS h (by with_reducible first | exact sl0 | exact .there sl0 | exact .there sl1 | exact .there sl2 | exact .there sl3 | exact .there sl4 | exact .there sl5 | exact .there sl6 | exact .there sl7 | exact .there sl8 | exact .there sl9 | exact .there sl10 | exact .there sl11 | exact .there sl12) ?_; rfl) (nn.mk ?_))
  refine call58 (First_order (Ok.emb (h) (.cons (A := lineP p _ _) (by with_reducible first | exact sl0 | exact .there sl0 | exact .there sl1 | exact .there sl2 | exact .there sl3 | exact .there sl4 | exact .there sl5 | exact .there sl6 | exact .there sl7 | exact .there sl8 | exact .there sl9 | exact .there sl10 | exact .there sl11 | exact .there sl12) (.same _))) fun w1 h => ⟨(((q.S.head?.getD (0, 0)).1, (q.S.head?.getD (0, 0)).2, ()), !q.S.isEmpty, ()), rfl, ?_⟩)
  refine al.mk h fun bx w2 h => st1.mk h (by simp) fun w3 h => st1.mk h (by simp) fun w4 h => ?_
  dsimp only [List.set, List.tail_cons, List.tail_nil, List.head?_cons, List.head?_nil, Option.getD_some, Option.getD_none] at h
  dsimp only
  have h := mplI (q := q) (p := p) (s := s) (m := m) hf (Ok.emb (h) (.cons (A := pts b _) (by with_reducible first | exact sl0 | exact .there sl0 | exact .there sl1 | exact .there sl2 | exact .there sl3 | exact .there sl4 | exact .there sl5 | exact .there sl6 | exact .there sl7 | exact .there sl8 | exact .there sl9 | exact .there sl10 | exact .there sl11 | exact .there sl12) (.cons (A := lineP p _ _) (by with_reducible first | exact sl0 | exact .there sl0 | exact .there sl1 | exact .there sl2 | exact .there sl3 | exact .there sl4 | exact .there sl5 | exact .there sl6 | exact .there sl7 | exact .there sl8 | exact .there sl9 | exact .there sl10 | exact .there sl11 | exact .there sl12) (.cons (A := slc 2 s _) (by with_reducible first | exact sl0 | exact .there sl0 | exact .there sl1 | exact .there sl2 | exact .there sl3 | exact .there sl4 | exact .there sl5 | exact .there sl6 | exact .there sl7 | exact .there sl8 | exact .there sl9 | exact .there sl10 | exact .there sl11 | exact .there sl12) (.cons (A := mpP m f) (by with_reducible first | exact sl0 | exact .there sl0 | exact .there sl1 | exact .there sl2 | exact .there sl3 | exact .there sl4 | exact .there sl5 | exact .there sl6 | exact .there sl7 | exact .there sl8 | exact .there sl9 | exact .there sl10 | exact .there sl11 | exact .there sl12) (.same _))))))
  have h := h.slcNil 2
  refine lp.mk (fun t w' => ∃ (bx : Nat) (o S2 L2 : List (Int × Int)), t.2.1 = (bx, 0) ∧ t.2.2.1 = !S2.isEmpty ∧ LPo a z ⟨S2, L2, q.g⟩ ∧ q.fill a z = (o ++ (LP.fill a z ⟨S2, L2, q.g⟩).1, (LP.fill a z ⟨S2, L2, q.g⟩).2) ∧ o.length + S2.length = q.S.length ∧
      Ok e (slc 2 t.1 (prs o) :: pts bx [.int .i64 (S2.head?.getD (0, 0)).1, .int .i64 (S2.head?.getD (0, 0)).2] :: mplP b byPri a z ⟨S2, L2, q.g⟩ :: L) w')
    (fun t _ => q.S.length - t.1.len) ⟨bx, [], q.S, q.L, rfl, rfl, ho, rfl, by simp, ?_⟩ ?_
  · show Ok e (slc 2 ⟨none, 0, 0⟩ [] :: pts bx _ :: mplP b byPri a z q :: L) w4
    exact (h.emb (by repeat' (first | with_reducible exact Emb.same _ | exact Emb.nil _ | refine Emb.cons (by with_reducible first | exact sl0 | exact .there sl0 | exact .there sl1 | exact .there sl2 | exact .there sl3 | exact .there sl4 | exact .there sl5 | exact .there sl6 | exact .there sl7 | exact .there sl8 | exact .there sl9 | exact .there sl10 | exact .there sl11 | exact .there sl12) ?_ | refine Emb.skip ?_)))
  clear h hf hs
  rintro ⟨so, tb, ok, _⟩ w5 ⟨bx, o, S2, L2, htb, hok, ho2, hfill, hlen, h⟩
  dsimp only at htb hok h
  subst htb hok
  have hso := slc_prs_len h
  cases S2 with
  | nil =>
    refine cs.no rfl ?_
    refine call65 (Clip_wok h fun s1 w6 hl1 h => ⟨(s1, ()), rfl, ?_⟩)
    have e1 : LP.fill a z ⟨[], L2, q.g⟩ = ([], ⟨[], L2, q.g⟩) := rfl
    rw [e1, List.append_nil] at hfill
    rw [hfill] at k
    exact k s1 w6 (by dsimp only at hl1 ⊢; omega) (h.emb (by repeat' (first | with_reducible exact Emb.same _ | exact Emb.nil _ | refine Emb.cons (by with_reducible first | exact sl0 | exact .there sl0 | exact .there sl1 | exact .there sl2 | exact .there sl3 | exact .there sl4 | exact .there sl5 | exact .there sl6 | exact .there sl7 | exact .there sl8 | exact .there sl9 | exact .there sl10 | exact .there sl11 | exact .there sl12) ?_ | refine Emb.skip ?_)))
  | cons x r =>
    have hwx := ho2.want x.1 (List.mem_cons_self ..)
    have hor := okL_tail ho2.line
    have hrl := okL_len ho2.line
    dsimp only at hwx
    simp only [List.head?_cons, Option.getD_some] at h
    refine cs.yes rfl (dr.mk h fun w6 h => ?_)
    obtain ⟨p, s, m, f, hf, hs, h⟩ := mplE (Ok.emb (h) (.cons (A := mplP b _ _ _ _) (by with_reducible first | exact sl0 | exact .there sl0 | exact .there sl1 | exact .there sl2 | exact .there sl3 | exact .there sl4 | exact .there sl5 | exact .there sl6 | exact .there sl7 | exact .there sl8 | exact .there sl9 | exact .there sl10 | exact .there sl11 | exact .there sl12) (.same _)))
    refine nn.mk (ldM.mk (by refine Ok.cellS h (by with_reducible first | exact sl0 | exact .there sl0 | exact .there sl1 | exact .there sl2 | exact .there sl3 | exact .there sl4 | exact .there sl5 | exact .there sl6 | exact .there sl7 | exact .there sl8 | exact .there sl9 | exact .there sl10 | exact .there sl11 | exact .there sl12) ?_; rfl) (ldI.mk (by refine Ok.cellS h (by with_reducible first | exact sl0 | exact .there sl0 | exact .there sl1 | exact .there sl2 | exact .there sl3 | exact .there sl4 | exact .there sl5 | exact .there sl6 | exact .there sl7 | exact .there sl8 | exact .there sl9 | exact .there sl10 | exact .there sl11 | exact .there sl12) ?_; rfl) ?_))
    refine ef.lookup mapT_ii (Ok.emb (h) (.cons (A := mpP m f) (by with_reducible first | exact sl0 | exact .there sl0 | exact .there sl1 | exact .there sl2 | exact .there sl3 | exact .there sl4 | exact .there sl5 | exact .there sl6 | exact .there sl7 | exact .there sl8 | exact .there sl9 | exact .there sl10 | exact .there sl11 | exact .there sl12) (.same _))) ((q.g x.1 : Int), ()) (by show _ = (f x.1).getD _; rw [hf x.1 (List.mem_cons_self ..)]; rfl) ?_
    have h := mplI (q := ⟨x :: r, L2, q.g⟩) (p := p) (s := s) (m := m) hf (Ok.emb (h) (.cons (A := pts b _) (by with_reducible first | exact sl0 | exact .there sl0 | exact .there sl1 | exact .there sl2 | exact .there sl3 | exact .there sl4 | exact .there sl5 | exact .there sl6 | exact .there sl7 | exact .there sl8 | exact .there sl9 | exact .there sl10 | exact .there sl11 | exact .there sl12) (.cons (A := lineP p _ _) (by with_reducible first | exact sl0 | exact .there sl0 | exact .there sl1 | exact .there sl2 | exact .there sl3 | exact .there sl4 | exact .there sl5 | exact .there sl6 | exact .there sl7 | exact .there sl8 | exact .there sl9 | exact .there sl10 | exact .there sl11 | exact .there sl12) (.cons (A := slc 2 s _) (by with_reducible first | exact sl0 | exact .there sl0 | exact .there sl1 | exact .there sl2 | exact .there sl3 | exact .there sl4 | exact .there sl5 | exact .there sl6 | exact .there sl7 | exact .there sl8 | exact .there sl9 | exact .there sl10 | exact .there sl11 | exact .there sl12) (.cons (A := mpP m f) (by with_reducible first | exact sl0 | exact .there sl0 | exact .there sl1 | exact .there sl2 | exact .there sl3 | exact .there sl4 | exact .there sl5 | exact .there sl6 | exact .there sl7 | exact .there sl8 | exact .there sl9 | exact .there sl10 | exact .there sl11 | exact .there sl12) (.same _))))))
    refine call33 (find_mpl h ho2 hwx fun w7 h => ⟨((findL a (a + z) L2 (q.g x.1)).1.1, (findL a (a + z) L2 (q.g x.1)).1.2, ()), rfl, ?_⟩)
    have ho3 := find_ok hwx.1 ho2
    dsimp only
    refine cs.mk (fun hc => ?_) (fun hc => ?_)
    · have hc : (findL a (a + z) L2 (q.g x.1)).1.2 = false := by simpa using hc
      have e1 : LP.fill a z ⟨x :: r, L2, q.g⟩ = ([], ⟨x :: r, L2, q.g⟩) := by
        unfold LP.fill
        dsimp only
        rw [fillL, if_neg (by rw [hc]; simp)]
      have e2 : (LP.find a z ⟨x :: r, L2, q.g⟩ (q.g x.1)).2 = ⟨x :: r, L2, q.g⟩ := by
        unfold LP.find
        dsimp only
        rw [findL_no hc]
      rw [e2] at h
      rw [e1, List.append_nil] at hfill
      refine call65 (Clip_wok (Ok.emb (h) (.cons (A := slc 2 so _) (by with_reducible first | exact sl0 | exact .there sl0 | exact .there sl1 | exact .there sl2 | exact .there sl3 | exact .there sl4 | exact .there sl5 | exact .there sl6 | exact .there sl7 | exact .there sl8 | exact .there sl9 | exact .there sl10 | exact .there sl11 | exact .there sl12) (.same _))) fun s1 w8 hl1 h => ⟨(s1, ()), rfl, ?_⟩)
      rw [hfill] at k
      exact k s1 w8 (by dsimp only at hl1 ⊢; omega) (h.emb (by repeat' (first | with_reducible exact Emb.same _ | exact Emb.nil _ | refine Emb.cons (by with_reducible first | exact sl0 | exact .there sl0 | exact .there sl1 | exact .there sl2 | exact .there sl3 | exact .there sl4 | exact .there sl5 | exact .there sl6 | exact .there sl7 | exact .there sl8 | exact .there sl9 | exact .there sl10 | exact .there sl11 | exact .there sl12) ?_ | refine Emb.skip ?_)))
    · have hc : (findL a (a + z) L2 (q.g x.1)).1.2 = true := by simpa using hc
      obtain ⟨nat', hat⟩ : ∃ y, y = (findL a (a + z) L2 (q.g x.1)).1.1 := ⟨_, rfl⟩
      obtain ⟨L3, hL3⟩ : ∃ y, y = (findL a (a + z) L2 (q.g x.1)).2 := ⟨_, rfl⟩
      have e1 : LP.fill a z ⟨x :: r, L2, q.g⟩ = ((x.1, nat') :: (LP.fill a z ⟨r, L3, q.g⟩).1, (LP.fill a z ⟨r, L3, q.g⟩).2) := by
        unfold LP.fill
        dsimp only
        rw [fillL, if_pos hc, ← hat, ← hL3]
      have e2 : (LP.find a z ⟨x :: r, L2, q.g⟩ (q.g x.1)).2 = ⟨x :: r, L3, q.g⟩ := by
        unfold LP.find
        dsimp only
        rw [← hL3]
      rw [e2] at h ho3
      rw [← hat]
      refine dr.mk h fun w8 h => ?_
      obtain ⟨p, s, m, f, hf, hs, h⟩ := mplE (Ok.emb (h) (.cons (A := mplP b _ _ _ _) (by with_reducible first | exact sl0 | exact .there sl0 | exact .there sl1 | exact .there sl2 | exact .there sl3 | exact .there sl4 | exact .there sl5 | exact .there sl6 | exact .there sl7 | exact .there sl8 | exact .there sl9 | exact .there sl10 | exact .there sl11 | exact .there sl12) (.same _)))
      refine nn.mk (ldP.mk (by refine Ok.cellS h (by with_reducible first | exact sl0 | exact .there sl0 | exact .there sl1 | exact .there sl2 | exact .there sl3 | exact .there sl4 | exact .there sl5 | exact .there sl6 | exact .there sl7 | exact .there sl8 | exact .there sl9 | exact .there sl10 | exact .there sl11 | exact .there sl12) ?_; rfl) (nn.mk (ldI.mk (by refine Ok.cellS h (by with_reducible first | exact sl0 | exact .there sl0 | exact .there sl1 | exact .there sl2 | exact .there sl3 | exact .there sl4 | exact .there sl5 | exact .there sl6 | exact .there sl7 | exact .there sl8 | exact .there sl9 | exact .there sl10 | exact .there sl11 | exact .there sl12) ?_; rfl) ?_)))
      refine call45 (Remove_order (Ok.emb (h) (.cons (A := lineP p _ _) (by with_reducible first | exact sl0 | exact .there sl0 | exact .there sl1 | exact .there sl2 | exact .there sl3 | exact .there sl4 | exact .there sl5 | exact .there sl6 | exact .there sl7 | exact .there sl8 | exact .there sl9 | exact .there sl10 | exact .there sl11 | exact .there sl12) (.same _))) (by dsimp only at hrl ⊢; omega) fun w9 h => ⟨(decide (0 ≤ atI (x :: r) x.1), ()), rfl, ?_⟩)
      rw [rmL_head] at h
      refine dr.mk h fun w10 h => nn.mk (ldM.mk (by refine Ok.cellS h (by with_reducible first | exact sl0 | exact .there sl0 | exact .there sl1 | exact .there sl2 | exact .there sl3 | exact .there sl4 | exact .there sl5 | exact .there sl6 | exact .there sl7 | exact .there sl8 | exact .there sl9 | exact .there sl10 | exact .there sl11 | exact .there sl12) ?_; rfl) (ldI.mk (by refine Ok.cellS h (by with_reducible first | exact sl0 | exact .there sl0 | exact .there sl1 | exact .there sl2 | exact .there sl3 | exact .there sl4 | exact .there sl5 | exact .there sl6 | exact .there sl7 | exact .there sl8 | exact .there sl9 | exact .there sl10 | exact .there sl11 | exact .there sl12) ?_; rfl) ?_))
      refine ef.delete mapT_ii (Ok.emb (h) (.cons (A := mpP m f) (by with_reducible first | exact sl0 | exact .there sl0 | exact .there sl1 | exact .there sl2 | exact .there sl3 | exact .there sl4 | exact .there sl5 | exact .there sl6 | exact .there sl7 | exact .there sl8 | exact .there sl9 | exact .there sl10 | exact .there sl11 | exact .there sl12) (.same _))) fun w11 h => ldI.mk (by refine Ok.cellS h (by with_reducible first | exact sl0 | exact .there sl0 | exact .there sl1 | exact .there sl2 | exact .there sl3 | exact .there sl4 | exact .there sl5 | exact .there sl6 | exact .there sl7 | exact .there sl8 | exact .there sl9 | exact .there sl10 | exact .there sl11 | exact .there sl12) ?_; rfl) ?_
      refine al.mk h fun c w12 h => ?_
      dsimp only at hrl hlen
      simp only [List.length_cons] at hrl hlen
      refine ef.append1 (n := 1) slT_wok (by decide) (Ok.emb (h) (.cons (A := pts c _) (by with_reducible first | exact sl0 | exact .there sl0 | exact .there sl1 | exact .there sl2 | exact .there sl3 | exact .there sl4 | exact .there sl5 | exact .there sl6 | exact .there sl7 | exact .there sl8 | exact .there sl9 | exact .there sl10 | exact .there sl11 | exact .there sl12) (.cons (A := slc 2 so _) (by with_reducible first | exact sl0 | exact .there sl0 | exact .there sl1 | exact .there sl2 | exact .there sl3 | exact .there sl4 | exact .there sl5 | exact .there sl6 | exact .there sl7 | exact .there sl8 | exact .there sl9 | exact .there sl10 | exact .there sl11 | exact .there sl12) (.same _)))) rfl (by intro v hv; simp at hv; rcases hv with rfl | rfl <;> rfl) (by omega) fun s2 w13 hl2 h => ?_
      rw [prs_snoc] at h
      refine ldI.mk (by refine Ok.cellS h (by with_reducible first | exact sl0 | exact .there sl0 | exact .there sl1 | exact .there sl2 | exact .there sl3 | exact .there sl4 | exact .there sl5 | exact .there sl6 | exact .there sl7 | exact .there sl8 | exact .there sl9 | exact .there sl10 | exact .there sl11 | exact .there sl12) ?_; rfl) (ldI.mk (by refine Ok.cellS h (by with_reducible first | exact sl0 | exact .there sl0 | exact .there sl1 | exact .there sl2 | exact .there sl3 | exact .there sl4 | exact .there sl5 | exact .there sl6 | exact .there sl7 | exact .there sl8 | exact .there sl9 | exact .there sl10 | exact .there sl11 | exact .there sl12) ?_; rfl) ?_)
      refine al.mk h fun by' w14 h => st1.mk h (by simp) fun w15 h => st1.mk h (by simp) fun w16 h => ?_
      dsimp only [List.set, List.tail_cons, List.tail_nil, List.head?_cons, List.head?_nil, Option.getD_some, Option.getD_none] at h
      refine nn.mk (ldP.mk (by refine Ok.cellS h (by with_reducible first | exact sl0 | exact .there sl0 | exact .there sl1 | exact .there sl2 | exact .there sl3 | exact .there sl4 | exact .there sl5 | exact .there sl6 | exact .there sl7 | exact .there sl8 | exact .there sl9 | exact .there sl10 | exact .there sl11 | exact .there sl12) ?_; rfl) (nn.mk ?_))
      refine call58 (First_order (Ok.emb (h) (.cons (A := lineP p _ _) (by with_reducible first | exact sl0 | exact .there sl0 | exact .there sl1 | exact .there sl2 | exact .there sl3 | exact .there sl4 | exact .there sl5 | exact .there sl6 | exact .there sl7 | exact .there sl8 | exact .there sl9 | exact .there sl10 | exact .there sl11 | exact .there sl12) (.same _))) fun w17 h => ⟨(((r.head?.getD (0, 0)).1, (r.head?.getD (0, 0)).2, ()), !r.isEmpty, ()), rfl, ?_⟩)
      refine st1.mk (Ok.emb (h) (.cons (A := pts by' _) (by with_reducible first | exact sl0 | exact .there sl0 | exact .there sl1 | exact .there sl2 | exact .there sl3 | exact .there sl4 | exact .there sl5 | exact .there sl6 | exact .there sl7 | exact .there sl8 | exact .there sl9 | exact .there sl10 | exact .there sl11 | exact .there sl12) (.same _))) (by simp) fun w18 h => st1.mk h (by simp) fun w19 h => ?_
      dsimp only [List.set] at h
      have h := mplI (q := ⟨r, L3, q.g⟩) (p := p) (s := s) (m := m) (f := upd f x.1 none) (fun i hi => by
        have hne : i ≠ x.1 := fun he => hor.2.1 (he ▸ hi)
        rw [upd_other hne]
        exact hf i (List.mem_cons_of_mem _ hi)) (Ok.emb (h) (.cons (A := pts b _) (by with_reducible first | exact sl0 | exact .there sl0 | exact .there sl1 | exact .there sl2 | exact .there sl3 | exact .there sl4 | exact .there sl5 | exact .there sl6 | exact .there sl7 | exact .there sl8 | exact .there sl9 | exact .there sl10 | exact .there sl11 | exact .there sl12) (.cons (A := lineP p _ _) (by with_reducible first | exact sl0 | exact .there sl0 | exact .there sl1 | exact .there sl2 | exact .there sl3 | exact .there sl4 | exact .there sl5 | exact .there sl6 | exact .there sl7 | exact .there sl8 | exact .there sl9 | exact .there sl10 | exact .there sl11 | exact .there sl12) (.cons (A := slc 2 s _) (by with_reducible first | exact sl0 | exact .there sl0 | exact .there sl1 | exact .there sl2 | exact .there sl3 | exact .there sl4 | exact .there sl5 | exact .there sl6 | exact .there sl7 | exact .there sl8 | exact .there sl9 | exact .there sl10 | exact .there sl11 | exact .there sl12) (.cons (A := mpP m _) (by with_reducible first | exact sl0 | exact .there sl0 | exact .there sl1 | exact .there sl2 | exact .there sl3 | exact .there sl4 | exact .there sl5 | exact .there sl6 | exact .there sl7 | exact .there sl8 | exact .there sl9 | exact .there sl10 | exact .there sl11 | exact .there sl12) (.same _))))))
      refine ⟨⟨by', o ++ [(x.1, nat')], r, L3, rfl, rfl, ⟨ho3.c, hor.1, ho3.ch, fun i hi => ho3.want i (List.mem_cons_of_mem _ hi)⟩, ?_, by simp; omega, (h.emb (by repeat' (first | with_reducible exact Emb.same _ | exact Emb.nil _ | refine Emb.cons (by with_reducible first | exact sl0 | exact .there sl0 | exact .there sl1 | exact .there sl2 | exact .there sl3 | exact .there sl4 | exact .there sl5 | exact .there sl6 | exact .there sl7 | exact .there sl8 | exact .there sl9 | exact .there sl10 | exact .there sl11 | exact .there sl12) ?_ | refine Emb.skip ?_)))⟩, ?_⟩
      · rw [hfill, e1]
        simp
      · show q.S.length - s2.len < q.S.length - so.len
        omega

end Go.Proofs.Ytnghegppcogdbaa.B
