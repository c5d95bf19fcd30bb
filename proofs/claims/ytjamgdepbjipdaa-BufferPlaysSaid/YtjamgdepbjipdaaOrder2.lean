/- Contracts of order.Line and order.Queue. -/
import Derived.Test.YtjamgdepbjipdaaOrder
namespace Go.Proofs.Ytjamgdepbjipdaa.B
open Go
set_option linter.unusedVariables false

/-- the line without the one that stands at a place -/
def rmAt (l : List (Int × Int)) (i : Nat) : List (Int × Int) := l.take i ++ l.drop (i + 1)

def rmL (l : List (Int × Int)) (id : Int) : List (Int × Int) := if atI l id < 0 then l else rmAt l (atI l id).toNat

def priL (l : List (Int × Int)) (id : Int) : Int := if atI l id < 0 then 0 else (l[(atI l id).toNat]?.getD (0, 0)).2

/-- where a newcomer is put -/
def pp (l : List (Int × Int)) (y : Int) : Nat → Nat
  | 0 => 0
  | n + 1 => if y < (l[n]?.getD (0, 0)).2 then pp l y n else n + 1

theorem pp_le (l : List (Int × Int)) (y : Int) (n : Nat) : pp l y n ≤ n := by
  induction n with
  | zero => exact Nat.le_refl _
  | succ n ih => unfold pp; split <;> omega

def putK (byPri : Bool) (l : List (Int × Int)) (y : Int) : Nat := if byPri then pp l y l.length else l.length

theorem putK_le (byPri : Bool) (l : List (Int × Int)) (y : Int) : putK byPri l y ≤ l.length := by
  unfold putK; split
  · exact pp_le ..
  · exact Nat.le_refl _

def putL (byPri : Bool) (l : List (Int × Int)) (x : Int × Int) : List (Int × Int) := l.take (putK byPri l x.2) ++ [x] ++ l.drop (putK byPri l x.2)

def addL (byPri : Bool) (l : List (Int × Int)) (id pri : Int) : Int × List (Int × Int) :=
  if id < 1 ∨ id > 16 ∨ pri < 1 ∨ pri > 16 then (-17, l) else if 0 ≤ atI l id then (-41, l) else (0, putL byPri l (id, pri))

def chgL (byPri : Bool) (l : List (Int × Int)) (id pri : Int) : Bool × List (Int × Int) :=
  if atI l id < 0 ∨ pri < 1 ∨ pri > 16 then (false, l) else if byPri then (true, putL byPri (rmL l id) (id, pri)) else (true, l.set (atI l id).toNat (id, pri))

theorem putL_len (byPri : Bool) (l : List (Int × Int)) (x : Int × Int) : (putL byPri l x).length = l.length + 1 := by
  have := putK_le byPri l x.2
  simp [putL]; omega

theorem rmL_len (l : List (Int × Int)) (id : Int) : (rmL l id).length ≤ l.length := by
  unfold rmL; split
  · exact Nat.le_refl _
  · simp [rmAt]; omega

def lineP (p : Nat) (rest : List Value) (l : List (Int × Int)) : SP := fun h => ∃ s, oksH [pts p (vS s :: rest), slc 2 s (prs l)] h

theorem lineE {e w L p rest l} (h : Ok e (lineP p rest l :: L) w) : ∃ s, s.len = l.length ∧ Ok e (pts p (vS s :: rest) :: slc 2 s (prs l) :: L) w := by
  obtain ⟨s, h⟩ := h.exE
  have h := h.unpack
  exact ⟨s, slc_prs_len h.p1, h⟩

theorem lineI {e w L p rest l s} (h : Ok e (pts p (vS s :: rest) :: slc 2 s (prs l) :: L) w) : Ok e (lineP p rest l :: L) w :=
  (Ok.pack (M := [pts p (vS s :: rest), slc 2 s (prs l)]) h).imp fun k hk => ⟨s, hk⟩

theorem IndexFunc_at {e w L s l c id R} (h : Ok e (slc 2 s (prs l) :: pts c [.int .i64 id] :: L) w) (hb : l.length ≤ 2 ^ 31)
    (k : ∀ w', Ok e (slc 2 s (prs l) :: pts c [.int .i64 id] :: L) w' → R [.int .i64 (atI l id)] w') : sh81 s ⟨82, [], [.pointer (some ⟨c, 0, none⟩)]⟩ R w := by
  unfold sh81
  have hl := slc_prs_len h
  refine lp.mk (fun t w' => ∃ n : Nat, t.1 = (n : Int) ∧ n ≤ l.length ∧ (∀ m, m < n → ∀ q, l[m]? = some q → q.1 ≠ id) ∧ Ok e (slc 2 s (prs l) :: pts c [.int .i64 id] :: L) w')
    (fun t _ => l.length - t.1.toNat) ⟨0, rfl, Nat.zero_le _, fun m hm => absurd hm (Nat.not_lt_zero _), h⟩ ?_
  rintro ⟨i, _⟩ w1 ⟨n, hn, hnl, hno, h⟩
  dsimp only at hn
  subst hn
  refine cs.mk (fun hlt => ?_) (fun hge => ?_)
  · have hlt : n < l.length := by have := of_decide_eq_true hlt; dsimp only at this; omega
    refine ix_pr h (by simp) (by simpa using hlt) fun b o p hp ha ho hc1 hc2 => ?_
    refine ldI.mk (hc1 _ ⟨_, h⟩) (ldI.mk (hc2 _ ⟨_, h⟩) ?_)
    refine ob.mk (by kernel_rfl) ?_
    have hp : l[n]? = some p := by simpa using hp
    refine call82 (a0 := (p.1, p.2, ())) (c0 := c) ?_
    unfold sh82
    refine al.mk h fun b1 w2 h => ?_
    refine ldI.mk (h.cell rfl) (ldI.mk (h.p2.cell rfl) ?_)
    refine ⟨(p.1 == id, ()), rfl, ?_⟩
    dsimp only
    refine cs.mk (fun he => ?_) (fun hne => ?_)
    · have he : p.1 = id := by simpa using he
      have := k w2 h.drop
      rw [atI_some hp he hno] at this
      exact this
    · have hne : p.1 ≠ id := by simpa using hne
      refine ⟨⟨n + 1, ?_, hlt, fun m hm q hq => ?_, h.drop⟩, ?_⟩
      · show w64 _ = _
        rw [w64_in (by omega) (by omega)]; rfl
      · rcases Nat.lt_or_ge m n with hm' | hm'
        · exact hno m hm' q hq
        · have : m = n := by omega
          subst this
          rw [hp] at hq
          cases hq
          exact hne
      · show _ - (w64 _).toNat < _ - Int.toNat _
        rw [w64_in (by omega) (by omega)]
        omega
  · have hge : l.length ≤ n := by have := of_decide_eq_false hge; dsimp only at this; omega
    have := k w1 h
    rw [atI_none fun p hp => by
      obtain ⟨m, hm, rfl⟩ := List.getElem_of_mem hp
      exact hno m (by omega) _ (List.getElem?_eq_getElem hm)] at this
    exact this

theorem at_order {e w L p rest l id R} (h : Ok e (lineP p rest l :: L) w) (hb : l.length ≤ 2 ^ 31) (k : ∀ w', Ok e (lineP p rest l :: L) w' → R [.int .i64 (atI l id)] w') : sh62 (some ⟨p, 0, none⟩) id R w := by
  obtain ⟨s, hs, h⟩ := lineE h
  unfold sh62
  refine al.mk h fun b1 w1 h => ?_
  refine nn.mk (ldS.mk (h.p1.cell rfl) ?_)
  refine call81 (a1 := ⟨82, [], [.pointer (some ⟨b1, 0, none⟩)]⟩) (IndexFunc_at (c := b1) (id := id) h.p2 hb fun w2 h => ⟨(atI l id, ()), rfl, ?_⟩)
  dsimp only
  exact k w2 (lineI h.p2.p2.drop)

theorem Has_order {e w L p rest l id R} (h : Ok e (lineP p rest l :: L) w) (hb : l.length ≤ 2 ^ 31) (k : ∀ w', Ok e (lineP p rest l :: L) w' → R [.bool (decide (0 ≤ atI l id))] w') : sh34 (some ⟨p, 0, none⟩) id R w := by
  unfold sh34
  refine call62 (at_order h hb fun w1 h => ⟨(atI l id, ()), rfl, ?_⟩)
  exact k w1 h

theorem Len_order {e w L p rest l R} (h : Ok e (lineP p rest l :: L) w) (k : R [.int .i64 l.length] w) : sh43 (some ⟨p, 0, none⟩) R w := by
  obtain ⟨s, hs, h⟩ := lineE h
  unfold sh43
  (repeat (first | with_reducible refine nn.mk ?_ | ((first | with_reducible apply ldI.mk | with_reducible apply ldB.mk | with_reducible apply ldP.mk | with_reducible apply ldS.mk | with_reducible apply ldM.mk | with_reducible apply ldF.mk | with_reducible apply ldG.mk); (· exact (by refine Ok.cellS h (by with_reducible first | exact sl0 | exact .there sl0 | exact .there sl1 | exact .there sl2 | exact .there sl3 | exact .there sl4 | exact .there sl5 | exact .there sl6 | exact .there sl7 | exact .there sl8 | exact .there sl9 | exact .there sl10 | exact .there sl11 | exact .there sl12) ?_; rfl)))))
  rw [hs]; exact k

theorem Row_order {e w L p rest l R} (h : Ok e (lineP p rest l :: L) w) (hb : l.length ≤ 2 ^ 31) (k : ∀ s w', s.len = l.length → Ok e (slc 2 s (prs l) :: lineP p rest l :: L) w' → R [vS s] w') : sh70 (some ⟨p, 0, none⟩) R w := by
  obtain ⟨s, hs, h⟩ := lineE h
  unfold sh70
  (repeat (first | with_reducible refine nn.mk ?_ | ((first | with_reducible apply ldI.mk | with_reducible apply ldB.mk | with_reducible apply ldP.mk | with_reducible apply ldS.mk | with_reducible apply ldM.mk | with_reducible apply ldF.mk | with_reducible apply ldG.mk); (· exact (by refine Ok.cellS h (by with_reducible first | exact sl0 | exact .there sl0 | exact .there sl1 | exact .there sl2 | exact .there sl3 | exact .there sl4 | exact .there sl5 | exact .there sl6 | exact .there sl7 | exact .there sl8 | exact .there sl9 | exact .there sl10 | exact .there sl11 | exact .there sl12) ?_; rfl)))))
  refine call79 (Clone_item h.p1 (by omega) fun s1 w1 hl1 h => ⟨(s1, ()), rfl, ?_⟩)
  dsimp only
  refine call86 (Clip_item h fun s2 w2 hl2 h => ⟨(s2, ()), rfl, ?_⟩)
  dsimp only
  exact k s2 w2 (by omega) (lineI h.p2.p2.p1).p1

theorem First_order {e w L p rest l R} (h : Ok e (lineP p rest l :: L) w) (k : ∀ w', Ok e (lineP p rest l :: L) w' → R [.agg #[.int .i64 (l.head?.getD (0, 0)).1, .int .i64 (l.head?.getD (0, 0)).2], .bool (!l.isEmpty)] w') : sh68 (some ⟨p, 0, none⟩) R w := by
  obtain ⟨s, hs, h⟩ := lineE h
  unfold sh68
  refine al.mk h fun b1 w1 h => ?_
  refine nn.mk (ldS.mk (h.p1.cell rfl) ?_)
  refine cs.mk (fun h0 => ?_) (fun h0 => ?_)
  · have h0 : l = [] := List.eq_nil_of_length_eq_zero (by have : (s.len : Int) = 0 := by simpa using h0
                                                          omega)
    subst h0
    refine st1.mk h (by simp) fun w2 h => st1.mk h (by simp) fun w3 h => ?_
    refine ldI.mk (h.cell rfl) (ldI.mk (h.cell rfl) ?_)
    exact k w3 (lineI h.drop)
  · have h0 : s.len ≠ 0 := by simpa using h0
    refine nn.mk (ldS.mk (h.p1.cell rfl) ?_)
    refine ix_pr h.p2 (by omega) (by omega) fun b o q hq ha ho hc1 hc2 => ?_
    refine ldI.mk (hc1 _ ⟨_, h.p2⟩) (ldI.mk (hc2 _ ⟨_, h.p2⟩) ?_)
    refine st1.mk h (by simp) fun w2 h => st1.mk h (by simp) fun w3 h => ?_
    refine ldI.mk (h.cell rfl) (ldI.mk (h.cell rfl) ?_)
    have := k w3 (lineI h.drop)
    cases l with
    | nil => simp at hq
    | cons x r =>
      simp at hq
      subst hq
      exact this

theorem Remove_order {e w L p rest l id R} (h : Ok e (lineP p rest l :: L) w) (hb : l.length ≤ 2 ^ 31) (k : ∀ w', Ok e (lineP p rest (rmL l id) :: L) w' → R [.bool (decide (0 ≤ atI l id))] w') : sh53 (some ⟨p, 0, none⟩) id R w := by
  unfold sh53
  refine call62 (at_order h hb fun w1 h => ⟨(atI l id, ()), rfl, ?_⟩)
  dsimp only
  refine cs.mk (fun h0 => ?_) (fun h0 => ?_)
  · have h0 : atI l id < 0 := by simpa using h0
    have := k w1 (by rw [rmL, if_pos h0]; exact h)
    rw [show decide (0 ≤ atI l id) = false by simp; omega] at this
    exact this
  · have h0 : ¬ atI l id < 0 := by simpa using h0
    obtain ⟨hlt, q, hq, hq1⟩ := atI_lt (by omega : 0 ≤ atI l id)
    obtain ⟨s, hs, h⟩ := lineE h
    refine nn.mk (ldS.mk (h.cell rfl) ?_)
    rw [w64_in (by omega) (by omega)]
    refine call76 (Delete_item h.p1 (by omega) (by omega) (by omega) fun s2 w2 h => ⟨(s2, ()), rfl, ?_⟩)
    dsimp only
    refine nn.mk (st1.mk h.p1 (by simp) fun w3 h => ?_)
    have := k w3 (by rw [rmL, if_neg h0]; exact lineI h)
    rw [show decide (0 ≤ atI l id) = true by simp; omega] at this
    exact this

theorem New_order {e w L byPri R} (h : Ok e L w) (k : ∀ p w', Ok e (lineP p [.bool byPri] [] :: L) w' → R [.pointer (some ⟨p, 0, none⟩)] w') : sh33 byPri R w := by
  unfold sh33
  refine al.mk h fun p w1 h => k p w1 ?_
  exact lineI (s := ⟨none, 0, 0⟩) (h.slcNil 2).p1

end Go.Proofs.Ytjamgdepbjipdaa.B
