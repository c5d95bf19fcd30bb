/- Contracts of the package arena. -/
import Derived.Test.YtjamgdepbjipdaaBytes
import Derived.Test.YtjamgdepbjipdaaInts
namespace Go.Proofs.Ytjamgdepbjipdaa.B
open Go
set_option linter.unusedVariables false

theorem slT_b : SlT Pg 28 1 := .of (by kernel_rfl)

theorem bsT : BsT Pg 28 9 := .of (by kernel_rfl)

theorem mkT_b : MkT Pg 28 := .of (by kernel_rfl)

theorem mkB : ∃ el, Pg.underlying 28 = some (.slice el) ∧ Pg.underlying el = some (.int .u8) := let ⟨el, h1, h2, _⟩ := bsT.ex; ⟨el, h1, h2⟩

theorem int_i64 : Pg.underlying 3 = some (.int .i64) := by kernel_rfl

/-- bytes, copied -/
theorem Clone_b {e w A L x l R} (h : Ok e (A :: L) w) (r : RdB e A x l) (hb : l.length ≤ 2 ^ 31) (k : ∀ s w', s.len = l.length → Ok e (slc 1 s (by8 l) :: A :: L) w' → R [vS s] w') : sh36 x R w := by
  unfold sh36
  have hlen := r.len
  refine cs.mk (fun hn => ?_) (fun hn => ?_)
  · have hxa : x.a = none := by simpa using hn
    have e1 := r.none hxa
    subst e1
    exact k ⟨none, 0, 0⟩ w rfl (h.slcNil 1)
  · refine al.mk h fun b w1 h => ?_
    have h := h.slcNew (n := 0) (sz := 1) rfl (by simp)
    refine ef.append slT_b (by decide) h (by rw [by8_len]; omega) (fun ha => by rw [r.none ha]; rfl) (fun a ha => r.cells h.p1 ha) by8_one (by simp only; omega) fun s' w2 hl2 h => ?_
    rw [List.nil_append] at h
    exact k s' w2 (by simp only at hl2; omega) h

theorem Clip_b {e w L s vs R} (h : Ok e (slc 1 s vs :: L) w) (k : ∀ s', s'.len = s.len → Ok e (slc 1 s' vs :: L) w → R [vS s'] w) : sh40 s R w := by
  unfold sh40
  exact sb.clip h fun s' hl h => k s' hl h

theorem Grow_nil {e w L R} {n : Nat} (h : Ok e L w) (hn : n ≤ 2 ^ 31) (k : ∀ s w', s.len = 0 → Ok e (slc 1 s [] :: L) w' → R [vS s] w') : sh93 ⟨none, 0, 0⟩ n R w := by
  unfold sh93
  have e1 : w64 ((n : Int) - (w64 ((0 : Nat) - (0 : Nat) : Int))) = (n : Int) := by
    rw [w64_in (x := ((0 : Nat) - (0 : Nat) : Int)) (by omega) (by omega), w64_in (by omega) (by omega)]; omega
  refine jn.at () (fun w' => Ok e L w') (fun J hJ => cs.no (decide_eq_false (by omega)) (hJ w h)) (fun w1 h => ?_)
  dsimp only
  rw [e1]
  refine cs.mk (fun h1 => ?_) (fun h1 => k ⟨none, 0, 0⟩ w1 rfl (h.slcNil 1))
  have h1 := of_decide_eq_true h1
  refine ⟨Int.le_refl _, by simp, by simp, by simp, ?_⟩
  have e2 : Sl.sub ⟨none, 0, 0⟩ 0 (0 : Nat) (0 : Nat) 1 = ⟨none, 0, 0⟩ := by simp [Sl.sub]
  rw [e2]
  refine ef.appendMakeNil slT_b int_i64 (by decide) h (by omega) (by omega) fun s' w2 zs hl hz h => ?_
  refine sb.take h (by simp) (by simp) fun s2 hl2 hc2 h => ?_
  simp only [Int.toNat_natCast, Nat.zero_mul, List.take_zero] at hl2 h
  exact k s2 w2 hl2 h

set_option maxHeartbeats 1000000 in
theorem Concat_b {e w A L s pss R} (h : Ok e (A :: L) w) (r : RdP e A s pss) (hn : pss.length ≤ 2 ^ 31) (hb : pss.flatten.length ≤ 2 ^ 31)
    (k : ∀ x w', x.len = pss.flatten.length → Ok e (slc 1 x (by8 pss.flatten) :: A :: L) w' → R [vS x] w') : sh91 s R w := by
  unfold sh91
  have hlen := r.len
  have hfl : ∀ i : Nat, (pss.take i).flatten.length ≤ pss.flatten.length := fun i => by
    rw [← List.take_append_drop i pss, List.flatten_append]; simp
  have htk : ∀ (i : Nat) (l : List UInt8), pss[i]? = some l → pss.take (i + 1) = pss.take i ++ [l] := fun i l hl => by
    rw [List.take_add_one, hl]; rfl
  refine lp.mk (fun t w' => ∃ i : Nat, t.2.1 = (i : Int) ∧ i ≤ pss.length ∧ t.1 = ((pss.take i).flatten.length : Int) ∧ Ok e (A :: L) w') (fun t _ => pss.length - t.2.1.toNat) ⟨0, rfl, Nat.zero_le _, rfl, h⟩ ?_
  clear h
  rintro ⟨(n : Int), (i' : Int), _⟩ w1 ⟨i, hi, hi1, hn', h⟩
  dsimp only at hi hn'
  subst hi hn'
  have hf := hfl i
  refine cs.mk (fun hlt => ?_) (fun hge => ?_)
  · have hlt : i < pss.length := by have := of_decide_eq_true hlt; dsimp only at this; omega
    obtain ⟨l, hl⟩ : ∃ l, pss[i]? = some l := ⟨_, List.getElem?_eq_getElem hlt⟩
    have h2 := hfl (i + 1)
    rw [htk i l hl, List.flatten_append, List.length_append] at h2
    simp only [List.flatten_cons, List.flatten_nil, List.append_nil] at h2
    refine ix_rdp r hl fun b o x hc hr => ldS.mk (hc _ _ h) ?_
    have hx := hr.len
    dsimp only
    have e1 : w64 (((pss.take i).flatten.length : Int) + (x.len : Int)) = ((pss.take (i + 1)).flatten.length : Int) := by
      rw [w64_in (by omega) (by omega), htk i l hl, List.flatten_append, List.length_append]
      simp only [List.flatten_cons, List.flatten_nil, List.append_nil]
      omega
    rw [e1]
    refine cs.no (decide_eq_false (by omega)) ?_
    have hw : w64 ((i : Int) + 1) = ((i + 1 : Nat) : Int) := by rw [w64_in (by omega) (by omega)]; rfl
    rw [hw]
    refine ⟨⟨i + 1, rfl, hlt, rfl, h⟩, ?_⟩
    show pss.length - Int.toNat ((i + 1 : Nat) : Int) < pss.length - Int.toNat (i : Int)
    omega
  have hge : ¬ i < pss.length := by have := of_decide_eq_false hge; dsimp only at this; omega
  refine call93 (a0 := ⟨none, 0, 0⟩) (a1 := (((pss.take i).flatten.length : Nat) : Int)) (Grow_nil h (by omega) fun s0 w2 hs0 h => ⟨(s0, ()), rfl, ?_⟩)
  refine lp.mk (fun t w' => ∃ i : Nat, t.2.1 = (i : Int) ∧ i ≤ pss.length ∧ t.1.len = (pss.take i).flatten.length ∧ Ok e (slc 1 t.1 (by8 (pss.take i).flatten) :: A :: L) w') (fun t _ => pss.length - t.2.1.toNat) ⟨0, rfl, Nat.zero_le _, hs0, h⟩ ?_
  clear h
  rintro ⟨(t : Sl), (i' : Int), _⟩ w1 ⟨j, hi, hi1, hn', h⟩
  dsimp only at hi hn' h
  subst hi
  have hf := hfl j
  refine cs.mk (fun hlt => ?_) (fun hge => ?_)
  · have hlt : j < pss.length := by have := of_decide_eq_true hlt; dsimp only at this; omega
    obtain ⟨l, hl⟩ : ∃ l, pss[j]? = some l := ⟨_, List.getElem?_eq_getElem hlt⟩
    have h2 := hfl (j + 1)
    rw [htk j l hl, List.flatten_append, List.length_append] at h2
    simp only [List.flatten_cons, List.flatten_nil, List.append_nil] at h2
    refine ix_rdp r hl fun b o x hc hr => ldS.mk (hc _ _ h.p1) ?_
    have hx := hr.len
    refine ef.append slT_b (by decide) h (by rw [by8_len]; omega) (fun ha => by rw [hr.none ha]; rfl) (fun a ha => hr.cells h.p1 ha) by8_one (by simp only; omega) fun s' w2 hl2 h => ?_
    have hw : w64 ((j : Int) + 1) = ((j + 1 : Nat) : Int) := by rw [w64_in (by omega) (by omega)]; rfl
    dsimp only at hl2 ⊢
    rw [hw]
    have e2 : (pss.take j).flatten ++ l = (pss.take (j + 1)).flatten := by rw [htk j l hl, List.flatten_append]; simp
    rw [← by8_append, e2] at h
    refine ⟨⟨j + 1, rfl, hlt, ?_, h⟩, ?_⟩
    · rw [hl2, ← e2, List.length_append]; omega
    · show pss.length - Int.toNat ((j + 1 : Nat) : Int) < pss.length - Int.toNat (j : Int)
      omega
  · have hge : ¬ j < pss.length := by have := of_decide_eq_false hge; dsimp only at this; omega
    have e3 : pss.take j = pss := List.take_of_length_le (by omega)
    rw [e3] at h hn'
    exact k t w1 hn' h

/-- bytes that are looked after: how much they cost, what they are -/
def arenaP (b : Nat) (c : Int) (m : List UInt8) : SP := fun h => ∃ s, oksH [pts b [vS s, .int .i64 c], slc 1 s (by8 m)] h

theorem arE {e w L b c m} (h : Ok e (arenaP b c m :: L) w) : ∃ s, s.len = m.length ∧ Ok e (pts b [vS s, .int .i64 c] :: slc 1 s (by8 m) :: L) w := by
  obtain ⟨s, h⟩ := h.exE
  have h := h.unpack
  have := h.p1.slc_len
  rw [by8_len] at this
  exact ⟨s, by omega, h⟩

theorem arI {e w L b c m s} (h : Ok e (pts b [vS s, .int .i64 c] :: slc 1 s (by8 m) :: L) w) : Ok e (arenaP b c m :: L) w :=
  (Ok.pack (M := [pts b [vS s, .int .i64 c], slc 1 s (by8 m)]) h).imp fun k hk => ⟨s, hk⟩

/-- do so many bytes from there on lie in? -/
def inA (a n : Int) (z : Nat) : Prop := 0 ≤ a ∧ 0 ≤ n ∧ a + n ≤ z

instance (a n : Int) (z : Nat) : Decidable (inA a n z) := by unfold inA; infer_instance

theorem New_arena {e w L n R} (h : Ok e L w) (k0 : ¬ (0 ≤ n ∧ n ≤ 65536) → R [.pointer none, .int .i64 (-17)] w)
    (k1 : (0 ≤ n ∧ n ≤ 65536) → ∀ b w', Ok e (arenaP b 0 (List.replicate n.toNat 0) :: L) w' → R [.pointer (some ⟨b, 0, none⟩), .int .i64 0] w') : sh61 n R w := by
  unfold sh61
  refine jn.bool (decide (¬ (0 ≤ n ∧ n ≤ 65536))) (fun J hJ => cs.mk (fun h1 => ?_) (fun h1 => ?_)) ?_
  · have h1 := of_decide_eq_true h1
    rw [decide_eq_true (by omega)] at hJ
    exact hJ
  · have h1 := of_decide_eq_false h1
    rw [show decide (¬ (0 ≤ n ∧ n ≤ 65536)) = decide (n > 65536) from decide_eq_decide.2 (by omega)] at hJ
    exact hJ
  refine cs.mk (fun h1 => k0 (of_decide_eq_true h1)) (fun h1 => ?_)
  have h1 : 0 ≤ n ∧ n ≤ 65536 := Decidable.not_not.1 (of_decide_eq_false h1)
  refine ef.makeB mkT_b h h1.1 (by omega) fun s w1 hl hc ha h => ?_
  refine al.mk h fun b w2 h => ?_
  exact k1 h1 b w2 (arI h)

theorem part_arena {e w L b c m s a n R} (h : Ok e (pts b [vS s, .int .i64 c] :: slc 1 s (by8 m) :: L) w) (hm : m.length ≤ 65536)
    (k0 : ¬ inA a n m.length → R [.slice none 0 0, .bool false] w)
    (k1 : inA a n m.length → ∀ p w', SubOf s 1 a.toNat (a + n).toNat p → RdB e (slc 1 s (by8 m)) p ((m.take (a + n).toNat).drop a.toNat) → Ok e (pts b [vS s, .int .i64 (w64 (c + n))] :: slc 1 s (by8 m) :: L) w' → R [vS p, .bool true] w') :
    sh90 (some ⟨b, 0, none⟩) a n R w := by
  unfold sh90
  have hl := h.p1.slc_len
  rw [by8_len, Nat.mul_one] at hl
  refine jn.bool (decide (a < 0 ∨ n < 0)) (fun J hJ => cs.mk (fun h1 => ?_) (fun h1 => ?_)) ?_
  · have h1 := of_decide_eq_true h1
    rw [decide_eq_true (.inl h1)] at hJ
    exact hJ
  · have h1 := of_decide_eq_false h1
    rw [show decide (a < 0 ∨ n < 0) = decide (n < 0) from decide_eq_decide.2 (by omega)] at hJ
    exact hJ
  refine jn.bool (decide (a < 0 ∨ n < 0 ∨ a > m.length)) (fun J hJ => cs.mk (fun h1 => ?_) (fun h1 => ?_)) ?_
  · have h1 := of_decide_eq_true h1
    rw [decide_eq_true (by omega)] at hJ
    exact hJ
  · have h1 := of_decide_eq_false h1
    rw [show decide (a < 0 ∨ n < 0 ∨ a > m.length) = decide (a > s.len) from decide_eq_decide.2 (by omega)] at hJ
    exact nn.mk (ldS.mk (by refine Ok.cellS h (by with_reducible first | exact sl0 | exact .there sl0 | exact .there sl1 | exact .there sl2 | exact .there sl3 | exact .there sl4 | exact .there sl5 | exact .there sl6 | exact .there sl7 | exact .there sl8 | exact .there sl9 | exact .there sl10 | exact .there sl11 | exact .there sl12) ?_; rfl) hJ)
  refine jn.bool (decide (¬ inA a n m.length)) (fun J hJ => cs.mk (fun h1 => ?_) (fun h1 => ?_)) ?_
  · have h1 := of_decide_eq_true h1
    rw [decide_eq_true (by unfold inA; omega)] at hJ
    exact hJ
  · have h1 := of_decide_eq_false h1
    have hw : w64 ((s.len : Int) - a) = s.len - a := w64_in (by omega) (by omega)
    refine nn.mk (ldS.mk (by refine Ok.cellS h (by with_reducible first | exact sl0 | exact .there sl0 | exact .there sl1 | exact .there sl2 | exact .there sl3 | exact .there sl4 | exact .there sl5 | exact .there sl6 | exact .there sl7 | exact .there sl8 | exact .there sl9 | exact .there sl10 | exact .there sl11 | exact .there sl12) ?_; rfl) ?_)
    rw [hw]
    rw [show decide (¬ inA a n m.length) = decide (n > (s.len : Int) - a) from decide_eq_decide.2 (by unfold inA; omega)] at hJ
    exact hJ
  refine cs.mk (fun h1 => k0 (of_decide_eq_true h1)) (fun h1 => ?_)
  have h1 : inA a n m.length := Decidable.not_not.1 (of_decide_eq_false h1)
  have h2 := h1
  unfold inA at h2
  (repeat (first | with_reducible refine dr.mk h fun _ h => ?_ | with_reducible refine nn.mk ?_ | ((first | with_reducible apply ldI.mk | with_reducible apply ldB.mk | with_reducible apply ldP.mk | with_reducible apply ldS.mk | with_reducible apply ldM.mk | with_reducible apply ldF.mk | with_reducible apply ldG.mk); (· exact (by refine Ok.cellS h (by with_reducible first | exact sl0 | exact .there sl0 | exact .there sl1 | exact .there sl2 | exact .there sl3 | exact .there sl4 | exact .there sl5 | exact .there sl6 | exact .there sl7 | exact .there sl8 | exact .there sl9 | exact .there sl10 | exact .there sl11 | exact .there sl12) ?_; rfl))) | (refine st1.mk (Ok.bring h (by with_reducible first | exact sl0 | exact .there sl0 | exact .there sl1 | exact .there sl2 | exact .there sl3 | exact .there sl4 | exact .there sl5 | exact .there sl6 | exact .there sl7 | exact .there sl8 | exact .there sl9 | exact .there sl10 | exact .there sl11 | exact .there sl12)) (by simp) fun _ h => ?_; dsimp only [List.set] at h)))
  have hw : w64 (a + n) = a + n := w64_in (by omega) (by omega)
  rw [hw]
  refine sb_both (Ok.emb (h) (.cons (A := slc 1 s _) (by with_reducible first | exact sl0 | exact .there sl0 | exact .there sl1 | exact .there sl2 | exact .there sl3 | exact .there sl4 | exact .there sl5 | exact .there sl6 | exact .there sl7 | exact .there sl8 | exact .there sl9 | exact .there sl10 | exact .there sl11 | exact .there sl12) (.same _))) h2.1 (by omega) (by omega) fun p hp hr => ?_
  exact k1 h1 p _ hp hr h

theorem Read_arena {e w L b c m a n R} (h : Ok e (arenaP b c m :: L) w) (hm : m.length ≤ 65536)
    (k0 : ¬ inA a n m.length → ∀ w', Ok e (arenaP b c m :: L) w' → R [.slice none 0 0, .int .i64 (-17)] w')
    (k1 : inA a n m.length → ∀ s w', s.len = n.toNat → Ok e (slc 1 s (by8 ((m.drop a.toNat).take n.toNat)) :: arenaP b (w64 (c + n)) m :: L) w' → R [vS s, .int .i64 0] w') :
    sh85 (some ⟨b, 0, none⟩) a n R w := by
  unfold sh85
  obtain ⟨s, hs, h⟩ := arE h
  refine call90 (part_arena h hm (fun h1 => ⟨(⟨none, 0, 0⟩, false, ()), rfl, ?_⟩) fun h1 p w1 hp hr h => ⟨(p, true, ()), rfl, ?_⟩)
  · exact cs.yes rfl (k0 h1 _ (arI h))
  refine cs.no rfl ?_
  have h2 := h1
  unfold inA at h2
  have e1 : (m.take (a + n).toNat).drop a.toNat = (m.drop a.toNat).take n.toNat := by
    rw [List.drop_take, show (a + n).toNat - a.toNat = n.toNat by omega]
  rw [e1] at hr
  have hl : ((m.drop a.toNat).take n.toNat).length = n.toNat := by rw [List.length_take, List.length_drop]; omega
  refine call36 (Clone_b (Ok.emb (h) (.cons (A := slc 1 s _) (by with_reducible first | exact sl0 | exact .there sl0 | exact .there sl1 | exact .there sl2 | exact .there sl3 | exact .there sl4 | exact .there sl5 | exact .there sl6 | exact .there sl7 | exact .there sl8 | exact .there sl9 | exact .there sl10 | exact .there sl11 | exact .there sl12) (.same _))) hr (by omega) fun s2 w2 hl2 h => ⟨(s2, ()), rfl, ?_⟩)
  refine call40 (Clip_b h fun s3 hl3 h => ⟨(s3, ()), rfl, ?_⟩)
  have h := arI (b := b) (c := w64 (c + n)) (m := m) (s := s) (Ok.emb (h) (.cons (A := pts b _) (by with_reducible first | exact sl0 | exact .there sl0 | exact .there sl1 | exact .there sl2 | exact .there sl3 | exact .there sl4 | exact .there sl5 | exact .there sl6 | exact .there sl7 | exact .there sl8 | exact .there sl9 | exact .there sl10 | exact .there sl11 | exact .there sl12) (.cons (A := slc 1 s _) (by with_reducible first | exact sl0 | exact .there sl0 | exact .there sl1 | exact .there sl2 | exact .there sl3 | exact .there sl4 | exact .there sl5 | exact .there sl6 | exact .there sl7 | exact .there sl8 | exact .there sl9 | exact .there sl10 | exact .there sl11 | exact .there sl12) (.same _))))
  exact k1 h1 s3 _ (by dsimp only at hl3; omega) (Ok.emb (h) (.cons (A := slc 1 s3 _) (by with_reducible first | exact sl0 | exact .there sl0 | exact .there sl1 | exact .there sl2 | exact .there sl3 | exact .there sl4 | exact .there sl5 | exact .there sl6 | exact .there sl7 | exact .there sl8 | exact .there sl9 | exact .there sl10 | exact .there sl11 | exact .there sl12) (.cons (A := arenaP b _ _) (by with_reducible first | exact sl0 | exact .there sl0 | exact .there sl1 | exact .there sl2 | exact .there sl3 | exact .there sl4 | exact .there sl5 | exact .there sl6 | exact .there sl7 | exact .there sl8 | exact .there sl9 | exact .there sl10 | exact .there sl11 | exact .there sl12) (.same _))))

/-- bytes, written over others -/
def wrA (m : List UInt8) (a : Nat) (l : List UInt8) : List UInt8 := m.take a ++ l ++ m.drop (a + l.length)

theorem wrA_len {m : List UInt8} {a : Nat} {l : List UInt8} (h : a + l.length ≤ m.length) : (wrA m a l).length = m.length := by
  simp only [wrA, List.length_append, List.length_take, List.length_drop]; omega

theorem Write_arena {e w A L b c m a s pss R} (h : Ok e (arenaP b c m :: A :: L) w) (hm : m.length ≤ 65536) (r : RdP e A s pss) (hn : pss.length ≤ 2 ^ 31) (hb : pss.flatten.length ≤ 2 ^ 31)
    (k0 : ¬ inA a pss.flatten.length m.length → ∀ w', Ok e (arenaP b c m :: A :: L) w' → R [.int .i64 (-17)] w')
    (k1 : inA a pss.flatten.length m.length → ∀ w', Ok e (arenaP b (w64 (c + pss.flatten.length)) (wrA m a.toNat pss.flatten) :: A :: L) w' → R [.int .i64 0] w') :
    sh87 (some ⟨b, 0, none⟩) a s R w := by
  unfold sh87
  refine call91 (Concat_b h.p1 r hn hb fun x w1 hx h => ⟨(x, ()), rfl, ?_⟩)
  obtain ⟨s, hs, h⟩ := arE (Ok.emb (h) (.cons (A := arenaP b c m) (by with_reducible first | exact sl0 | exact .there sl0 | exact .there sl1 | exact .there sl2 | exact .there sl3 | exact .there sl4 | exact .there sl5 | exact .there sl6 | exact .there sl7 | exact .there sl8 | exact .there sl9 | exact .there sl10 | exact .there sl11 | exact .there sl12) (.same _)))
  dsimp only
  rw [hx]
  refine call90 (part_arena h hm (fun h1 => ⟨(⟨none, 0, 0⟩, false, ()), rfl, ?_⟩) fun h1 p w1 hp hr h => ⟨(p, true, ()), rfl, ?_⟩)
  · have h := arI h
    exact cs.yes rfl (k0 h1 _ ((Ok.emb (h) (.cons (A := slc 1 x _) (by with_reducible first | exact sl0 | exact .there sl0 | exact .there sl1 | exact .there sl2 | exact .there sl3 | exact .there sl4 | exact .there sl5 | exact .there sl6 | exact .there sl7 | exact .there sl8 | exact .there sl9 | exact .there sl10 | exact .there sl11 | exact .there sl12) (.cons (A := arenaP b c m) (by with_reducible first | exact sl0 | exact .there sl0 | exact .there sl1 | exact .there sl2 | exact .there sl3 | exact .there sl4 | exact .there sl5 | exact .there sl6 | exact .there sl7 | exact .there sl8 | exact .there sl9 | exact .there sl10 | exact .there sl11 | exact .there sl12) (.cons (A := A) (by with_reducible first | exact sl0 | exact .there sl0 | exact .there sl1 | exact .there sl2 | exact .there sl3 | exact .there sl4 | exact .there sl5 | exact .there sl6 | exact .there sl7 | exact .there sl8 | exact .there sl9 | exact .there sl10 | exact .there sl11 | exact .there sl12) (.same _)))))).drop)
  refine cs.no rfl ?_
  have h2 := h1
  unfold inA at h2
  have h := (Ok.emb (h) (.cons (A := slc 1 s (by8 m)) (by with_reducible first | exact sl0 | exact .there sl0 | exact .there sl1 | exact .there sl2 | exact .there sl3 | exact .there sl4 | exact .there sl5 | exact .there sl6 | exact .there sl7 | exact .there sl8 | exact .there sl9 | exact .there sl10 | exact .there sl11 | exact .there sl12) (.cons (A := slc 1 x _) (by with_reducible first | exact sl0 | exact .there sl0 | exact .there sl1 | exact .there sl2 | exact .there sl3 | exact .there sl4 | exact .there sl5 | exact .there sl6 | exact .there sl7 | exact .there sl8 | exact .there sl9 | exact .there sl10 | exact .there sl11 | exact .there sl12) (.same _))))
  have hrx := slc_rdB h.p1
  refine ef.copySub slT_b h hp (by omega) (by omega) hrx (by omega) fun w2 h => ?_
  have e1 : m.take a.toNat ++ pss.flatten ++ m.drop (a + pss.flatten.length).toNat = wrA m a.toNat pss.flatten := by
    unfold wrA
    rw [show (a + pss.flatten.length).toNat = a.toNat + pss.flatten.length by omega]
  rw [e1] at h
  have h := arI (b := b) (c := w64 (c + pss.flatten.length)) (s := s) (Ok.emb (h) (.cons (A := pts b _) (by with_reducible first | exact sl0 | exact .there sl0 | exact .there sl1 | exact .there sl2 | exact .there sl3 | exact .there sl4 | exact .there sl5 | exact .there sl6 | exact .there sl7 | exact .there sl8 | exact .there sl9 | exact .there sl10 | exact .there sl11 | exact .there sl12) (.cons (A := slc 1 s _) (by with_reducible first | exact sl0 | exact .there sl0 | exact .there sl1 | exact .there sl2 | exact .there sl3 | exact .there sl4 | exact .there sl5 | exact .there sl6 | exact .there sl7 | exact .there sl8 | exact .there sl9 | exact .there sl10 | exact .there sl11 | exact .there sl12) (.same _))))
  exact k1 h1 _ ((Ok.emb (h) (.cons (A := slc 1 x _) (by with_reducible first | exact sl0 | exact .there sl0 | exact .there sl1 | exact .there sl2 | exact .there sl3 | exact .there sl4 | exact .there sl5 | exact .there sl6 | exact .there sl7 | exact .there sl8 | exact .there sl9 | exact .there sl10 | exact .there sl11 | exact .there sl12) (.cons (A := arenaP b _ _) (by with_reducible first | exact sl0 | exact .there sl0 | exact .there sl1 | exact .there sl2 | exact .there sl3 | exact .there sl4 | exact .there sl5 | exact .there sl6 | exact .there sl7 | exact .there sl8 | exact .there sl9 | exact .there sl10 | exact .there sl11 | exact .there sl12) (.cons (A := A) (by with_reducible first | exact sl0 | exact .there sl0 | exact .there sl1 | exact .there sl2 | exact .there sl3 | exact .there sl4 | exact .there sl5 | exact .there sl6 | exact .there sl7 | exact .there sl8 | exact .there sl9 | exact .there sl10 | exact .there sl11 | exact .there sl12) (.same _)))))).drop

theorem Size_arena {e w L b c m R} (h : Ok e (arenaP b c m :: L) w) (k : R [.int .i64 m.length] w) : sh42 (some ⟨b, 0, none⟩) R w := by
  unfold sh42
  obtain ⟨s, hs, h⟩ := arE h
  (repeat (first | with_reducible refine dr.mk h fun _ h => ?_ | with_reducible refine nn.mk ?_ | ((first | with_reducible apply ldI.mk | with_reducible apply ldB.mk | with_reducible apply ldP.mk | with_reducible apply ldS.mk | with_reducible apply ldM.mk | with_reducible apply ldF.mk | with_reducible apply ldG.mk); (· exact (by refine Ok.cellS h (by with_reducible first | exact sl0 | exact .there sl0 | exact .there sl1 | exact .there sl2 | exact .there sl3 | exact .there sl4 | exact .there sl5 | exact .there sl6 | exact .there sl7 | exact .there sl8 | exact .there sl9 | exact .there sl10 | exact .there sl11 | exact .there sl12) ?_; rfl))) | (refine st1.mk (Ok.bring h (by with_reducible first | exact sl0 | exact .there sl0 | exact .there sl1 | exact .there sl2 | exact .there sl3 | exact .there sl4 | exact .there sl5 | exact .there sl6 | exact .there sl7 | exact .there sl8 | exact .there sl9 | exact .there sl10 | exact .there sl11 | exact .there sl12)) (by simp) fun _ h => ?_; dsimp only [List.set] at h)))
  rw [hs]
  exact k

theorem word_arena {e w L b c m s a R} (h : Ok e (pts b [vS s, .int .i64 c] :: slc 1 s (by8 m) :: L) w) (hm : m.length ≤ 65536)
    (k0 : ¬ (inA a 4 m.length ∧ a % 4 = 0) → R [.slice none 0 0, .bool false] w)
    (k1 : inA a 4 m.length → a % 4 = 0 → ∀ p w', SubOf s 1 a.toNat (a + 4).toNat p → RdB e (slc 1 s (by8 m)) p ((m.take (a + 4).toNat).drop a.toNat) → Ok e (pts b [vS s, .int .i64 (w64 (c + 4))] :: slc 1 s (by8 m) :: L) w' → R [vS p, .bool true] w') :
    sh84 (some ⟨b, 0, none⟩) a R w := by
  unfold sh84
  refine jn.bool (decide (a < 0 ∨ a % 4 ≠ 0)) (fun J hJ => cs.mk (fun h1 => ?_) (fun h1 => ?_)) ?_
  · have h1 := of_decide_eq_true h1
    rw [decide_eq_true (.inl h1)] at hJ
    exact hJ
  · have h1 := of_decide_eq_false h1
    rw [Int.tmod_eq_emod_of_nonneg (by omega)]
    rw [show decide (a < 0 ∨ a % 4 ≠ 0) = (a % 4 != 0) by
      rw [Bool.eq_iff_iff, decide_eq_true_iff, bne_iff_ne]; omega] at hJ
    exact hJ
  refine cs.mk (fun h1 => k0 ?_) (fun h1 => ?_)
  · have h1 := of_decide_eq_true h1
    unfold inA; omega
  have h1 : ¬ (a < 0 ∨ a % 4 ≠ 0) := of_decide_eq_false h1
  refine call90 (part_arena h hm (fun h2 => ⟨(⟨none, 0, 0⟩, false, ()), rfl, ?_⟩) fun h2 p w1 hp hr h => ⟨(p, true, ()), rfl, ?_⟩)
  · exact k0 fun h3 => h2 h3.1
  · exact k1 h2 (by omega) p w1 hp hr h

/-- the four bytes of a word -/
def wB (x : Int) : List UInt8 := (List.range 4).map fun i => UInt8.ofNat (x.toNat / 2 ^ (8 * i) % 256)

theorem wB_len (x : Int) : (wB x).length = 4 := by simp [wB]

theorem wB_get {x : Int} {i : Nat} (hx : 0 ≤ x) (h : i < 4) : ∃ y, (wB x)[i]? = some y ∧ (y.toNat : Int) = IntKind.u8.wrap (Int.fdiv x (2 ^ (8 * i))) := by
  refine ⟨UInt8.ofNat (x.toNat / 2 ^ (8 * i) % 256), by simp [wB, h], ?_⟩
  rw [wrap_u8, Int.fdiv_eq_ediv_of_nonneg _ (by exact_mod_cast Nat.zero_le (2 ^ (8 * i)))]
  obtain ⟨n, rfl⟩ := Int.eq_ofNat_of_zero_le hx
  have e1 : ((n : Int) / 2 ^ (8 * i) % 256).toNat = n / 2 ^ (8 * i) % 256 := by
    rw [show ((2 : Int) ^ (8 * i)) = ((2 ^ (8 * i) : Nat) : Int) by norm_cast, ← Int.natCast_ediv]
    omega
  rw [e1, Int.toNat_natCast]

/-- a byte is put into a part of an owned row -/
theorem st_sub {e w L s m p i j f} {k : Nat} {x : UInt8} {v : Value} (h : Ok e (slc 1 s (by8 m) :: L) w) (hp : SubOf s 1 i j p) (hj : j ≤ s.len) (hk : k < j - i) (hv : v = v8 x)
    (kk : ∀ w', Ok e (slc 1 s (by8 (m.set (i + k) x)) :: L) w' → f w') : ix p (k : Int) 1 fun b o => st1 w b o v f := by
  obtain ⟨b, hs, ha⟩ := hp.at' (by omega)
  have hl := h.slc_len
  rw [by8_len, Nat.mul_one] at hl
  refine ⟨b, i * 1, ha, Int.natCast_nonneg _, by rw [hp.len]; omega, ?_⟩
  obtain ⟨-, -, hc, hcase⟩ := h.slcE
  rcases hcase with ⟨h0, _⟩ | ⟨b', post, hb, hp2, h⟩
  · rw [h0] at hs; cases hs
  rw [hs] at hb; cases hb
  subst hv
  refine st1.mk h (by rw [List.length_append, by8_len]; omega) fun w' h => kk w' ?_
  rw [List.set_append_left _ _ (by rw [by8_len]; omega), Int.toNat_natCast, Nat.mul_one, Nat.mul_one, by8_set] at h
  exact h.slcI hs (by rw [by8_len, List.length_set]; omega) by8_one hc (by rw [by8_len, List.length_set]; rw [by8_len] at hp2; omega)

/-- bytes laid one by one -/
theorem wrA_step {m l : List UInt8} {a k : Nat} {x : UInt8} (h : a + l.length ≤ m.length) (hx : l[k]? = some x) : (wrA m a (l.take k)).set (a + k) x = wrA m a (l.take (k + 1)) := by
  have hk := (List.getElem?_eq_some_iff.1 hx).1
  rw [List.take_add_one, hx]
  unfold wrA
  have h1 : (l.take k).length = k := by rw [List.length_take]; omega
  have h2 : (m.take a ++ l.take k).length = a + k := by rw [List.length_append, h1, List.length_take]; omega
  rw [List.set_append_right _ _ (by omega), h2, Nat.sub_self, h1, List.length_append, h1]
  simp only [Option.toList_some, List.length_cons, List.length_nil]
  obtain ⟨y, hy⟩ : ∃ y, m[a + k]? = some y := ⟨_, List.getElem?_eq_getElem (by omega)⟩
  rw [List.drop_eq_getElem_cons (show a + k < m.length by omega)]
  simp [Nat.add_assoc]

theorem wrA_nil {m : List UInt8} {a : Nat} : wrA m a [] = m := by simp [wrA]

theorem PutWord_arena {e w L b c m a x R} (h : Ok e (arenaP b c m :: L) w) (hm : m.length ≤ 65536) (hx : 0 ≤ x)
    (k0 : ¬ (inA a 4 m.length ∧ a % 4 = 0) → ∀ w', Ok e (arenaP b c m :: L) w' → R [.int .i64 (-17)] w')
    (k1 : inA a 4 m.length → a % 4 = 0 → ∀ w', Ok e (arenaP b (w64 (c + 4)) (wrA m a.toNat (wB x)) :: L) w' → R [.int .i64 0] w') :
    sh72 (some ⟨b, 0, none⟩) a x R w := by
  unfold sh72
  obtain ⟨s, hs, h⟩ := arE h
  refine call84 (word_arena h hm (fun h1 => ⟨(⟨none, 0, 0⟩, false, ()), rfl, ?_⟩) fun h1 h4 p w1 hp hr h => ⟨(p, true, ()), rfl, ?_⟩)
  · exact cs.yes rfl (k0 h1 _ (arI h))
  refine cs.no rfl ?_
  have h2 := h1
  unfold inA at h2
  have hpl : p.len = 4 := by rw [hp.len]; omega
  refine lp.mk (fun t w' => ∃ i : Nat, t.1 = (i : Int) ∧ i ≤ 4 ∧ Ok e (slc 1 s (by8 (wrA m a.toNat ((wB x).take i))) :: pts b [vS s, .int .i64 (w64 (c + 4))] :: L) w') (fun t _ => 4 - t.1.toNat)
    ⟨0, rfl, Nat.zero_le _, by rw [List.take_zero, wrA_nil]; exact h.p1⟩ ?_
  clear h
  rintro ⟨(i' : Int), _⟩ w2 ⟨i, hi, hi1, h⟩
  dsimp only at hi
  subst hi
  refine cs.mk (fun hlt => ?_) (fun hge => ?_)
  · have hlt : i < 4 := by have := of_decide_eq_true hlt; dsimp only at this; omega
    have hw8 : w64 (8 * (i : Int)) = ((8 * i : Nat) : Int) := by rw [w64_in (by omega) (by omega)]; omega
    have hmin : min ((8 * i : Nat) : Int).toNat 32 = 8 * i := by rw [Int.toNat_natCast]; omega
    dsimp only
    rw [hw8, hmin]
    refine ob.mk (Int.natCast_nonneg _) ?_
    obtain ⟨y, hy, hy2⟩ := wB_get (x := x) hx hlt
    refine st_sub h hp (by omega) (by omega) (x := y) (by rw [v8, hy2]) fun w3 h => ?_
    rw [wrA_step (l := wB x) (by rw [wB_len]; omega) hy] at h
    have hw : w64 ((i : Int) + 1) = ((i + 1 : Nat) : Int) := by rw [w64_in (by omega) (by omega)]; rfl
    rw [hw]
    refine ⟨⟨i + 1, rfl, hlt, h⟩, ?_⟩
    show 4 - Int.toNat ((i + 1 : Nat) : Int) < 4 - Int.toNat (i : Int)
    omega
  · have hge : ¬ i < 4 := by have := of_decide_eq_false hge; dsimp only at this; omega
    rw [List.take_of_length_le (by rw [wB_len]; omega)] at h
    exact k1 h1 h4 w2 (arI h.p1)

theorem Twin_arena {e w L b c m R} (h : Ok e (arenaP b c m :: L) w) (hm : m.length ≤ 65536) (k : ∀ b' w', Ok e (arenaP b' c m :: arenaP b c m :: L) w' → R [.pointer (some ⟨b', 0, none⟩)] w') :
    sh78 (some ⟨b, 0, none⟩) R w := by
  unfold sh78
  obtain ⟨s, hs, h⟩ := arE h
  (repeat (first | with_reducible refine dr.mk h fun _ h => ?_ | with_reducible refine nn.mk ?_ | ((first | with_reducible apply ldI.mk | with_reducible apply ldB.mk | with_reducible apply ldP.mk | with_reducible apply ldS.mk | with_reducible apply ldM.mk | with_reducible apply ldF.mk | with_reducible apply ldG.mk); (· exact (by refine Ok.cellS h (by with_reducible first | exact sl0 | exact .there sl0 | exact .there sl1 | exact .there sl2 | exact .there sl3 | exact .there sl4 | exact .there sl5 | exact .there sl6 | exact .there sl7 | exact .there sl8 | exact .there sl9 | exact .there sl10 | exact .there sl11 | exact .there sl12) ?_; rfl))) | (refine st1.mk (Ok.bring h (by with_reducible first | exact sl0 | exact .there sl0 | exact .there sl1 | exact .there sl2 | exact .there sl3 | exact .there sl4 | exact .there sl5 | exact .there sl6 | exact .there sl7 | exact .there sl8 | exact .there sl9 | exact .there sl10 | exact .there sl11 | exact .there sl12)) (by simp) fun _ h => ?_; dsimp only [List.set] at h)))
  refine call36 (Clone_b (Ok.emb (h) (.cons (A := slc 1 s (by8 m)) (by with_reducible first | exact sl0 | exact .there sl0 | exact .there sl1 | exact .there sl2 | exact .there sl3 | exact .there sl4 | exact .there sl5 | exact .there sl6 | exact .there sl7 | exact .there sl8 | exact .there sl9 | exact .there sl10 | exact .there sl11 | exact .there sl12) (.same _))) (slc_rdB (Ok.emb (h) (.cons (A := slc 1 s (by8 m)) (by with_reducible first | exact sl0 | exact .there sl0 | exact .there sl1 | exact .there sl2 | exact .there sl3 | exact .there sl4 | exact .there sl5 | exact .there sl6 | exact .there sl7 | exact .there sl8 | exact .there sl9 | exact .there sl10 | exact .there sl11 | exact .there sl12) (.same _)))) (by omega) fun s2 w2 hl2 h => ⟨(s2, ()), rfl, (by refine Ok.cellS h (by with_reducible first | exact sl0 | exact .there sl0 | exact .there sl1 | exact .there sl2 | exact .there sl3 | exact .there sl4 | exact .there sl5 | exact .there sl6 | exact .there sl7 | exact .there sl8 | exact .there sl9 | exact .there sl10 | exact .there sl11 | exact .there sl12) ?_; rfl), ?_⟩)
  refine al.mk h fun b' w3 h => ?_
  have h := arI (b := b) (c := c) (m := m) (s := s) (Ok.emb (h) (.cons (A := pts b _) (by with_reducible first | exact sl0 | exact .there sl0 | exact .there sl1 | exact .there sl2 | exact .there sl3 | exact .there sl4 | exact .there sl5 | exact .there sl6 | exact .there sl7 | exact .there sl8 | exact .there sl9 | exact .there sl10 | exact .there sl11 | exact .there sl12) (.cons (A := slc 1 s _) (by with_reducible first | exact sl0 | exact .there sl0 | exact .there sl1 | exact .there sl2 | exact .there sl3 | exact .there sl4 | exact .there sl5 | exact .there sl6 | exact .there sl7 | exact .there sl8 | exact .there sl9 | exact .there sl10 | exact .there sl11 | exact .there sl12) (.same _))))
  have h := arI (b := b') (c := c) (m := m) (s := s2) (Ok.emb (h) (.cons (A := pts b' _) (by with_reducible first | exact sl0 | exact .there sl0 | exact .there sl1 | exact .there sl2 | exact .there sl3 | exact .there sl4 | exact .there sl5 | exact .there sl6 | exact .there sl7 | exact .there sl8 | exact .there sl9 | exact .there sl10 | exact .there sl11 | exact .there sl12) (.cons (A := slc 1 s2 _) (by with_reducible first | exact sl0 | exact .there sl0 | exact .there sl1 | exact .there sl2 | exact .there sl3 | exact .there sl4 | exact .there sl5 | exact .there sl6 | exact .there sl7 | exact .there sl8 | exact .there sl9 | exact .there sl10 | exact .there sl11 | exact .there sl12) (.same _))))
  exact k b' _ h

/-- four bytes as a word -/
def w4 (a b c d : Int) : Int := bOr .u32 (bOr .u32 (bOr .u32 (IntKind.u32.wrap a) (IntKind.u32.wrap ((IntKind.u32.wrap b) * 2 ^ 8))) (IntKind.u32.wrap ((IntKind.u32.wrap c) * 2 ^ 16))) (IntKind.u32.wrap ((IntKind.u32.wrap d) * 2 ^ 24))

theorem wrap_u32 {n : Nat} (h : n < 4294967296) : IntKind.u32.wrap (n : Int) = n := IntWalk.u32_in _ ⟨by omega, by omega⟩

theorem bOr_add {lo hi j : Nat} (h1 : lo < 2 ^ j) (h2 : lo + hi * 2 ^ j < 4294967296) : bOr .u32 (lo : Int) ((hi * 2 ^ j : Nat) : Int) = ((lo + hi * 2 ^ j : Nat) : Int) := by
  have e1 : (BitVec.ofInt IntKind.u32.bits (lo : Int)).toNat = lo := by
    simp only [IntKind.bits, BitVec.toNat_ofInt]; omega
  have e2 : (BitVec.ofInt IntKind.u32.bits ((hi * 2 ^ j : Nat) : Int)).toNat = hi * 2 ^ j := by
    simp only [IntKind.bits, BitVec.toNat_ofInt]; omega
  unfold bOr
  rw [BitVec.toNat_or, e1, e2, Nat.or_comm]
  have e3 := Nat.shiftLeft_add_eq_or_of_lt h1 hi
  rw [Nat.shiftLeft_eq] at e3
  rw [← e3, Nat.add_comm]
  exact wrap_u32 h2

theorem w4_eq {a b c d : Nat} (ha : a < 256) (hb : b < 256) (hc : c < 256) (hd : d < 256) : w4 a b c d = ((a + b * 2 ^ 8 + c * 2 ^ 16 + d * 2 ^ 24 : Nat) : Int) := by
  unfold w4
  have s1 : ((b : Int) * 2 ^ 8) = ((b * 2 ^ 8 : Nat) : Int) := by norm_cast
  have s2 : ((c : Int) * 2 ^ 16) = ((c * 2 ^ 16 : Nat) : Int) := by norm_cast
  have s3 : ((d : Int) * 2 ^ 24) = ((d * 2 ^ 24 : Nat) : Int) := by norm_cast
  rw [wrap_u32 (n := a) (by omega), wrap_u32 (n := b) (by omega), wrap_u32 (n := c) (by omega), wrap_u32 (n := d) (by omega), s1, s2, s3,
    wrap_u32 (by omega), wrap_u32 (by omega), wrap_u32 (by omega), bOr_add (by omega) (by omega), bOr_add (by omega) (by omega), bOr_add (by omega) (by omega)]

def wordOf (l : List UInt8) : Int := w4 ((l.getD 0 0).toNat : Int) ((l.getD 1 0).toNat : Int) ((l.getD 2 0).toNat : Int) ((l.getD 3 0).toNat : Int)

theorem u8_lt (x : UInt8) : x.toNat < 256 := x.toNat_lt

theorem wordOf_wB {x : Int} (h0 : 0 ≤ x) (h1 : x ≤ 4294967295) : wordOf (wB x) = x := by
  obtain ⟨n, rfl⟩ := Int.eq_ofNat_of_zero_le h0
  have e : ∀ k : Nat, (UInt8.ofNat (k % 256)).toNat = k % 256 := fun k => by rw [UInt8.toNat_ofNat']; omega
  have : wB (n : Int) = [UInt8.ofNat (n / 2 ^ 0 % 256), UInt8.ofNat (n / 2 ^ 8 % 256), UInt8.ofNat (n / 2 ^ 16 % 256), UInt8.ofNat (n / 2 ^ 24 % 256)] := rfl
  unfold wordOf
  rw [this]
  simp only [List.getD_cons_zero, List.getD_cons_succ, e]
  rw [w4_eq (by omega) (by omega) (by omega) (by omega)]
  omega

theorem Word_arena {e w L b c m a R} (h : Ok e (arenaP b c m :: L) w) (hm : m.length ≤ 65536)
    (k0 : ¬ (inA a 4 m.length ∧ a % 4 = 0) → ∀ w', Ok e (arenaP b c m :: L) w' → R [.int .u32 0, .int .i64 (-17)] w')
    (k1 : inA a 4 m.length → a % 4 = 0 → ∀ w', Ok e (arenaP b (w64 (c + 4)) m :: L) w' → R [.int .u32 (wordOf ((m.drop a.toNat).take 4)), .int .i64 0] w') :
    sh65 (some ⟨b, 0, none⟩) a R w := by
  unfold sh65
  obtain ⟨s, hs, h⟩ := arE h
  refine call84 (word_arena h hm (fun h1 => ⟨(⟨none, 0, 0⟩, false, ()), rfl, ?_⟩) fun h1 h4 p w1 hp hr h => ⟨(p, true, ()), rfl, ?_⟩)
  · exact cs.yes rfl (k0 h1 _ (arI h))
  refine cs.no rfl ?_
  have h2 := h1
  unfold inA at h2
  have hpl : p.len = 4 := by rw [hp.len]; omega
  refine dr.mk h fun w2 h => ?_
  have e1 : (m.take (a + 4).toNat).drop a.toNat = (m.drop a.toNat).take 4 := by
    rw [List.drop_take, show (a + 4).toNat - a.toNat = 4 by omega]
  rw [e1] at hr
  have hs' := (Ok.emb (h) (.cons (A := slc 1 s (by8 m)) (by with_reducible first | exact sl0 | exact .there sl0 | exact .there sl1 | exact .there sl2 | exact .there sl3 | exact .there sl4 | exact .there sl5 | exact .there sl6 | exact .there sl7 | exact .there sl8 | exact .there sl9 | exact .there sl10 | exact .there sl11 | exact .there sl12) (.same _)))
  have hD : ∀ (l : List UInt8) (i : Nat) (x : UInt8), l[i]? = some x → l.getD i 0 = x := fun l i x hx => by simp [List.getD, hx]
  refine ix_rdb hr (by omega) (by rw [hpl]; omega) fun b0 o0 x0 hx0 c0 => ldI.mk (c0 _ _ hs') ?_
  refine ix_rdb hr (by omega) (by rw [hpl]; omega) fun b1 o1 x1 hx1 c1 => ldI.mk (c1 _ _ hs') ?_
  refine ix_rdb hr (by omega) (by rw [hpl]; omega) fun b2 o2 x2 hx2 c2 => ldI.mk (c2 _ _ hs') ?_
  refine ix_rdb hr (by omega) (by rw [hpl]; omega) fun b3 o3 x3 hx3 c3 => ldI.mk (c3 _ _ hs') ?_
  have := k1 h1 h4 w2 (arI h)
  unfold wordOf at this
  rw [hD _ 0 x0 hx0, hD _ 1 x1 hx1, hD _ 2 x2 hx2, hD _ 3 x3 hx3] at this
  exact this

end Go.Proofs.Ytjamgdepbjipdaa.B
