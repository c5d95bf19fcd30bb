/- Laws of layer 16: BufferOrder, BufferHands. -/
import Derived.Test.YtjamgdepbjipdaaLaws16b
namespace Go.Proofs.Ytjamgdepbjipdaa.B
open Go
set_option linter.unusedVariables false

def allB (q : BB) : List (List UInt8) := q.M ++ q.S.map fun x => q.s x.1

theorem fillB_all {z : Nat} {s : Int → List UInt8} : ∀ {S : List (Int × Int)} {M : List (List UInt8)}, (fillB z s S M).2.2 ++ ((fillB z s S M).2.1).map (fun x => s x.1) = M ++ S.map fun x => s x.1
  | [], M => rfl
  | x :: S, M => by
    unfold fillB
    split
    · rw [fillB_all (S := S) (M := M ++ [s x.1])]; simp
    · rfl

theorem tryRecv_all {z : Nat} {q : BB} {l : List UInt8} {r : List (List UInt8)} (h : allB q = l :: r) : (q.tryRecv z).1.1 = l ∧ (q.tryRecv z).1.2.1 = true ∧ allB (q.tryRecv z).2 = r ∧ (q.tryRecv z).2.R = q.R := by
  obtain ⟨M, S, R, s⟩ := q
  cases M with
  | cons y M =>
    obtain ⟨rfl, rfl⟩ := List.cons.inj (show y :: (M ++ S.map fun x => s x.1) = l :: r from h)
    exact ⟨rfl, rfl, fillB_all (S := S) (M := M), rfl⟩
  | nil =>
    cases S with
    | cons x S =>
      obtain ⟨rfl, rfl⟩ := List.cons.inj (show s x.1 :: (S.map fun x => s x.1) = l :: r from h)
      exact ⟨rfl, rfl, rfl, rfl⟩
    | nil => cases h

theorem tryRecv_none {z : Nat} {q : BB} (h : allB q = []) : q.tryRecv z = (([], false, []), q) ∧ q.S = [] ∧ q.M = [] := by
  obtain ⟨M, S, R, s⟩ := q
  obtain ⟨h1, h2⟩ := List.append_eq_nil_iff.1 h
  dsimp only at h1 h2
  have h2 := List.map_eq_nil_iff.1 h2
  subst h1
  subst h2
  exact ⟨rfl, rfl, rfl⟩

theorem putL_end (l : List (Int × Int)) (x : Int × Int) : putL false l x = l ++ [x] := by
  have : putK false l x.2 = l.length := by simp [putK]
  unfold putL
  rw [this, List.take_length, List.drop_length, List.append_nil]

theorem send_all {z : Nat} {most : Int} {q : BB} {t pri : Int} {l : List UInt8} (hl : 1 ≤ l.length ∧ (l.length : Int) ≤ most) (hR : q.R = []) (ht : 1 ≤ t ∧ t ≤ 16 ∧ 1 ≤ pri ∧ pri ≤ 16) (hi : t ∉ ids q.S) :
    ∃ b, (BB.send z most false q t pri l).1 = (b, 0, 0) ∧ allB (BB.send z most false q t pri l).2 = allB q ++ [l] ∧ (BB.send z most false q t pri l).2.R = [] ∧ ∀ i ∈ ids (BB.send z most false q t pri l).2.S, i = t ∨ i ∈ ids q.S := by
  by_cases hc : q.S = [] ∧ fitR z q.M (l.length : Nat) = true
  · obtain ⟨M, S, R, s⟩ := q
    obtain ⟨h1, h2⟩ := hc
    dsimp only at h1 hR
    subst h1
    subst hR
    rw [send_fit hl rfl h2]
    exact ⟨_, rfl, by simp [allB], rfl, fun i hi => by simp at hi⟩
  · rw [send_wait hl hR hc ht hi, putL_end]
    refine ⟨_, rfl, ?_, hR, fun i hi => ?_⟩
    · show q.M ++ (q.S ++ [(t, pri)]).map (fun x => updI q.s t l x.1) = q.M ++ (q.S.map fun x => q.s x.1) ++ [l]
      rw [List.map_append, List.map_cons, List.map_nil, updI_same, List.append_assoc]
      congr 2
      refine List.map_congr_left fun x hx => updI_other fun he => hi ?_
      exact he ▸ List.mem_map.2 ⟨x, hx, rfl⟩
    · rcases List.mem_append.1 (show i ∈ ids q.S ++ [t] by simpa [ids] using hi) with h1 | h1
      · exact .inr h1
      · exact .inl (List.mem_singleton.1 h1)

/-- slices of bytes that came in -/
structure ArgB (e : World) (a : Sl) (X : Nat → Sl) (F : Nat → List UInt8) : Prop where
  rd : ∀ i, i < a.len → RdB e (old e) (X i) (F i)
  ix : ∀ (i : Nat) (f : Nat → Nat → Prop), i < a.len → (∀ b o, (∀ w', (∃ L', Ok e (old e :: L') w') → w'.cell? ⟨b, o, none⟩ = some (vS (X i))) → f b o) → ix a (i : Int) 1 f

theorem argB_of {e : World} {a : Sl} {vs : List Value} (ha : ArgF [.s (.i .u8)] e a vs) (hb : a.len ≤ 2 ^ 31) : ∃ X F, ArgB e a X F := by
  have hm : ∀ i, ∃ p : Sl × List UInt8, i < a.len → vs[i]? = some (vS p.1) ∧ RdB e (old e) p.1 p.2 := by
    intro i
    by_cases hi : i < a.len
    · obtain ⟨v, hv, hf⟩ := ha.2 i hi 0 _ rfl
      obtain ⟨x, l, rfl, r⟩ := fk_b hf
      exact ⟨(x, l), fun _ => ⟨by simpa using hv, r⟩⟩
    · exact ⟨(⟨none, 0, 0⟩, []), fun h => absurd h hi⟩
  obtain ⟨f, hf⟩ := Classical.axiomOfChoice hm
  refine ⟨fun i => (f i).1, fun i => (f i).2, fun i hi => (hf i hi).2, fun i g hi k => ?_⟩
  have hv := (hf i hi).1
  exact ix_args ha.1 (by decide) (Int.natCast_nonneg _) (by omega) fun b o hh => k b o (fun w' hw => hh 0 _ (by decide) (by simpa using hv) w' hw)

theorem w64_succ {n : Nat} (h : n ≤ 2 ^ 31) : w64 ((n : Int) + 1) = ((n + 1 : Nat) : Int) := by rw [w64_in (by omega) (by omega)]; rfl

set_option maxHeartbeats 2000000 in
theorem BufferOrder_walk {e : World} {a0 : Int} {a1 : Sl} {vs : List Value} (_ : (Lit.int .i64 a0).wf = true) (ha : ArgF [.s (.i .u8)] e a1 vs) : sh3 a0 a1 (LawEnd e) e := by
  unfold sh3
  refine call8 (known_16 (Ok.start e) fun w1 h => ⟨(true, ()), enc_b rfl, ?_⟩)
  refine cs.no rfl ?_
  refine jn.g (0 ≤ a0 ∧ a0 ≤ 200) (fun J hJ => cs.mk (fun h1 => hJ true (fun h => by cases h)) (fun h1 => hJ _ fun h2 => ?_)) fun c1 hc1 => ?_
  · have := of_decide_eq_false h1; have := of_decide_eq_false h2; omega
  refine jn.g ((0 ≤ a0 ∧ a0 ≤ 200) ∧ a0 % 4 = 0) (fun J hJ => cs.mk (fun h1 => hJ true (fun h => by cases h)) (fun h1 => hJ _ fun h2 => ?_)) fun c2 hc2 => ?_
  · have h3 := hc1 h1
    refine ⟨h3, ?_⟩
    rw [Int.tmod_eq_emod_of_nonneg h3.1] at h2
    simpa using h2
  refine jn.g (((0 ≤ a0 ∧ a0 ≤ 200) ∧ a0 % 4 = 0) ∧ a1.len ≤ 16) (fun J hJ => cs.mk (fun h1 => hJ true (fun h => by cases h)) (fun h1 => hJ _ fun h2 => ?_)) fun c3 hc3 => ?_
  · have := hc2 h1; have := of_decide_eq_false h2; omega
  refine cs.mk (fun _ => ⟨rfl, h⟩) (fun h1 => ?_)
  obtain ⟨⟨⟨g1, g2⟩, g3⟩, g4⟩ := hc3 h1
  clear hc1 hc2 hc3 h1
  obtain ⟨X, F, A⟩ := argB_of ha (by omega)
  refine call9 (New_mbf h (fun h0 => absurd ⟨by decide, by decide, g1, by omega, g3⟩ h0) fun _ b w2 h => ⟨(some ⟨b, 0, none⟩, (0 : Int), ()), rfl, ?_⟩)
  obtain ⟨z, rfl⟩ := Int.eq_ofNat_of_zero_le g1
  rw [Int.toNat_natCast] at h
  have o0 : BBo z bb0 := bb0_ok (by omega)
  refine lp.mk (fun t w' => ∃ (i : Nat) (q : BB), t.1 = (i : Int) ∧ i ≤ a1.len ∧ BBo z q ∧ q.R = [] ∧ (∀ j ∈ ids q.S, 1 ≤ j ∧ j ≤ (i : Int)) ∧ allB q = (List.range i).map F ∧ Ok e [mbfP b false 100 z q, old e] w') (fun t _ => a1.len - t.1.toNat)
    ⟨0, bb0, rfl, Nat.zero_le _, o0, rfl, fun j hj => by simp [bb0] at hj, rfl, h⟩ ?_
  clear h
  rintro ⟨(i' : Int), _⟩ w3 ⟨i, q, hi, hi1, ho, hR, hS, hq, h⟩
  dsimp only at hi
  subst hi
  refine cs.mk (fun hlt => ?_) (fun hge => ?_)
  · have hlt : i < a1.len := by have := of_decide_eq_true hlt; dsimp only at this; omega
    have r := A.rd i hlt
    have hxl := r.len
    refine A.ix i _ hlt fun bb oo hc => ldS.mk (hc _ ⟨_, h.p1⟩) ?_
    refine jn.g (1 ≤ (X i).len ∧ (X i).len ≤ 100) (fun J hJ => cs.mk (fun h1 => hJ true (fun h => by cases h)) (fun h1 => A.ix i _ hlt fun b2 o2 hc2 => ldS.mk (hc2 _ ⟨_, h.p1⟩) (hJ _ fun h2 => ?_))) fun c1 hc1 => ?_
    · have := of_decide_eq_false h2
      have := ne_of_beq_false h1
      omega
    refine cs.mk (fun _ => ⟨rfl, h.p1.only⟩) (fun h1 => ?_)
    have hx := hc1 h1
    clear hc1 h1
    refine A.ix i _ hlt fun b2 o2 hc2 => ldS.mk (hc2 _ ⟨_, h.p1⟩) ?_
    clear hc hc2
    dsimp only
    rw [w64_succ (by omega)]
    have hni : ((i + 1 : Nat) : Int) ∉ ids q.S := fun hm => by have := hS _ hm; omega
    obtain ⟨ok, e1, e2, e3, e4⟩ := send_all (z := z) (most := 100) (q := q) (t := ((i + 1 : Nat) : Int)) (pri := 1) (l := F i) (by omega) hR (by omega) hni
    refine call10 (Send_mbf h r ho (by decide) fun w4 h => ⟨(ok, (0 : Int), (0 : Int), ()), by rw [e1]; rfl, ?_⟩)
    have ho2 := send_ok (most := 100) (byPri := false) (t := ((i + 1 : Nat) : Int)) (pri := 1) (l := F i) ho (by decide)
    refine jn.bool false (fun J hJ => cs.no rfl hJ) ?_
    refine cs.no rfl ?_
    refine ⟨⟨i + 1, _, rfl, hlt, ho2, e3, fun j hj => ?_, ?_, h⟩, ?_⟩
    · rcases e4 j hj with h1 | h1
      · omega
      · have := hS j h1; omega
    · rw [e2, hq, List.range_succ, List.map_append]; rfl
    · show a1.len - Int.toNat ((i + 1 : Nat) : Int) < a1.len - Int.toNat (i : Int)
      omega
  have hin : i = a1.len := by have := of_decide_eq_false hge; dsimp only at this; omega
  rw [hin] at hq
  clear hge hin hi1 hS
  refine lp.mk (fun t w' => ∃ (i : Nat) (q : BB), t.1 = (i : Int) ∧ i ≤ a1.len ∧ BBo z q ∧ allB q = ((List.range a1.len).map F).drop i ∧ Ok e [mbfP b false 100 z q, old e] w') (fun t _ => a1.len - t.1.toNat)
    ⟨0, q, rfl, Nat.zero_le _, ho, hq, h⟩ ?_
  clear h hR hq ho
  rintro ⟨(k' : Int), _⟩ w4 ⟨k, q, hk, hk1, ho, hq, h⟩
  dsimp only at hk
  subst hk
  refine cs.mk (fun hlt => ?_) (fun hge => ?_)
  · have hlt : k < a1.len := by have := of_decide_eq_true hlt; dsimp only at this; omega
    have hd : ((List.range a1.len).map F).drop k = F k :: ((List.range a1.len).map F).drop (k + 1) := by
      rw [List.drop_eq_getElem_cons (by simpa using hlt)]
      simp
    rw [hd] at hq
    obtain ⟨e1, e2, e3, e4⟩ := tryRecv_all (z := z) hq
    refine call11 (TryRecv_mbf h ho fun y u w5 hu h => ⟨((y, true, u, ()), ()), by rw [e2]; rfl, ?_⟩)
    rw [e1] at h
    refine al.mk h fun c w6 h => ?_
    (repeat (first | with_reducible refine dr.mk h fun _ h => ?_ | with_reducible refine nn.mk ?_ | ((first | with_reducible apply ldI.mk | with_reducible apply ldB.mk | with_reducible apply ldP.mk | with_reducible apply ldS.mk | with_reducible apply ldM.mk | with_reducible apply ldF.mk | with_reducible apply ldG.mk); (· exact (by refine Ok.cellS h (by with_reducible first | exact sl0 | exact .there sl0 | exact .there sl1 | exact .there sl2 | exact .there sl3 | exact .there sl4 | exact .there sl5 | exact .there sl6 | exact .there sl7 | exact .there sl8 | exact .there sl9 | exact .there sl10 | exact .there sl11 | exact .there sl12) ?_; rfl))) | (refine st1.mk (Ok.bring h (by with_reducible first | exact sl0 | exact .there sl0 | exact .there sl1 | exact .there sl2 | exact .there sl3 | exact .there sl4 | exact .there sl5 | exact .there sl6 | exact .there sl7 | exact .there sl8 | exact .there sl9 | exact .there sl10 | exact .there sl11 | exact .there sl12)) (by simp) fun _ h => ?_; dsimp only [List.set] at h)))
    refine jn.bool false (fun J hJ => ?_) ?_
    · refine ldB.mk (x := true) (by refine Ok.cellS h (by with_reducible first | exact sl0 | exact .there sl0 | exact .there sl1 | exact .there sl2 | exact .there sl3 | exact .there sl4 | exact .there sl5 | exact .there sl6 | exact .there sl7 | exact .there sl8 | exact .there sl9 | exact .there sl10 | exact .there sl11 | exact .there sl12) ?_; rfl) (cs.no rfl (ldS.mk (x := y) (by refine Ok.cellS h (by with_reducible first | exact sl0 | exact .there sl0 | exact .there sl1 | exact .there sl2 | exact .there sl3 | exact .there sl4 | exact .there sl5 | exact .there sl6 | exact .there sl7 | exact .there sl8 | exact .there sl9 | exact .there sl10 | exact .there sl11 | exact .there sl12) ?_; rfl) (tx.mkR bsT (Ok.emb (h) (.cons (A := rdb y _) (by with_reducible first | exact sl0 | exact .there sl0 | exact .there sl1 | exact .there sl2 | exact .there sl3 | exact .there sl4 | exact .there sl5 | exact .there sl6 | exact .there sl7 | exact .there sl8 | exact .there sl9 | exact .there sl10 | exact .there sl11 | exact .there sl12) (.same _))) ?_)))
      refine A.ix k _ hlt fun bb oo hc => ldS.mk (hc _ ⟨_, (Ok.emb (h) (.cons (A := old e) (by with_reducible first | exact sl0 | exact .there sl0 | exact .there sl1 | exact .there sl2 | exact .there sl3 | exact .there sl4 | exact .there sl5 | exact .there sl6 | exact .there sl7 | exact .there sl8 | exact .there sl9 | exact .there sl10 | exact .there sl11 | exact .there sl12) (.same _)))⟩) ?_
      refine tx.mk bsT (Ok.emb (h) (.cons (A := old e) (by with_reducible first | exact sl0 | exact .there sl0 | exact .there sl1 | exact .there sl2 | exact .there sl3 | exact .there sl4 | exact .there sl5 | exact .there sl6 | exact .there sl7 | exact .there sl8 | exact .there sl9 | exact .there sl10 | exact .there sl11 | exact .there sl12) (.same _))) (A.rd k hlt) ?_
      rw [str_eq]
      exact hJ
    refine cs.no rfl ?_
    dsimp only
    rw [w64_succ (by omega)]
    refine ⟨⟨k + 1, _, rfl, hlt, tryRecv_ok (z := z) ho, e3, ((Ok.emb (h) (.cons (A := pts c _) (by with_reducible first | exact sl0 | exact .there sl0 | exact .there sl1 | exact .there sl2 | exact .there sl3 | exact .there sl4 | exact .there sl5 | exact .there sl6 | exact .there sl7 | exact .there sl8 | exact .there sl9 | exact .there sl10 | exact .there sl11 | exact .there sl12) (.cons (A := rdb y _) (by with_reducible first | exact sl0 | exact .there sl0 | exact .there sl1 | exact .there sl2 | exact .there sl3 | exact .there sl4 | exact .there sl5 | exact .there sl6 | exact .there sl7 | exact .there sl8 | exact .there sl9 | exact .there sl10 | exact .there sl11 | exact .there sl12) (.cons (A := slc 1 u _) (by with_reducible first | exact sl0 | exact .there sl0 | exact .there sl1 | exact .there sl2 | exact .there sl3 | exact .there sl4 | exact .there sl5 | exact .there sl6 | exact .there sl7 | exact .there sl8 | exact .there sl9 | exact .there sl10 | exact .there sl11 | exact .there sl12) (.cons (A := mbfP b _ _ _ _) (by with_reducible first | exact sl0 | exact .there sl0 | exact .there sl1 | exact .there sl2 | exact .there sl3 | exact .there sl4 | exact .there sl5 | exact .there sl6 | exact .there sl7 | exact .there sl8 | exact .there sl9 | exact .there sl10 | exact .there sl11 | exact .there sl12) (.same _))))))).drop.drop.drop⟩, ?_⟩
    show a1.len - Int.toNat ((k + 1 : Nat) : Int) < a1.len - Int.toNat (k : Int)
    omega
  · have hge : a1.len ≤ k := by have := of_decide_eq_false hge; dsimp only at this; omega
    rw [List.drop_of_length_le (by simpa using hge)] at hq
    obtain ⟨e1, e2, e3⟩ := tryRecv_none (z := z) hq
    refine call11 (TryRecv_mbf h ho fun y u w5 hu h => ⟨((y, false, u, ()), ()), by rw [e1]; rfl, ?_⟩)
    rw [e1] at h
    dsimp only at h
    have h := ((Ok.emb (h) (.cons (A := rdb y _) (by with_reducible first | exact sl0 | exact .there sl0 | exact .there sl1 | exact .there sl2 | exact .there sl3 | exact .there sl4 | exact .there sl5 | exact .there sl6 | exact .there sl7 | exact .there sl8 | exact .there sl9 | exact .there sl10 | exact .there sl11 | exact .there sl12) (.cons (A := slc 1 u _) (by with_reducible first | exact sl0 | exact .there sl0 | exact .there sl1 | exact .there sl2 | exact .there sl3 | exact .there sl4 | exact .there sl5 | exact .there sl6 | exact .there sl7 | exact .there sl8 | exact .there sl9 | exact .there sl10 | exact .there sl11 | exact .there sl12) (.same _))))).drop.drop
    refine jn.at (true, ()) (fun w' => Ok e [mbfP b false 100 z q, old e] w') (fun J hJ => cs.yes rfl ?_) (fun w6 h => ?_)
    · refine call12 (Senders_mbf h ho fun s w6 hs h => ⟨(s, ()), rfl, ?_⟩)
      have hs : s.len = 0 := by rw [hs, e2]; rfl
      dsimp only
      rw [hs]
      exact hJ _ h.drop
    refine jn.at (true, ()) (fun w' => Ok e [mbfP b false 100 z q, old e] w') (fun J hJ => cs.yes rfl (free_mbf h fun w7 h => ?_)) (fun w8 h => ⟨rfl, h.drop⟩)
    have hz : (((z : Int) - (szR q.M : Nat) : Int) == (z : Int)) = true := by rw [e3]; simp [szR]
    dsimp only
    rw [hz]
    exact hJ _ h

def rg (a b : Nat) : List (Int × Int) := (List.range' a (b - a)).map fun j => (((j + 1 : Nat) : Int), (1 : Int))

theorem rg_snoc {i : Nat} : rg 0 i ++ [(((i + 1 : Nat) : Int), 1)] = rg 0 (i + 1) := by
  unfold rg
  rw [Nat.sub_zero, Nat.sub_zero, List.range'_concat, List.map_append]
  simp

theorem rg_cons {i n : Nat} (h : i < n) : rg i n = (((i + 1 : Nat) : Int), 1) :: rg (i + 1) n := by
  unfold rg
  rw [show n - i = (n - (i + 1)) + 1 by omega, List.range'_succ]
  rfl

theorem rg_nil {n : Nat} : rg n n = [] := by simp [rg]

theorem rg_ids {i : Nat} {j : Int} (h : j ∈ ids (rg 0 i)) : 1 ≤ j ∧ j ≤ (i : Int) := by
  obtain ⟨x, hx, rfl⟩ := List.mem_map.1 h
  obtain ⟨k, hk, rfl⟩ := List.mem_map.1 hx
  rw [List.mem_range'_1] at hk
  dsimp only
  omega

theorem fit0 {M : List (List UInt8)} {n : Int} : fitR 0 M n = false := by
  unfold fitR
  refine decide_eq_false fun h => ?_
  have := h.2.2
  unfold tk at this
  omega

/-- who waits, with what -/
def hands (sf : Bool) (F : Nat → List UInt8) (a b : Nat) (q : BB) : Prop := q.M = [] ∧ if sf then q.R = [] ∧ q.S = rg a b ∧ ∀ j, a ≤ j → j < b → q.s ((j + 1 : Nat) : Int) = F j else q.S = [] ∧ q.R = rg a b

set_option maxHeartbeats 2000000 in
theorem BufferHands_walk {e : World} {a0 : Sl} {a1 : Bool} {vs : List Value} (ha : ArgF [.s (.i .u8)] e a0 vs) : sh6 a0 a1 (LawEnd e) e := by
  unfold sh6
  refine call8 (known_16 (Ok.start e) fun w1 h => ⟨(true, ()), enc_b rfl, ?_⟩)
  refine cs.no rfl ?_
  refine cs.mk (fun _ => ⟨rfl, h⟩) (fun hn8 => ?_)
  have hn8 : a0.len ≤ 8 := by have := of_decide_eq_false hn8; omega
  obtain ⟨X, F, A⟩ := argB_of ha (by omega)
  refine call9 (New_mbf h (fun h0 => absurd (by unfold mkB'; decide) h0) fun _ b w2 h => ⟨(some ⟨b, 0, none⟩, (0 : Int), ()), rfl, ?_⟩)
  have h : Ok e [mbfP b false 100 0 bb0, old e] w2 := h
  have o0 : BBo 0 bb0 := bb0_ok (by omega)
  refine lp.mk (fun t w' => ∃ (i : Nat) (q : BB), t.1 = (i : Int) ∧ i ≤ a0.len ∧ BBo 0 q ∧ hands a1 F 0 i q ∧ (∀ j, j < i → 1 ≤ (F j).length ∧ (F j).length ≤ 100) ∧ Ok e [mbfP b false 100 0 q, old e] w') (fun t _ => a0.len - t.1.toNat)
    ⟨0, bb0, rfl, Nat.zero_le _, o0, ⟨rfl, by cases a1; exact ⟨rfl, rfl⟩; exact ⟨rfl, rfl, fun j _ hj => absurd hj (Nat.not_lt_zero _)⟩⟩, fun j hj => absurd hj (Nat.not_lt_zero _), h⟩ ?_
  clear h
  rintro ⟨(i' : Int), _⟩ w3 ⟨i, q, hi, hi1, ho, hq, hF, h⟩
  dsimp only at hi
  subst hi
  refine cs.mk (fun hlt => ?_) (fun hge => ?_)
  · have hlt : i < a0.len := by have := of_decide_eq_true hlt; dsimp only at this; omega
    have r := A.rd i hlt
    have hxl := r.len
    refine A.ix i _ hlt fun bb oo hc => ldS.mk (hc _ ⟨_, h.p1⟩) ?_
    refine jn.g (1 ≤ (X i).len ∧ (X i).len ≤ 100) (fun J hJ => cs.mk (fun h1 => hJ true (fun h => by cases h)) (fun h1 => A.ix i _ hlt fun b2 o2 hc2 => ldS.mk (hc2 _ ⟨_, h.p1⟩) (hJ _ fun h2 => ?_))) fun c1 hc1 => ?_
    · have := of_decide_eq_false h2
      have := ne_of_beq_false h1
      omega
    refine cs.mk (fun _ => ⟨rfl, h.p1.only⟩) (fun h1 => ?_)
    have hx := hc1 h1
    clear hc1 h1 hc
    have hF2 : ∀ j, j < i + 1 → 1 ≤ (F j).length ∧ (F j).length ≤ 100 := by
      intro j hj
      by_cases hji : j < i
      · exact hF j hji
      · obtain rfl : j = i := by omega
        omega
    have hme : a0.len - Int.toNat ((i + 1 : Nat) : Int) < a0.len - Int.toNat (i : Int) := by omega
    cases a1 with
    | true =>
      obtain ⟨hM, hR, hS, hs⟩ := hq
      refine cs.yes rfl ?_
      refine A.ix i _ hlt fun b2 o2 hc2 => ldS.mk (hc2 _ ⟨_, h.p1⟩) ?_
      clear hc2
      dsimp only
      rw [w64_succ (by omega)]
      have hni : ((i + 1 : Nat) : Int) ∉ ids q.S := fun hm => by rw [hS] at hm; have := rg_ids hm; omega
      have e1 := send_wait (z := 0) (most := 100) (byPri := false) (q := q) (t := ((i + 1 : Nat) : Int)) (pri := 1) (l := F i) (by omega) hR (fun hh => by rw [fit0] at hh; cases hh.2) (by omega) hni
      refine call10 (Send_mbf h r ho (by decide) fun w4 h => ⟨(false, (0 : Int), (0 : Int), ()), by rw [e1]; rfl, ?_⟩)
      have ho2 := send_ok (most := 100) (byPri := false) (t := ((i + 1 : Nat) : Int)) (pri := 1) (l := F i) ho (by decide)
      rw [e1, putL_end, hS, rg_snoc] at h ho2
      refine jn.bool false (fun J hJ => cs.no rfl hJ) ?_
      refine jn.bool false (fun J hJ => cs.no rfl hJ) ?_
      refine cs.no rfl ⟨⟨i + 1, _, rfl, hlt, ho2, ⟨hM, hR, rfl, fun j _ hj => ?_⟩, hF2, h⟩, hme⟩
      show updI q.s ((i + 1 : Nat) : Int) (F i) ((j + 1 : Nat) : Int) = F j
      by_cases hji : j = i
      · rw [hji, updI_same]
      · rw [updI_other (by omega)]
        exact hs j (Nat.zero_le _) (by omega)
    | false =>
      obtain ⟨hM, hS, hR⟩ := hq
      refine cs.no rfl ?_
      dsimp only
      rw [w64_succ (by omega)]
      have hni : ((i + 1 : Nat) : Int) ∉ ids q.R := fun hm => by rw [hR] at hm; have := rg_ids hm; omega
      obtain ⟨t1, t2, t3⟩ := tryRecv_none (z := 0) (q := q) (by unfold allB; rw [hM, hS]; rfl)
      have e2 : addL false q.R ((i + 1 : Nat) : Int) 1 = (0, putL false q.R (((i + 1 : Nat) : Int), 1)) := by
        have h1 : atI q.R ((i + 1 : Nat) : Int) < 0 := atI_neg.2 hni
        unfold addL
        rw [if_neg (by omega), if_neg (by omega)]
      have e1 : BB.recv 0 q ((i + 1 : Nat) : Int) 1 = ((([], false, []), 0), ⟨q.M, q.S, rg 0 (i + 1), q.s⟩) := by
        unfold BB.recv
        rw [t1, if_neg (by simp), e2, putL_end, hR, rg_snoc]
      refine call16 (Recv_mbf h ho fun y u w4 hu h => ⟨((y, false, u, ()), (0 : Int), ()), by rw [e1]; rfl, ?_⟩)
      have ho2 := recv_ok (t := ((i + 1 : Nat) : Int)) (pri := 1) ho
      rw [e1] at h ho2
      dsimp only at h ho2
      refine al.mk h fun c w5 h => ?_
      (repeat (first | with_reducible refine dr.mk h fun _ h => ?_ | with_reducible refine nn.mk ?_ | ((first | with_reducible apply ldI.mk | with_reducible apply ldB.mk | with_reducible apply ldP.mk | with_reducible apply ldS.mk | with_reducible apply ldM.mk | with_reducible apply ldF.mk | with_reducible apply ldG.mk); (· exact (by refine Ok.cellS h (by with_reducible first | exact sl0 | exact .there sl0 | exact .there sl1 | exact .there sl2 | exact .there sl3 | exact .there sl4 | exact .there sl5 | exact .there sl6 | exact .there sl7 | exact .there sl8 | exact .there sl9 | exact .there sl10 | exact .there sl11 | exact .there sl12) ?_; rfl))) | (refine st1.mk (Ok.bring h (by with_reducible first | exact sl0 | exact .there sl0 | exact .there sl1 | exact .there sl2 | exact .there sl3 | exact .there sl4 | exact .there sl5 | exact .there sl6 | exact .there sl7 | exact .there sl8 | exact .there sl9 | exact .there sl10 | exact .there sl11 | exact .there sl12)) (by simp) fun _ h => ?_; dsimp only [List.set] at h)))
      refine jn.bool false (fun J hJ => cs.no rfl hJ) ?_
      exact cs.no rfl ⟨⟨i + 1, _, rfl, hlt, ho2, ⟨hM, hS, rfl⟩, hF2, ((Ok.emb (h) (.cons (A := pts c _) (by with_reducible first | exact sl0 | exact .there sl0 | exact .there sl1 | exact .there sl2 | exact .there sl3 | exact .there sl4 | exact .there sl5 | exact .there sl6 | exact .there sl7 | exact .there sl8 | exact .there sl9 | exact .there sl10 | exact .there sl11 | exact .there sl12) (.cons (A := rdb y _) (by with_reducible first | exact sl0 | exact .there sl0 | exact .there sl1 | exact .there sl2 | exact .there sl3 | exact .there sl4 | exact .there sl5 | exact .there sl6 | exact .there sl7 | exact .there sl8 | exact .there sl9 | exact .there sl10 | exact .there sl11 | exact .there sl12) (.cons (A := slc 1 u _) (by with_reducible first | exact sl0 | exact .there sl0 | exact .there sl1 | exact .there sl2 | exact .there sl3 | exact .there sl4 | exact .there sl5 | exact .there sl6 | exact .there sl7 | exact .there sl8 | exact .there sl9 | exact .there sl10 | exact .there sl11 | exact .there sl12) (.cons (A := mbfP b _ _ _ _) (by with_reducible first | exact sl0 | exact .there sl0 | exact .there sl1 | exact .there sl2 | exact .there sl3 | exact .there sl4 | exact .there sl5 | exact .there sl6 | exact .there sl7 | exact .there sl8 | exact .there sl9 | exact .there sl10 | exact .there sl11 | exact .there sl12) (.same _))))))).drop.drop.drop⟩, hme⟩
  have hin : i = a0.len := by have := of_decide_eq_false hge; dsimp only at this; omega
  rw [hin] at hq hF
  clear hge hin hi1
  refine lp.mk (fun t w' => ∃ (i : Nat) (q : BB), t.1 = (i : Int) ∧ i ≤ a0.len ∧ BBo 0 q ∧ hands a1 F i a0.len q ∧ Ok e [mbfP b false 100 0 q, old e] w') (fun t _ => a0.len - t.1.toNat)
    ⟨0, q, rfl, Nat.zero_le _, ho, hq, h⟩ ?_
  clear h hq ho
  rintro ⟨(k' : Int), _⟩ w4 ⟨k, q, hk, hk1, ho, hq, h⟩
  dsimp only at hk
  subst hk
  refine cs.mk (fun hlt => ?_) (fun hge => ?_)
  · have hlt : k < a0.len := by have := of_decide_eq_true hlt; dsimp only at this; omega
    have hme : a0.len - Int.toNat ((k + 1 : Nat) : Int) < a0.len - Int.toNat (k : Int) := by omega
    have h9 : w64 ((k : Int) + 9) = ((k + 9 : Nat) : Int) := by rw [w64_in (by omega) (by omega)]; rfl
    have hFk := hF k hlt
    cases a1 with
    | true =>
      obtain ⟨hM, hR, hS, hs⟩ := hq
      refine cs.yes rfl ?_
      dsimp only
      rw [h9]
      rw [rg_cons hlt] at hS
      have e1 : BB.recv 0 q ((k + 9 : Nat) : Int) 1 = (((F k, true, [((k + 1 : Nat) : Int)]), 0), ⟨[], rg (k + 1) a0.len, q.R, q.s⟩) := by
        have e2 : BB.tryRecv 0 q = ((q.s ((k + 1 : Nat) : Int), true, [((k + 1 : Nat) : Int)]), ⟨[], rg (k + 1) a0.len, q.R, q.s⟩) := by
          obtain ⟨M, S, R, s⟩ := q
          dsimp only at hM hS
          subst hM
          subst hS
          rfl
        unfold BB.recv
        rw [e2, if_pos rfl, hs k (Nat.le_refl _) hlt]
      refine call16 (Recv_mbf h ho fun y u w5 hu h => ⟨((y, true, u, ()), (0 : Int), ()), by rw [e1]; rfl, ?_⟩)
      have ho2 := recv_ok (t := ((k + 9 : Nat) : Int)) (pri := 1) ho
      rw [e1] at h ho2 hu
      dsimp only at h ho2 hu
      refine al.mk h fun c w6 h => ?_
      (repeat (first | with_reducible refine dr.mk h fun _ h => ?_ | with_reducible refine nn.mk ?_ | ((first | with_reducible apply ldI.mk | with_reducible apply ldB.mk | with_reducible apply ldP.mk | with_reducible apply ldS.mk | with_reducible apply ldM.mk | with_reducible apply ldF.mk | with_reducible apply ldG.mk); (· exact (by refine Ok.cellS h (by with_reducible first | exact sl0 | exact .there sl0 | exact .there sl1 | exact .there sl2 | exact .there sl3 | exact .there sl4 | exact .there sl5 | exact .there sl6 | exact .there sl7 | exact .there sl8 | exact .there sl9 | exact .there sl10 | exact .there sl11 | exact .there sl12) ?_; rfl))) | (refine st1.mk (Ok.bring h (by with_reducible first | exact sl0 | exact .there sl0 | exact .there sl1 | exact .there sl2 | exact .there sl3 | exact .there sl4 | exact .there sl5 | exact .there sl6 | exact .there sl7 | exact .there sl8 | exact .there sl9 | exact .there sl10 | exact .there sl11 | exact .there sl12)) (by simp) fun _ h => ?_; dsimp only [List.set] at h)))
      refine jn.bool false (fun J hJ => ?_) ?_
      · refine ldB.mk (x := true) (by refine Ok.cellS h (by with_reducible first | exact sl0 | exact .there sl0 | exact .there sl1 | exact .there sl2 | exact .there sl3 | exact .there sl4 | exact .there sl5 | exact .there sl6 | exact .there sl7 | exact .there sl8 | exact .there sl9 | exact .there sl10 | exact .there sl11 | exact .there sl12) ?_; rfl) (cs.no rfl (ldS.mk (x := y) (by refine Ok.cellS h (by with_reducible first | exact sl0 | exact .there sl0 | exact .there sl1 | exact .there sl2 | exact .there sl3 | exact .there sl4 | exact .there sl5 | exact .there sl6 | exact .there sl7 | exact .there sl8 | exact .there sl9 | exact .there sl10 | exact .there sl11 | exact .there sl12) ?_; rfl) (tx.mkR bsT (Ok.emb (h) (.cons (A := rdb y _) (by with_reducible first | exact sl0 | exact .there sl0 | exact .there sl1 | exact .there sl2 | exact .there sl3 | exact .there sl4 | exact .there sl5 | exact .there sl6 | exact .there sl7 | exact .there sl8 | exact .there sl9 | exact .there sl10 | exact .there sl11 | exact .there sl12) (.same _))) ?_)))
        refine A.ix k _ hlt fun bb oo hc => ldS.mk (hc _ ⟨_, (Ok.emb (h) (.cons (A := old e) (by with_reducible first | exact sl0 | exact .there sl0 | exact .there sl1 | exact .there sl2 | exact .there sl3 | exact .there sl4 | exact .there sl5 | exact .there sl6 | exact .there sl7 | exact .there sl8 | exact .there sl9 | exact .there sl10 | exact .there sl11 | exact .there sl12) (.same _)))⟩) ?_
        refine tx.mk bsT (Ok.emb (h) (.cons (A := old e) (by with_reducible first | exact sl0 | exact .there sl0 | exact .there sl1 | exact .there sl2 | exact .there sl3 | exact .there sl4 | exact .there sl5 | exact .there sl6 | exact .there sl7 | exact .there sl8 | exact .there sl9 | exact .there sl10 | exact .there sl11 | exact .there sl12) (.same _))) (A.rd k hlt) ?_
        rw [str_eq]
        refine cs.no rfl (ldS.mk (x := u) (by refine Ok.cellS h (by with_reducible first | exact sl0 | exact .there sl0 | exact .there sl1 | exact .there sl2 | exact .there sl3 | exact .there sl4 | exact .there sl5 | exact .there sl6 | exact .there sl7 | exact .there sl8 | exact .there sl9 | exact .there sl10 | exact .there sl11 | exact .there sl12) ?_; rfl) (cs.no (by rw [hu]; rfl) (ldS.mk (x := u) (by refine Ok.cellS h (by with_reducible first | exact sl0 | exact .there sl0 | exact .there sl1 | exact .there sl2 | exact .there sl3 | exact .there sl4 | exact .there sl5 | exact .there sl6 | exact .there sl7 | exact .there sl8 | exact .there sl9 | exact .there sl10 | exact .there sl11 | exact .there sl12) ?_; rfl) ?_)))
        refine ix_int (xs := [((k + 1 : Nat) : Int)]) (Ok.emb (h) (.cons (A := slc 1 u _) (by with_reducible first | exact sl0 | exact .there sl0 | exact .there sl1 | exact .there sl2 | exact .there sl3 | exact .there sl4 | exact .there sl5 | exact .there sl6 | exact .there sl7 | exact .there sl8 | exact .there sl9 | exact .there sl10 | exact .there sl11 | exact .there sl12) (.same _))) (Int.le_refl _) (by rw [hu]; exact Int.one_pos) fun c2 o2 v hv hcc => ldI.mk (hcc _ ⟨_, (Ok.emb (h) (.cons (A := slc 1 u _) (by with_reducible first | exact sl0 | exact .there sl0 | exact .there sl1 | exact .there sl2 | exact .there sl3 | exact .there sl4 | exact .there sl5 | exact .there sl6 | exact .there sl7 | exact .there sl8 | exact .there sl9 | exact .there sl10 | exact .there sl11 | exact .there sl12) (.same _)))⟩) ?_
        cases hv
        rw [w64_succ (by omega)]
        exact cs.no (bne_self_eq_false _) hJ
      refine cs.no rfl ?_
      rw [w64_succ (by omega)]
      exact ⟨⟨k + 1, _, rfl, hlt, ho2, ⟨rfl, hR, rfl, fun j hj hj2 => hs j (by omega) hj2⟩, ((Ok.emb (h) (.cons (A := pts c _) (by with_reducible first | exact sl0 | exact .there sl0 | exact .there sl1 | exact .there sl2 | exact .there sl3 | exact .there sl4 | exact .there sl5 | exact .there sl6 | exact .there sl7 | exact .there sl8 | exact .there sl9 | exact .there sl10 | exact .there sl11 | exact .there sl12) (.cons (A := rdb y _) (by with_reducible first | exact sl0 | exact .there sl0 | exact .there sl1 | exact .there sl2 | exact .there sl3 | exact .there sl4 | exact .there sl5 | exact .there sl6 | exact .there sl7 | exact .there sl8 | exact .there sl9 | exact .there sl10 | exact .there sl11 | exact .there sl12) (.cons (A := slc 1 u _) (by with_reducible first | exact sl0 | exact .there sl0 | exact .there sl1 | exact .there sl2 | exact .there sl3 | exact .there sl4 | exact .there sl5 | exact .there sl6 | exact .there sl7 | exact .there sl8 | exact .there sl9 | exact .there sl10 | exact .there sl11 | exact .there sl12) (.cons (A := mbfP b _ _ _ _) (by with_reducible first | exact sl0 | exact .there sl0 | exact .there sl1 | exact .there sl2 | exact .there sl3 | exact .there sl4 | exact .there sl5 | exact .there sl6 | exact .there sl7 | exact .there sl8 | exact .there sl9 | exact .there sl10 | exact .there sl11 | exact .there sl12) (.same _))))))).drop.drop.drop⟩, hme⟩
    | false =>
      obtain ⟨hM, hS, hR⟩ := hq
      refine cs.no rfl ?_
      refine A.ix k _ hlt fun b2 o2 hc2 => ldS.mk (hc2 _ ⟨_, h.p1⟩) ?_
      clear hc2
      dsimp only
      rw [h9, w64_succ (by omega)]
      rw [rg_cons hlt] at hR
      have e1 : BB.send 0 100 false q ((k + 9 : Nat) : Int) 1 (F k) = ((true, ((k + 1 : Nat) : Int), 0), ⟨q.M, q.S, rg (k + 1) a0.len, q.s⟩) := by
        have e2 : BB.trySend 0 100 q (F k) = ((true, ((k + 1 : Nat) : Int), 0), ⟨q.M, q.S, rg (k + 1) a0.len, q.s⟩) := by
          obtain ⟨M, S, R, s⟩ := q
          dsimp only at hR
          subst hR
          unfold BB.trySend
          rw [if_neg (show ¬ (((F k).length : Int) < 1 ∨ ((F k).length : Int) > 100) by omega)]
        unfold BB.send
        rw [e2, if_pos (.inl rfl)]
      refine call10 (Send_mbf h (A.rd k hlt) ho (by decide) fun w5 h => ⟨(true, ((k + 1 : Nat) : Int), (0 : Int), ()), by rw [e1]; rfl, ?_⟩)
      have ho2 := send_ok (most := 100) (byPri := false) (t := ((k + 9 : Nat) : Int)) (pri := 1) (l := F k) ho (by decide)
      rw [e1] at h ho2
      refine jn.bool false (fun J hJ => cs.no rfl (by rw [bne_self_eq_false]; exact hJ)) ?_
      refine jn.bool false (fun J hJ => cs.no rfl hJ) ?_
      exact cs.no rfl ⟨⟨k + 1, _, rfl, hlt, ho2, ⟨hM, hS, rfl⟩, h⟩, hme⟩
  · have hkn : k = a0.len := by have := of_decide_eq_false hge; dsimp only at this; omega
    have hSR : q.S = [] ∧ q.R = [] ∧ q.M = [] := by
      rw [hkn] at hq
      cases a1 with
      | true =>
        obtain ⟨hM, hR, hS, hs⟩ := hq
        exact ⟨by rw [hS, rg_nil], hR, hM⟩
      | false =>
        obtain ⟨hM, hS, hR⟩ := hq
        exact ⟨hS, by rw [hR, rg_nil], hM⟩
    refine call12 (Senders_mbf h ho fun s w6 hs h => ⟨(s, ()), rfl, ?_⟩)
    refine call17 (Receivers_mbf h.drop ho fun s2 w7 hs2 h => ⟨(s2, ()), rfl, ?_⟩)
    have hs : s.len = 0 := by rw [hs, hSR.1]; rfl
    have hs2 : s2.len = 0 := by rw [hs2, hSR.2.1]; rfl
    dsimp only
    rw [hs, hs2]
    refine jn.bool true (fun J hJ => cs.yes rfl (len_mbf h.drop ?_)) ⟨rfl, ((Ok.emb (h) (.cons (A := old e) (by with_reducible first | exact sl0 | exact .there sl0 | exact .there sl1 | exact .there sl2 | exact .there sl3 | exact .there sl4 | exact .there sl5 | exact .there sl6 | exact .there sl7 | exact .there sl8 | exact .there sl9 | exact .there sl10 | exact .there sl11 | exact .there sl12) (.same _)))).only⟩
    rw [hSR.2.2]
    exact hJ

end Go.Proofs.Ytjamgdepbjipdaa.B
