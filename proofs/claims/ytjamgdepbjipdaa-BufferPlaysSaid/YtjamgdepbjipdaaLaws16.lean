/- Laws of layer 16. -/
import Derived.Test.YtjamgdepbjipdaaMbf4
import Derived.Test.YtjamgdepbjipdaaRow
namespace Go.Proofs.Ytjamgdepbjipdaa.B
open Go
set_option linter.unusedVariables false

/-- what a law ends with -/
abbrev LawEnd (e : World) : List Value → World → Prop := fun vs w' => vs = [.bool true] ∧ Ok e [old e] w'

theorem jn.g {w : World} {rest : TK [kB] → World → Prop} {body : (TK [kB] → World → Prop) → World → Prop} (p : Prop) (hb : ∀ J : TK [kB] → World → Prop, (∀ c : Bool, (c = false → p) → J (c, ()) w) → body J w)
    (hr : ∀ c : Bool, (c = false → p) → rest (c, ()) w) : jn [kB] w rest body := fun J hJ => hb J fun c hc => hJ _ _ (hr c hc)

theorem str_eq (l : List UInt8) : ((bs l).toList == (bs l).toList) = true := by simp

theorem slc_new8 {e w L b} {l : List UInt8} {n : Nat} (h : Ok e (pts b (by8 l) :: L) w) (hn : l.length = n) : Ok e (rdb ⟨some ⟨b, 0, none⟩, n, n⟩ l :: L) w :=
  (h.slcNew (n := n) (sz := 1) (by rw [by8_len]; omega) by8_one).slcR

theorem len_mbf {e w L b byPri most z q} {K : TK [kI] → World → Prop} (h : Ok e (mbfP b byPri most z q :: L) w) (k : K ((q.M.length : Int), ()) w) :
    nn (some ⟨b, 0, none⟩) fun b1 o1 => ldP w b1 o1 fun p => cl Pg 15 [.pointer p] [kI] w K := by
  obtain ⟨rb, sp, rp, m, f, σ, h1, h⟩ := mbfE h
  refine nn.mk (ldP.mk (by refine Ok.cellS h (by with_reducible first | exact sl0 | exact .there sl0 | exact .there sl1 | exact .there sl2 | exact .there sl3 | exact .there sl4 | exact .there sl5 | exact .there sl6 | exact .there sl7 | exact .there sl8 | exact .there sl9 | exact .there sl10 | exact .there sl11 | exact .there sl12) ?_; rfl) ?_)
  exact call15 (Len_ring (Ok.emb (h) (.cons (A := ringP rb _ _) (by with_reducible first | exact sl0 | exact .there sl0 | exact .there sl1 | exact .there sl2 | exact .there sl3 | exact .there sl4 | exact .there sl5 | exact .there sl6 | exact .there sl7 | exact .there sl8 | exact .there sl9 | exact .there sl10 | exact .there sl11 | exact .there sl12) (.same _))) ⟨_, rfl, k⟩)

theorem free_mbf {e w L b byPri most z q} {K : TK [kI] → World → Prop} (h : Ok e (mbfP b byPri most z q :: L) w) (k : ∀ w', Ok e (mbfP b byPri most z q :: L) w' → K (((z : Int) - (szR q.M : Nat) : Int), ()) w') :
    nn (some ⟨b, 0, none⟩) fun b1 o1 => ldP w b1 o1 fun p => cl Pg 13 [.pointer p] [kI] w K := by
  obtain ⟨rb, sp, rp, m, f, σ, h1, h⟩ := mbfE h
  refine nn.mk (ldP.mk (by refine Ok.cellS h (by with_reducible first | exact sl0 | exact .there sl0 | exact .there sl1 | exact .there sl2 | exact .there sl3 | exact .there sl4 | exact .there sl5 | exact .there sl6 | exact .there sl7 | exact .there sl8 | exact .there sl9 | exact .there sl10 | exact .there sl11 | exact .there sl12) ?_; rfl) ?_)
  refine call13 (Free_ring (Ok.emb (h) (.cons (A := ringP rb _ _) (by with_reducible first | exact sl0 | exact .there sl0 | exact .there sl1 | exact .there sl2 | exact .there sl3 | exact .there sl4 | exact .there sl5 | exact .there sl6 | exact .there sl7 | exact .there sl8 | exact .there sl9 | exact .there sl10 | exact .there sl11 | exact .there sl12) (.same _))) fun w' h => ⟨(((z : Int) - (szR q.M : Nat) : Int), ()), rfl, k w' ?_⟩)
  exact mbfI (q := q) h1 (Ok.emb (h) (.cons (A := pts b _) (by with_reducible first | exact sl0 | exact .there sl0 | exact .there sl1 | exact .there sl2 | exact .there sl3 | exact .there sl4 | exact .there sl5 | exact .there sl6 | exact .there sl7 | exact .there sl8 | exact .there sl9 | exact .there sl10 | exact .there sl11 | exact .there sl12) (.cons (A := ringP rb _ _) (by with_reducible first | exact sl0 | exact .there sl0 | exact .there sl1 | exact .there sl2 | exact .there sl3 | exact .there sl4 | exact .there sl5 | exact .there sl6 | exact .there sl7 | exact .there sl8 | exact .there sl9 | exact .there sl10 | exact .there sl11 | exact .there sl12) (.cons (A := lineP sp _ _) (by with_reducible first | exact sl0 | exact .there sl0 | exact .there sl1 | exact .there sl2 | exact .there sl3 | exact .there sl4 | exact .there sl5 | exact .there sl6 | exact .there sl7 | exact .there sl8 | exact .there sl9 | exact .there sl10 | exact .there sl11 | exact .there sl12) (.cons (A := lineP rp _ _) (by with_reducible first | exact sl0 | exact .there sl0 | exact .there sl1 | exact .there sl2 | exact .there sl3 | exact .there sl4 | exact .there sl5 | exact .there sl6 | exact .there sl7 | exact .there sl8 | exact .there sl9 | exact .there sl10 | exact .there sl11 | exact .there sl12) (.cons (A := mpP m _) (by with_reducible first | exact sl0 | exact .there sl0 | exact .there sl1 | exact .there sl2 | exact .there sl3 | exact .there sl4 | exact .there sl5 | exact .there sl6 | exact .there sl7 | exact .there sl8 | exact .there sl9 | exact .there sl10 | exact .there sl11 | exact .there sl12) (.cons (A := bagP σ _ _) (by with_reducible first | exact sl0 | exact .there sl0 | exact .there sl1 | exact .there sl2 | exact .there sl3 | exact .there sl4 | exact .there sl5 | exact .there sl6 | exact .there sl7 | exact .there sl8 | exact .there sl9 | exact .there sl10 | exact .there sl11 | exact .there sl12) (.same _))))))))

set_option maxHeartbeats 4000000 in
theorem known_16 {e w L R} (h : Ok e L w) (k : ∀ w', Ok e L w' → R [.bool true] w') : sh8 R w := by
  unfold sh8
  refine call9 (New_mbf h (fun h0 => absurd (by unfold mkB'; decide) h0) fun _ b w1 h => ⟨(some ⟨b, 0, none⟩, (0 : Int), ()), rfl, ?_⟩)
  have o0 : BBo 16 bb0 := bb0_ok (by decide)
  refine jn.bool false (fun J hJ => cs.no rfl hJ) ?_
  refine jn.bool false (fun J hJ => cs.no rfl ?_) ?_
  · obtain ⟨rb, sp, rp, m, f, σ, h1, h⟩ := mbfE h
    (repeat (first | with_reducible refine dr.mk h fun _ h => ?_ | with_reducible refine nn.mk ?_ | ((first | with_reducible apply ldI.mk | with_reducible apply ldB.mk | with_reducible apply ldP.mk | with_reducible apply ldS.mk | with_reducible apply ldM.mk | with_reducible apply ldF.mk | with_reducible apply ldG.mk); (· exact (by refine Ok.cellS h (by with_reducible first | exact sl0 | exact .there sl0 | exact .there sl1 | exact .there sl2 | exact .there sl3 | exact .there sl4 | exact .there sl5 | exact .there sl6 | exact .there sl7 | exact .there sl8 | exact .there sl9 | exact .there sl10 | exact .there sl11 | exact .there sl12) ?_; rfl))) | (refine st1.mk (Ok.bring h (by with_reducible first | exact sl0 | exact .there sl0 | exact .there sl1 | exact .there sl2 | exact .there sl3 | exact .there sl4 | exact .there sl5 | exact .there sl6 | exact .there sl7 | exact .there sl8 | exact .there sl9 | exact .there sl10 | exact .there sl11 | exact .there sl12)) (by simp) fun _ h => ?_; dsimp only [List.set] at h)))
    exact hJ
  refine cs.no rfl ?_
  refine al.mk h fun b1 w2 h => ?_
  have h : Ok e (pts b1 (by8 [111, 110, 101]) :: mbfP b false 8 16 bb0 :: L) w2 := h
  refine ef.mark mkB h rfl fun w3 h => ?_
  have hr := rdb_rd h
  refine call10 (Send_mbf h.p1 hr o0 (by decide) fun w4 h => ⟨(true, (0 : Int), (0 : Int), ()), rfl, ?_⟩)
  have o1 := send_ok (most := 8) (byPri := false) (t := 1) (pri := 5) (l := [111, 110, 101]) o0 (by decide)
  have e1 : (bb0.send 16 8 false 1 5 [111, 110, 101]).2 = ⟨[[111, 110, 101]], [], [], fun _ => []⟩ := by rfl
  have h : Ok e (mbfP b false 8 16 (bb0.send 16 8 false 1 5 [111, 110, 101]).2 :: _ :: L) w4 := h
  rw [e1] at h o1
  refine al.mk h fun b2 w5 h => ?_
  have h : Ok e (pts b2 (by8 [116, 119, 101, 108, 118, 101]) :: mbfP b false 8 16 ⟨[[111, 110, 101]], [], [], fun _ => []⟩ :: _ :: L) w5 := h
  refine ef.mark mkB h rfl fun w6 h => ?_
  have hr := rdb_rd h
  refine call10 (Send_mbf h.p1 hr o1 (by decide) fun w7 h => ⟨(false, (0 : Int), (0 : Int), ()), rfl, ?_⟩)
  have o2 := send_ok (most := 8) (byPri := false) (t := 2) (pri := 5) (l := [116, 119, 101, 108, 118, 101]) o1 (by decide)
  have e2 : (BB.send 16 8 false ⟨[[111, 110, 101]], [], [], fun _ => []⟩ 2 5 [116, 119, 101, 108, 118, 101]).2 = ⟨[[111, 110, 101]], [(2, 5)], [], updI (fun _ => []) 2 [116, 119, 101, 108, 118, 101]⟩ := by rfl
  rw [e2] at h o2
  refine call16 (Recv_mbf h o2 fun y u w8 hu h => ⟨((y, true, u, ()), (0 : Int), ()), rfl, ?_⟩)
  have o3 := recv_ok (t := 3) (pri := 5) o2
  have e3 : (BB.recv 16 ⟨[[111, 110, 101]], [(2, 5)], [], updI (fun _ => []) 2 [116, 119, 101, 108, 118, 101]⟩ 3 5) = ((([111, 110, 101], true, [2]), 0), ⟨[[116, 119, 101, 108, 118, 101]], [], [], updI (fun _ => []) 2 [116, 119, 101, 108, 118, 101]⟩) := by rfl
  rw [e3] at h o3 hu
  dsimp only at h o3 hu
  refine al.mk h fun b3 w9 h => ?_
  (repeat (first | with_reducible refine dr.mk h fun _ h => ?_ | with_reducible refine nn.mk ?_ | ((first | with_reducible apply ldI.mk | with_reducible apply ldB.mk | with_reducible apply ldP.mk | with_reducible apply ldS.mk | with_reducible apply ldM.mk | with_reducible apply ldF.mk | with_reducible apply ldG.mk); (· exact (by refine Ok.cellS h (by with_reducible first | exact sl0 | exact .there sl0 | exact .there sl1 | exact .there sl2 | exact .there sl3 | exact .there sl4 | exact .there sl5 | exact .there sl6 | exact .there sl7 | exact .there sl8 | exact .there sl9 | exact .there sl10 | exact .there sl11 | exact .there sl12) ?_; rfl))) | (refine st1.mk (Ok.bring h (by with_reducible first | exact sl0 | exact .there sl0 | exact .there sl1 | exact .there sl2 | exact .there sl3 | exact .there sl4 | exact .there sl5 | exact .there sl6 | exact .there sl7 | exact .there sl8 | exact .there sl9 | exact .there sl10 | exact .there sl11 | exact .there sl12)) (by simp) fun _ h => ?_; dsimp only [List.set] at h)))
  have h := ((Ok.emb (h) (.cons (A := mbfP b _ _ _ _) (by with_reducible first | exact sl0 | exact .there sl0 | exact .there sl1 | exact .there sl2 | exact .there sl3 | exact .there sl4 | exact .there sl5 | exact .there sl6 | exact .there sl7 | exact .there sl8 | exact .there sl9 | exact .there sl10 | exact .there sl11 | exact .there sl12) (.cons (A := rdb y _) (by with_reducible first | exact sl0 | exact .there sl0 | exact .there sl1 | exact .there sl2 | exact .there sl3 | exact .there sl4 | exact .there sl5 | exact .there sl6 | exact .there sl7 | exact .there sl8 | exact .there sl9 | exact .there sl10 | exact .there sl11 | exact .there sl12) (.cons (A := slc 1 u _) (by with_reducible first | exact sl0 | exact .there sl0 | exact .there sl1 | exact .there sl2 | exact .there sl3 | exact .there sl4 | exact .there sl5 | exact .there sl6 | exact .there sl7 | exact .there sl8 | exact .there sl9 | exact .there sl10 | exact .there sl11 | exact .there sl12) (.cons (A := pts b3 _) (by with_reducible first | exact sl0 | exact .there sl0 | exact .there sl1 | exact .there sl2 | exact .there sl3 | exact .there sl4 | exact .there sl5 | exact .there sl6 | exact .there sl7 | exact .there sl8 | exact .there sl9 | exact .there sl10 | exact .there sl11 | exact .there sl12) (.same _))))))).rdbNil (s := ⟨none, 0, 0⟩) rfl
  refine call14 (a1 := ⟨none, 0, 0⟩) (TrySend_mbf h.p1 (rdb_rd h) o3 (by decide) fun w10 h => ⟨(false, (0 : Int), (-17 : Int), ()), rfl, ?_⟩)
  have h : Ok e (mbfP b false 8 16 ⟨[[116, 119, 101, 108, 118, 101]], [], [], updI (fun _ => []) 2 [116, 119, 101, 108, 118, 101]⟩ :: _) w10 := h
  refine jn.bool true (fun J hJ => cs.yes rfl hJ) ?_
  refine jn.bool true (fun J hJ => cs.yes rfl hJ) ?_
  refine jn.bool true (fun J hJ => cs.yes rfl ?_) ?_
  · refine ldB.mk (x := true) (by refine Ok.cellS h (by with_reducible first | exact sl0 | exact .there sl0 | exact .there sl1 | exact .there sl2 | exact .there sl3 | exact .there sl4 | exact .there sl5 | exact .there sl6 | exact .there sl7 | exact .there sl8 | exact .there sl9 | exact .there sl10 | exact .there sl11 | exact .there sl12) ?_; rfl) ?_
    exact hJ
  refine jn.bool true (fun J hJ => cs.yes rfl ?_) ?_
  · refine ldS.mk (x := y) (by refine Ok.cellS h (by with_reducible first | exact sl0 | exact .there sl0 | exact .there sl1 | exact .there sl2 | exact .there sl3 | exact .there sl4 | exact .there sl5 | exact .there sl6 | exact .there sl7 | exact .there sl8 | exact .there sl9 | exact .there sl10 | exact .there sl11 | exact .there sl12) ?_; rfl) (tx.mkR bsT (Ok.emb (h) (.cons (A := rdb y _) (by with_reducible first | exact sl0 | exact .there sl0 | exact .there sl1 | exact .there sl2 | exact .there sl3 | exact .there sl4 | exact .there sl5 | exact .there sl6 | exact .there sl7 | exact .there sl8 | exact .there sl9 | exact .there sl10 | exact .there sl11 | exact .there sl12) (.same _))) ?_)
    rw [str_eq]
    exact hJ
  refine jn.bool true (fun J hJ => cs.yes rfl ?_) ?_
  · refine ldS.mk (x := u) (by refine Ok.cellS h (by with_reducible first | exact sl0 | exact .there sl0 | exact .there sl1 | exact .there sl2 | exact .there sl3 | exact .there sl4 | exact .there sl5 | exact .there sl6 | exact .there sl7 | exact .there sl8 | exact .there sl9 | exact .there sl10 | exact .there sl11 | exact .there sl12) ?_; rfl) ?_
    rw [hu]
    exact hJ
  refine jn.bool true (fun J hJ => cs.yes rfl ?_) ?_
  · refine ldS.mk (x := u) (by refine Ok.cellS h (by with_reducible first | exact sl0 | exact .there sl0 | exact .there sl1 | exact .there sl2 | exact .there sl3 | exact .there sl4 | exact .there sl5 | exact .there sl6 | exact .there sl7 | exact .there sl8 | exact .there sl9 | exact .there sl10 | exact .there sl11 | exact .there sl12) ?_; rfl) ?_
    refine ix_int (xs := [2]) (Ok.emb (h) (.cons (A := slc 1 u _) (by with_reducible first | exact sl0 | exact .there sl0 | exact .there sl1 | exact .there sl2 | exact .there sl3 | exact .there sl4 | exact .there sl5 | exact .there sl6 | exact .there sl7 | exact .there sl8 | exact .there sl9 | exact .there sl10 | exact .there sl11 | exact .there sl12) (.same _))) (Int.le_refl _) (by rw [hu]; decide) fun c o v hv hc => ldI.mk (hc _ ⟨_, (Ok.emb (h) (.cons (A := slc 1 u _) (by with_reducible first | exact sl0 | exact .there sl0 | exact .there sl1 | exact .there sl2 | exact .there sl3 | exact .there sl4 | exact .there sl5 | exact .there sl6 | exact .there sl7 | exact .there sl8 | exact .there sl9 | exact .there sl10 | exact .there sl11 | exact .there sl12) (.same _)))⟩) ?_
    cases hv
    exact hJ
  refine jn.bool true (fun J hJ => cs.yes rfl hJ) ?_
  refine jn.bool true (fun J hJ => cs.yes rfl (len_mbf h hJ)) ?_
  refine jn.at (true, ()) (fun w' => Ok e L w') (fun J hJ => cs.yes rfl ?_) (fun w' h => k w' h)
  refine call12 (Senders_mbf h o3 fun s w11 hs h => ⟨(s, ()), rfl, ?_⟩)
  have hs : s.len = 0 := hs
  dsimp only
  rw [hs]
  exact hJ _ (h.emb (by repeat' (first | with_reducible exact Emb.same _ | exact Emb.nil _ | refine Emb.cons (by with_reducible first | exact sl0 | exact .there sl0 | exact .there sl1 | exact .there sl2 | exact .there sl3 | exact .there sl4 | exact .there sl5 | exact .there sl6 | exact .there sl7 | exact .there sl8 | exact .there sl9 | exact .there sl10 | exact .there sl11 | exact .there sl12) ?_ | refine Emb.skip ?_)))

theorem BufferRefuses_walk {e : World} {a0 a1 : Int} (_ : (Lit.int .i64 a0).wf = true) (_ : (Lit.int .i64 a1).wf = true) : sh5 a0 a1 (LawEnd e) e := by
  unfold sh5
  refine call8 (known_16 (Ok.start e) fun w1 h => ⟨(true, ()), enc_b rfl, ?_⟩)
  refine cs.no rfl ?_
  refine jn.g (1 ≤ a0 ∧ a0 ≤ 1024) (fun J hJ => cs.mk (fun h1 => hJ true (fun h => by cases h)) (fun h1 => hJ _ fun h2 => ?_)) fun c1 hc1 => ?_
  · have := of_decide_eq_false h1; have := of_decide_eq_false h2; omega
  refine jn.g ((1 ≤ a0 ∧ a0 ≤ 1024) ∧ 0 ≤ a1) (fun J hJ => cs.mk (fun h1 => hJ true (fun h => by cases h)) (fun h1 => hJ _ fun h2 => ?_)) fun c2 hc2 => ?_
  · have := hc1 h1; have := of_decide_eq_false h2; omega
  refine jn.g ((1 ≤ a0 ∧ a0 ≤ 1024) ∧ 0 ≤ a1 ∧ a1 ≤ 1100) (fun J hJ => cs.mk (fun h1 => hJ true (fun h => by cases h)) (fun h1 => hJ _ fun h2 => ?_)) fun c3 hc3 => ?_
  · have := hc2 h1; have := of_decide_eq_false h2; omega
  refine cs.mk (fun _ => ⟨rfl, h⟩) (fun h1 => ?_)
  obtain ⟨⟨g1, g2⟩, g3, g4⟩ := hc3 h1
  clear hc1 hc2 hc3 h1
  refine call9 (New_mbf h (fun h0 => absurd ⟨g1, g2, by decide⟩ h0) fun _ b w2 h => ⟨(some ⟨b, 0, none⟩, (0 : Int), ()), rfl, ?_⟩)
  have o0 : BBo 2048 bb0 := bb0_ok (by decide)
  obtain ⟨n, rfl⟩ := Int.eq_ofNat_of_zero_le g3
  have h : Ok e [mbfP b true a0 2048 bb0, old e] w2 := h
  refine ef.makeB mkT_b h g3 (by omega) fun x w3 hx _ _ h => ?_
  rw [Int.toNat_natCast] at h
  have hr := slc_rdB h
  have h := h.p1
  generalize hl : List.replicate n (0 : UInt8) = l at h hr
  have hll : l.length = n := by rw [← hl]; simp
  have hT : (BB.trySend 2048 a0 bb0 l) = if n = 0 ∨ (n : Int) > a0 then ((false, 0, -17), bb0) else ((true, 0, 0), ⟨[l], [], [], fun _ => []⟩) := by
    unfold BB.trySend
    rw [hll]
    by_cases hc : n = 0 ∨ (n : Int) > a0
    · rw [if_pos hc, if_pos (show (n : Int) < 1 ∨ (n : Int) > a0 by omega)]
    · rw [if_neg hc, if_neg (show ¬ ((n : Int) < 1 ∨ (n : Int) > a0) by omega)]
      have hf : fitR 2048 bb0.M (n : Nat) = true := by
        unfold fitR
        refine decide_eq_true ⟨by omega, by omega, ?_⟩
        show 0 + tk n ≤ 2048
        unfold tk
        omega
      show (if bb0.S = [] ∧ fitR 2048 bb0.M (n : Nat) = true then _ else _) = _
      rw [if_pos ⟨rfl, hf⟩]
      rfl
  have e1 : BB.send 2048 a0 true bb0 1 1 l = BB.trySend 2048 a0 bb0 l := by
    unfold BB.send
    rw [if_pos]
    rw [hT]
    split
    · exact .inr (show (-17 : Int) ≠ 0 by decide)
    · exact .inl rfl
  refine call10 (Send_mbf h hr o0 g2 fun w4 h => ⟨((BB.trySend 2048 a0 bb0 l).1.1, (0 : Int), (BB.trySend 2048 a0 bb0 l).1.2.2, ()), by rw [e1, hT]; split <;> rfl, ?_⟩)
  rw [e1] at h
  have o1 := trySend_ok (most := a0) (l := l) o0
  refine jn.bool false (fun J hJ => cs.no rfl hJ) ?_
  refine cs.no rfl ?_
  by_cases hc : n = 0 ∨ (n : Int) > a0
  · rw [hT, if_pos hc] at h o1 ⊢
    refine jn.bool true (fun J hJ => cs.mk (fun h1 => hJ) (fun h1 => ?_)) ?_
    · have h1 := ne_of_beq_false h1
      rw [decide_eq_true (by omega)]
      exact hJ
    refine cs.yes rfl ?_
    refine jn.bool true (fun J hJ => cs.yes rfl hJ) ?_
    refine jn.bool true (fun J hJ => cs.yes rfl (len_mbf h hJ)) ?_
    refine jn.at (true, ()) (fun w' => Ok e [old e] w') (fun J hJ => cs.yes rfl ?_) (fun w' h => ⟨rfl, h⟩)
    refine call12 (Senders_mbf h o1 fun s w11 hs h => ⟨(s, ()), rfl, ?_⟩)
    have hs : s.len = 0 := hs
    dsimp only
    rw [hs]
    exact hJ _ (h.drop.drop.drop)
  · rw [hT, if_neg hc] at h o1 ⊢
    refine jn.bool false (fun J hJ => cs.no (beq_eq_false_iff_ne.2 (by omega)) ?_) ?_
    · rw [decide_eq_false (by omega)]
      exact hJ
    refine cs.no rfl ?_
    refine jn.bool true (fun J hJ => cs.yes rfl hJ) ?_
    refine jn.bool true (fun J hJ => cs.yes rfl (len_mbf h hJ)) ?_
    exact ⟨rfl, h.drop.drop⟩

end Go.Proofs.Ytjamgdepbjipdaa.B
