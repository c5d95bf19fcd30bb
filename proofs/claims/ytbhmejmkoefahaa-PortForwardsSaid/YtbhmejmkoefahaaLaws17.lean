/- Laws of layer 17. -/
import Derived.Test.YtbhmejmkoefahaaRef17c
import Derived.Test.YtbhmejmkoefahaaRow
namespace Go.Proofs.Ytbhmejmkoefahaa.B
open Go
set_option linter.unusedVariables false

/-- what a law ends with -/
abbrev LawEnd (e : World) : List Value → World → Prop := fun vs w' => vs = [.bool true] ∧ Ok e [old e] w'

/-- a guard: what is known where it doesn't hold -/
theorem jn.g {w : World} {rest : TK [kB] → World → Prop} {body : (TK [kB] → World → Prop) → World → Prop} (p : Prop) (hb : ∀ J : TK [kB] → World → Prop, (∀ c : Bool, (c = false → p) → J (c, ()) w) → body J w)
    (hr : ∀ c : Bool, (c = false → p) → rest (c, ()) w) : jn [kB] w rest body := fun J hJ => hb J fun c hc => hJ _ _ (hr c hc)

def pp0 : PP := ⟨[], [], fun _ => 0, fun _ => [], [], 0⟩

theorem pp0_ok : PPo 0 pp0 := ⟨okL_nil, okL_nil, fun i hi => by simp [pp0] at hi, Nat.le_refl _, ⟨Int.le_refl _, Int.le_refl _⟩, fun i hi => by simp [pp0] at hi⟩

/-- a slice of bytes that was just built -/
theorem slc_new8 {e w L b} {l : List UInt8} {n : Nat} (h : Ok e (pts b (by8 l) :: L) w) (hn : l.length = n) : Ok e (rdb ⟨some ⟨b, 0, none⟩, n, n⟩ l :: L) w :=
  (h.slcNew (n := n) (sz := 1) (by rw [by8_len]; omega) by8_one).slcR

set_option maxHeartbeats 4000000 in
theorem known_17 {e w L R} (h : Ok e L w) (k : ∀ w', Ok e L w' → R [.bool true] w') : sh7 R w := by
  unfold sh7
  refine call8 (New_por h (fun h0 => absurd (by decide) h0) fun _ b w1 h => ⟨(some ⟨b, 0, none⟩, (0 : Int), ()), rfl, ?_⟩)
  refine call8 (New_por h (fun h0 => absurd (by decide) h0) fun _ c w2 h => ⟨(some ⟨c, 0, none⟩, (0 : Int), ()), rfl, ?_⟩)
  have h : Ok e (portP c false 8 pp0 :: portP b false 8 pp0 :: L) w2 := h
  refine jn.bool false (fun J hJ => cs.no rfl hJ) ?_
  refine jn.bool false (fun J hJ => cs.no rfl hJ) ?_
  refine cs.no rfl ?_
  refine al.mk h fun b1 w3 h => ?_
  have h : Ok e (pts b1 (by8 [104, 105]) :: portP c false 8 pp0 :: portP b false 8 pp0 :: L) w3 := h
  refine ef.mark mkB h rfl fun w4 h => ?_
  have hr := rdb_rd h
  have h := (Ok.emb (h) (.cons (A := portP b _ _ _) (by with_reducible first | exact sl0 | exact .there sl0 | exact .there sl1 | exact .there sl2 | exact .there sl3 | exact .there sl4 | exact .there sl5 | exact .there sl6 | exact .there sl7 | exact .there sl8 | exact .there sl9 | exact .there sl10 | exact .there sl11 | exact .there sl12) (.cons (A := rdb _ _) (by with_reducible first | exact sl0 | exact .there sl0 | exact .there sl1 | exact .there sl2 | exact .there sl3 | exact .there sl4 | exact .there sl5 | exact .there sl6 | exact .there sl7 | exact .there sl8 | exact .there sl9 | exact .there sl10 | exact .there sl11 | exact .there sl12) (.same _))))
  refine call9 (Call_por h hr pp0_ok (by decide) (by decide) fun y w5 h => ⟨(((0 : Int), (0 : Int), y, false, ()), (0 : Int), ()), rfl, ?_⟩)
  have o1 := call_ok (byPri := false) (most := 8) (t := 1) (pri := 5) (bits := 3) (l := [104, 105]) pp0_ok (by decide)
  have e1 : (pp0.call false 8 1 5 3 [104, 105]).2 = ⟨[(1, 5)], [], updI (fun _ => 0) 1 3, updI (fun _ => []) 1 [104, 105], [], 0⟩ := by rfl
  rw [e1] at h o1
  refine al.mk h fun b2 w6 h => ?_
  (repeat (first | with_reducible refine dr.mk h fun _ h => ?_ | with_reducible refine nn.mk ?_ | ((first | with_reducible apply ldI.mk | with_reducible apply ldB.mk | with_reducible apply ldP.mk | with_reducible apply ldS.mk | with_reducible apply ldM.mk | with_reducible apply ldF.mk | with_reducible apply ldG.mk); (· exact (by refine Ok.cellS h (by with_reducible first | exact sl0 | exact .there sl0 | exact .there sl1 | exact .there sl2 | exact .there sl3 | exact .there sl4 | exact .there sl5 | exact .there sl6 | exact .there sl7 | exact .there sl8 | exact .there sl9 | exact .there sl10 | exact .there sl11 | exact .there sl12) ?_; rfl))) | (refine st1.mk (Ok.bring h (by with_reducible first | exact sl0 | exact .there sl0 | exact .there sl1 | exact .there sl2 | exact .there sl3 | exact .there sl4 | exact .there sl5 | exact .there sl6 | exact .there sl7 | exact .there sl8 | exact .there sl9 | exact .there sl10 | exact .there sl11 | exact .there sl12)) (by simp) fun _ h => ?_; dsimp only [List.set] at h)))
  have h := ((Ok.emb (h) (.cons (A := rdb y _) (by with_reducible first | exact sl0 | exact .there sl0 | exact .there sl1 | exact .there sl2 | exact .there sl3 | exact .there sl4 | exact .there sl5 | exact .there sl6 | exact .there sl7 | exact .there sl8 | exact .there sl9 | exact .there sl10 | exact .there sl11 | exact .there sl12) (.cons (A := rdb _ _) (by with_reducible first | exact sl0 | exact .there sl0 | exact .there sl1 | exact .there sl2 | exact .there sl3 | exact .there sl4 | exact .there sl5 | exact .there sl6 | exact .there sl7 | exact .there sl8 | exact .there sl9 | exact .there sl10 | exact .there sl11 | exact .there sl12) (.cons (A := pts b2 _) (by with_reducible first | exact sl0 | exact .there sl0 | exact .there sl1 | exact .there sl2 | exact .there sl3 | exact .there sl4 | exact .there sl5 | exact .there sl6 | exact .there sl7 | exact .there sl8 | exact .there sl9 | exact .there sl10 | exact .there sl11 | exact .there sl12) (.cons (A := portP b _ _ _) (by with_reducible first | exact sl0 | exact .there sl0 | exact .there sl1 | exact .there sl2 | exact .there sl3 | exact .there sl4 | exact .there sl5 | exact .there sl6 | exact .there sl7 | exact .there sl8 | exact .there sl9 | exact .there sl10 | exact .there sl11 | exact .there sl12) (.cons (A := portP c _ _ _) (by with_reducible first | exact sl0 | exact .there sl0 | exact .there sl1 | exact .there sl2 | exact .there sl3 | exact .there sl4 | exact .there sl5 | exact .there sl6 | exact .there sl7 | exact .there sl8 | exact .there sl9 | exact .there sl10 | exact .there sl11 | exact .there sl12) (.same _)))))))).drop.drop
  refine call10 (Accept_por (Ok.emb (h) (.cons (A := portP b _ _ _) (by with_reducible first | exact sl0 | exact .there sl0 | exact .there sl1 | exact .there sl2 | exact .there sl3 | exact .there sl4 | exact .there sl5 | exact .there sl6 | exact .there sl7 | exact .there sl8 | exact .there sl9 | exact .there sl10 | exact .there sl11 | exact .there sl12) (.same _))) o1 (by decide) fun y2 w7 h => ⟨(((1 : Int), (1 : Int), y2, true, ()), (0 : Int), ()), rfl, ?_⟩)
  have o2 := accept_ok (t := 2) (pri := 5) (bits := 2) o1
  have e2 : ((⟨[(1, 5)], [], updI (fun _ => 0) 1 3, updI (fun _ => []) 1 [104, 105], [], 0⟩ : PP).accept 2 5 2) = ((1, 1, [104, 105], true, 0), ⟨[], [], updI (fun _ => 0) 1 3, updI (fun _ => []) 1 [104, 105], [(1, 1, 5)], 1⟩) := by rfl
  rw [e2] at h o2
  dsimp only at h o2
  refine al.mk h fun b3 w8 h => ?_
  (repeat (first | with_reducible refine dr.mk h fun _ h => ?_ | with_reducible refine nn.mk ?_ | ((first | with_reducible apply ldI.mk | with_reducible apply ldB.mk | with_reducible apply ldP.mk | with_reducible apply ldS.mk | with_reducible apply ldM.mk | with_reducible apply ldF.mk | with_reducible apply ldG.mk); (· exact (by refine Ok.cellS h (by with_reducible first | exact sl0 | exact .there sl0 | exact .there sl1 | exact .there sl2 | exact .there sl3 | exact .there sl4 | exact .there sl5 | exact .there sl6 | exact .there sl7 | exact .there sl8 | exact .there sl9 | exact .there sl10 | exact .there sl11 | exact .there sl12) ?_; rfl))) | (refine st1.mk (Ok.bring h (by with_reducible first | exact sl0 | exact .there sl0 | exact .there sl1 | exact .there sl2 | exact .there sl3 | exact .there sl4 | exact .there sl5 | exact .there sl6 | exact .there sl7 | exact .there sl8 | exact .there sl9 | exact .there sl10 | exact .there sl11 | exact .there sl12)) (by simp) fun _ h => ?_; dsimp only [List.set] at h)))
  refine al.mk h fun b4 w9 h => ?_
  have h : Ok e (pts b4 (by8 [111, 110]) :: _) w9 := h
  refine ef.mark mkB h rfl fun w10 h => ?_
  have hr := rdb_rd h
  have h := (Ok.emb (h) (.cons (A := portP b _ _ _) (by with_reducible first | exact sl0 | exact .there sl0 | exact .there sl1 | exact .there sl2 | exact .there sl3 | exact .there sl4 | exact .there sl5 | exact .there sl6 | exact .there sl7 | exact .there sl8 | exact .there sl9 | exact .there sl10 | exact .there sl11 | exact .there sl12) (.cons (A := portP c _ _ _) (by with_reducible first | exact sl0 | exact .there sl0 | exact .there sl1 | exact .there sl2 | exact .there sl3 | exact .there sl4 | exact .there sl5 | exact .there sl6 | exact .there sl7 | exact .there sl8 | exact .there sl9 | exact .there sl10 | exact .there sl11 | exact .there sl12) (.cons (A := rdb ⟨some ⟨b4, 0, none⟩, 2, 2⟩ _) (by with_reducible first | exact sl0 | exact .there sl0 | exact .there sl1 | exact .there sl2 | exact .there sl3 | exact .there sl4 | exact .there sl5 | exact .there sl6 | exact .there sl7 | exact .there sl8 | exact .there sl9 | exact .there sl10 | exact .there sl11 | exact .there sl12) (.same _)))))
  refine call13 (Forward_other h hr o2 (pp0_ok.mono (by decide)) (by decide) (by decide) fun y3 w11 h => ⟨(((0 : Int), (0 : Int), y3, false, ()), (0 : Int), ()), rfl, ?_⟩)
  have e3 : ((⟨[], [], updI (fun _ => 0) 1 3, updI (fun _ => []) 1 [104, 105], [(1, 1, 5)], 1⟩ : PP).fwd pp0 false 8 1 1 [111, 110]) = ((0, 0, [], false, 0), ⟨[], [], updI (fun _ => 0) 1 3, updI (fun _ => []) 1 [104, 105], [], 1⟩, ⟨[(1, 5)], [], updI (fun _ => 0) 1 1, updI (fun _ => []) 1 [111, 110], [], 0⟩) := by rfl
  have o3 := (fwd_ok (byPri' := false) (most' := 8) (no := 1) (bits := 1) (l := [111, 110]) o2 (pp0_ok.mono (by decide)) (by decide)).2
  rw [e3] at h o3
  dsimp only at h o3
  refine al.mk h fun b5 w12 h => ?_
  (repeat (first | with_reducible refine dr.mk h fun _ h => ?_ | with_reducible refine nn.mk ?_ | ((first | with_reducible apply ldI.mk | with_reducible apply ldB.mk | with_reducible apply ldP.mk | with_reducible apply ldS.mk | with_reducible apply ldM.mk | with_reducible apply ldF.mk | with_reducible apply ldG.mk); (· exact (by refine Ok.cellS h (by with_reducible first | exact sl0 | exact .there sl0 | exact .there sl1 | exact .there sl2 | exact .there sl3 | exact .there sl4 | exact .there sl5 | exact .there sl6 | exact .there sl7 | exact .there sl8 | exact .there sl9 | exact .there sl10 | exact .there sl11 | exact .there sl12) ?_; rfl))) | (refine st1.mk (Ok.bring h (by with_reducible first | exact sl0 | exact .there sl0 | exact .there sl1 | exact .there sl2 | exact .there sl3 | exact .there sl4 | exact .there sl5 | exact .there sl6 | exact .there sl7 | exact .there sl8 | exact .there sl9 | exact .there sl10 | exact .there sl11 | exact .there sl12)) (by simp) fun _ h => ?_; dsimp only [List.set] at h)))
  have h := ((Ok.emb (h) (.cons (A := rdb y3 _) (by with_reducible first | exact sl0 | exact .there sl0 | exact .there sl1 | exact .there sl2 | exact .there sl3 | exact .there sl4 | exact .there sl5 | exact .there sl6 | exact .there sl7 | exact .there sl8 | exact .there sl9 | exact .there sl10 | exact .there sl11 | exact .there sl12) (.cons (A := rdb ⟨some ⟨b4, 0, none⟩, 2, 2⟩ _) (by with_reducible first | exact sl0 | exact .there sl0 | exact .there sl1 | exact .there sl2 | exact .there sl3 | exact .there sl4 | exact .there sl5 | exact .there sl6 | exact .there sl7 | exact .there sl8 | exact .there sl9 | exact .there sl10 | exact .there sl11 | exact .there sl12) (.cons (A := pts b2 _) (by with_reducible first | exact sl0 | exact .there sl0 | exact .there sl1 | exact .there sl2 | exact .there sl3 | exact .there sl4 | exact .there sl5 | exact .there sl6 | exact .there sl7 | exact .there sl8 | exact .there sl9 | exact .there sl10 | exact .there sl11 | exact .there sl12) (.cons (A := pts b3 _) (by with_reducible first | exact sl0 | exact .there sl0 | exact .there sl1 | exact .there sl2 | exact .there sl3 | exact .there sl4 | exact .there sl5 | exact .there sl6 | exact .there sl7 | exact .there sl8 | exact .there sl9 | exact .there sl10 | exact .there sl11 | exact .there sl12) (.cons (A := pts b5 _) (by with_reducible first | exact sl0 | exact .there sl0 | exact .there sl1 | exact .there sl2 | exact .there sl3 | exact .there sl4 | exact .there sl5 | exact .there sl6 | exact .there sl7 | exact .there sl8 | exact .there sl9 | exact .there sl10 | exact .there sl11 | exact .there sl12) (.cons (A := rdb y2 _) (by with_reducible first | exact sl0 | exact .there sl0 | exact .there sl1 | exact .there sl2 | exact .there sl3 | exact .there sl4 | exact .there sl5 | exact .there sl6 | exact .there sl7 | exact .there sl8 | exact .there sl9 | exact .there sl10 | exact .there sl11 | exact .there sl12) (.cons (A := portP c _ _ _) (by with_reducible first | exact sl0 | exact .there sl0 | exact .there sl1 | exact .there sl2 | exact .there sl3 | exact .there sl4 | exact .there sl5 | exact .there sl6 | exact .there sl7 | exact .there sl8 | exact .there sl9 | exact .there sl10 | exact .there sl11 | exact .there sl12) (.cons (A := portP b _ _ _) (by with_reducible first | exact sl0 | exact .there sl0 | exact .there sl1 | exact .there sl2 | exact .there sl3 | exact .there sl4 | exact .there sl5 | exact .there sl6 | exact .there sl7 | exact .there sl8 | exact .there sl9 | exact .there sl10 | exact .there sl11 | exact .there sl12) (.same _))))))))))).drop.drop
  refine call10 (Accept_por (Ok.emb (h) (.cons (A := portP c _ _ _) (by with_reducible first | exact sl0 | exact .there sl0 | exact .there sl1 | exact .there sl2 | exact .there sl3 | exact .there sl4 | exact .there sl5 | exact .there sl6 | exact .there sl7 | exact .there sl8 | exact .there sl9 | exact .there sl10 | exact .there sl11 | exact .there sl12) (.same _))) o3 (by decide) fun y4 w13 h => ⟨(((1 : Int), (1 : Int), y4, true, ()), (0 : Int), ()), rfl, ?_⟩)
  have o4 := accept_ok (t := 3) (pri := 5) (bits := 1) o3
  have e4 : ((⟨[(1, 5)], [], updI (fun _ => 0) 1 1, updI (fun _ => []) 1 [111, 110], [], 0⟩ : PP).accept 3 5 1) = ((1, 1, [111, 110], true, 0), ⟨[], [], updI (fun _ => 0) 1 1, updI (fun _ => []) 1 [111, 110], [(1, 1, 5)], 1⟩) := by rfl
  rw [e4] at h o4
  dsimp only at h o4
  refine al.mk h fun b6 w14 h => ?_
  (repeat (first | with_reducible refine dr.mk h fun _ h => ?_ | with_reducible refine nn.mk ?_ | ((first | with_reducible apply ldI.mk | with_reducible apply ldB.mk | with_reducible apply ldP.mk | with_reducible apply ldS.mk | with_reducible apply ldM.mk | with_reducible apply ldF.mk | with_reducible apply ldG.mk); (· exact (by refine Ok.cellS h (by with_reducible first | exact sl0 | exact .there sl0 | exact .there sl1 | exact .there sl2 | exact .there sl3 | exact .there sl4 | exact .there sl5 | exact .there sl6 | exact .there sl7 | exact .there sl8 | exact .there sl9 | exact .there sl10 | exact .there sl11 | exact .there sl12) ?_; rfl))) | (refine st1.mk (Ok.bring h (by with_reducible first | exact sl0 | exact .there sl0 | exact .there sl1 | exact .there sl2 | exact .there sl3 | exact .there sl4 | exact .there sl5 | exact .there sl6 | exact .there sl7 | exact .there sl8 | exact .there sl9 | exact .there sl10 | exact .there sl11 | exact .there sl12)) (by simp) fun _ h => ?_; dsimp only [List.set] at h)))
  refine call11 (a2 := ⟨none, 0, 0⟩) (Reply_por (Ok.emb (h) (.cons (A := portP c _ _ _) (by with_reducible first | exact sl0 | exact .there sl0 | exact .there sl1 | exact .there sl2 | exact .there sl3 | exact .there sl4 | exact .there sl5 | exact .there sl6 | exact .there sl7 | exact .there sl8 | exact .there sl9 | exact .there sl10 | exact .there sl11 | exact .there sl12) (.same _))) o4 (by decide) fun w15 h => ⟨((1 : Int), (0 : Int), ()), rfl, ?_⟩)
  have o5 := reply_ok (most := 8) (no := 1) (n := 0) o4
  have e5 : ((⟨[], [], updI (fun _ => 0) 1 1, updI (fun _ => []) 1 [111, 110], [(1, 1, 5)], 1⟩ : PP).reply 8 1 0) = ((1, 0), ⟨[], [], updI (fun _ => 0) 1 1, updI (fun _ => []) 1 [111, 110], [], 1⟩) := by rfl
  dsimp only at h o5
  rw [e5] at h o5
  (repeat (first | with_reducible refine dr.mk h fun _ h => ?_ | with_reducible refine nn.mk ?_ | ((first | with_reducible apply ldI.mk | with_reducible apply ldB.mk | with_reducible apply ldP.mk | with_reducible apply ldS.mk | with_reducible apply ldM.mk | with_reducible apply ldF.mk | with_reducible apply ldG.mk); (· exact (by refine Ok.cellS h (by with_reducible first | exact sl0 | exact .there sl0 | exact .there sl1 | exact .there sl2 | exact .there sl3 | exact .there sl4 | exact .there sl5 | exact .there sl6 | exact .there sl7 | exact .there sl8 | exact .there sl9 | exact .there sl10 | exact .there sl11 | exact .there sl12) ?_; rfl))) | (refine st1.mk (Ok.bring h (by with_reducible first | exact sl0 | exact .there sl0 | exact .there sl1 | exact .there sl2 | exact .there sl3 | exact .there sl4 | exact .there sl5 | exact .there sl6 | exact .there sl7 | exact .there sl8 | exact .there sl9 | exact .there sl10 | exact .there sl11 | exact .there sl12)) (by simp) fun _ h => ?_; dsimp only [List.set] at h)))
  refine call11 (a2 := ⟨none, 0, 0⟩) (Reply_por (Ok.emb (h) (.cons (A := portP c _ _ _) (by with_reducible first | exact sl0 | exact .there sl0 | exact .there sl1 | exact .there sl2 | exact .there sl3 | exact .there sl4 | exact .there sl5 | exact .there sl6 | exact .there sl7 | exact .there sl8 | exact .there sl9 | exact .there sl10 | exact .there sl11 | exact .there sl12) (.same _))) o5 (by decide) fun w16 h => ⟨((0 : Int), (-41 : Int), ()), rfl, ?_⟩)
  have e6 : ((⟨[], [], updI (fun _ => 0) 1 1, updI (fun _ => []) 1 [111, 110], [], 1⟩ : PP).reply 8 1 0) = ((0, -41), ⟨[], [], updI (fun _ => 0) 1 1, updI (fun _ => []) 1 [111, 110], [], 1⟩) := by rfl
  dsimp only at h
  rw [e6] at h
  dsimp only at h ⊢
  refine jn.bool true (fun J hJ => cs.yes rfl ?_) ?_
  · refine ldB.mk (x := false) (by refine Ok.cellS h (by with_reducible first | exact sl0 | exact .there sl0 | exact .there sl1 | exact .there sl2 | exact .there sl3 | exact .there sl4 | exact .there sl5 | exact .there sl6 | exact .there sl7 | exact .there sl8 | exact .there sl9 | exact .there sl10 | exact .there sl11 | exact .there sl12) ?_; rfl) ?_
    exact hJ
  refine jn.bool true (fun J hJ => cs.yes rfl ?_) ?_
  · refine ldB.mk (x := true) (by refine Ok.cellS h (by with_reducible first | exact sl0 | exact .there sl0 | exact .there sl1 | exact .there sl2 | exact .there sl3 | exact .there sl4 | exact .there sl5 | exact .there sl6 | exact .there sl7 | exact .there sl8 | exact .there sl9 | exact .there sl10 | exact .there sl11 | exact .there sl12) ?_; rfl) ?_
    exact hJ
  refine jn.bool true (fun J hJ => cs.yes rfl ?_) ?_
  · refine ldI.mk (x := 1) (by refine Ok.cellS h (by with_reducible first | exact sl0 | exact .there sl0 | exact .there sl1 | exact .there sl2 | exact .there sl3 | exact .there sl4 | exact .there sl5 | exact .there sl6 | exact .there sl7 | exact .there sl8 | exact .there sl9 | exact .there sl10 | exact .there sl11 | exact .there sl12) ?_; rfl) ?_
    exact hJ
  refine jn.bool true (fun J hJ => cs.yes rfl ?_) ?_
  · refine ldS.mk (by refine Ok.cellS h (by with_reducible first | exact sl0 | exact .there sl0 | exact .there sl1 | exact .there sl2 | exact .there sl3 | exact .there sl4 | exact .there sl5 | exact .there sl6 | exact .there sl7 | exact .there sl8 | exact .there sl9 | exact .there sl10 | exact .there sl11 | exact .there sl12) ?_; rfl) (tx.mkR bsT (Ok.emb (h) (.cons (A := rdb y2 _) (by with_reducible first | exact sl0 | exact .there sl0 | exact .there sl1 | exact .there sl2 | exact .there sl3 | exact .there sl4 | exact .there sl5 | exact .there sl6 | exact .there sl7 | exact .there sl8 | exact .there sl9 | exact .there sl10 | exact .there sl11 | exact .there sl12) (.same _))) ?_)
    rw [str_eq]
    exact hJ
  refine jn.bool true (fun J hJ => cs.yes rfl ?_) ?_
  · refine ldB.mk (x := false) (by refine Ok.cellS h (by with_reducible first | exact sl0 | exact .there sl0 | exact .there sl1 | exact .there sl2 | exact .there sl3 | exact .there sl4 | exact .there sl5 | exact .there sl6 | exact .there sl7 | exact .there sl8 | exact .there sl9 | exact .there sl10 | exact .there sl11 | exact .there sl12) ?_; rfl) ?_
    exact hJ
  refine jn.bool true (fun J hJ => cs.yes rfl ?_) ?_
  · refine ldB.mk (x := true) (by refine Ok.cellS h (by with_reducible first | exact sl0 | exact .there sl0 | exact .there sl1 | exact .there sl2 | exact .there sl3 | exact .there sl4 | exact .there sl5 | exact .there sl6 | exact .there sl7 | exact .there sl8 | exact .there sl9 | exact .there sl10 | exact .there sl11 | exact .there sl12) ?_; rfl) ?_
    exact hJ
  refine jn.bool true (fun J hJ => cs.yes rfl ?_) ?_
  · refine ldI.mk (x := 1) (by refine Ok.cellS h (by with_reducible first | exact sl0 | exact .there sl0 | exact .there sl1 | exact .there sl2 | exact .there sl3 | exact .there sl4 | exact .there sl5 | exact .there sl6 | exact .there sl7 | exact .there sl8 | exact .there sl9 | exact .there sl10 | exact .there sl11 | exact .there sl12) ?_; rfl) ?_
    exact hJ
  refine jn.bool true (fun J hJ => cs.yes rfl ?_) ?_
  · refine ldS.mk (by refine Ok.cellS h (by with_reducible first | exact sl0 | exact .there sl0 | exact .there sl1 | exact .there sl2 | exact .there sl3 | exact .there sl4 | exact .there sl5 | exact .there sl6 | exact .there sl7 | exact .there sl8 | exact .there sl9 | exact .there sl10 | exact .there sl11 | exact .there sl12) ?_; rfl) (tx.mkR bsT (Ok.emb (h) (.cons (A := rdb y4 _) (by with_reducible first | exact sl0 | exact .there sl0 | exact .there sl1 | exact .there sl2 | exact .there sl3 | exact .there sl4 | exact .there sl5 | exact .there sl6 | exact .there sl7 | exact .there sl8 | exact .there sl9 | exact .there sl10 | exact .there sl11 | exact .there sl12) (.same _))) ?_)
    rw [str_eq]
    exact hJ
  refine jn.bool true (fun J hJ => cs.yes rfl hJ) ?_
  refine jn.bool true (fun J hJ => cs.yes rfl hJ) ?_
  refine jn.at (true, ()) (fun w' => Ok e L w') (fun J hJ => cs.yes rfl ?_) (fun w' h => k w' h)
  have o6 : PPo 5 (⟨[], [], updI (fun _ => 0) 1 1, updI (fun _ => []) 1 [111, 110], [], 1⟩ : PP) := o5.mono (by decide)
  refine call12 (Open_por (Ok.emb (h) (.cons (A := portP c _ _ _) (by with_reducible first | exact sl0 | exact .there sl0 | exact .there sl1 | exact .there sl2 | exact .there sl3 | exact .there sl4 | exact .there sl5 | exact .there sl6 | exact .there sl7 | exact .there sl8 | exact .there sl9 | exact .there sl10 | exact .there sl11 | exact .there sl12) (.same _))) o6 (by decide) fun s w17 hs h => ⟨(s, ()), rfl, ?_⟩)
  have hs : s.len = 0 := hs
  dsimp only
  rw [hs]
  refine hJ _ ?_
  have h := (Ok.emb (h) (.cons (A := slc 1 s _) (by with_reducible first | exact sl0 | exact .there sl0 | exact .there sl1 | exact .there sl2 | exact .there sl3 | exact .there sl4 | exact .there sl5 | exact .there sl6 | exact .there sl7 | exact .there sl8 | exact .there sl9 | exact .there sl10 | exact .there sl11 | exact .there sl12) (.cons (A := portP b _ _ _) (by with_reducible first | exact sl0 | exact .there sl0 | exact .there sl1 | exact .there sl2 | exact .there sl3 | exact .there sl4 | exact .there sl5 | exact .there sl6 | exact .there sl7 | exact .there sl8 | exact .there sl9 | exact .there sl10 | exact .there sl11 | exact .there sl12) (.cons (A := portP c _ _ _) (by with_reducible first | exact sl0 | exact .there sl0 | exact .there sl1 | exact .there sl2 | exact .there sl3 | exact .there sl4 | exact .there sl5 | exact .there sl6 | exact .there sl7 | exact .there sl8 | exact .there sl9 | exact .there sl10 | exact .there sl11 | exact .there sl12) (.cons (A := pts b2 _) (by with_reducible first | exact sl0 | exact .there sl0 | exact .there sl1 | exact .there sl2 | exact .there sl3 | exact .there sl4 | exact .there sl5 | exact .there sl6 | exact .there sl7 | exact .there sl8 | exact .there sl9 | exact .there sl10 | exact .there sl11 | exact .there sl12) (.cons (A := pts b3 _) (by with_reducible first | exact sl0 | exact .there sl0 | exact .there sl1 | exact .there sl2 | exact .there sl3 | exact .there sl4 | exact .there sl5 | exact .there sl6 | exact .there sl7 | exact .there sl8 | exact .there sl9 | exact .there sl10 | exact .there sl11 | exact .there sl12) (.cons (A := pts b5 _) (by with_reducible first | exact sl0 | exact .there sl0 | exact .there sl1 | exact .there sl2 | exact .there sl3 | exact .there sl4 | exact .there sl5 | exact .there sl6 | exact .there sl7 | exact .there sl8 | exact .there sl9 | exact .there sl10 | exact .there sl11 | exact .there sl12) (.cons (A := pts b6 _) (by with_reducible first | exact sl0 | exact .there sl0 | exact .there sl1 | exact .there sl2 | exact .there sl3 | exact .there sl4 | exact .there sl5 | exact .there sl6 | exact .there sl7 | exact .there sl8 | exact .there sl9 | exact .there sl10 | exact .there sl11 | exact .there sl12) (.cons (A := rdb y2 _) (by with_reducible first | exact sl0 | exact .there sl0 | exact .there sl1 | exact .there sl2 | exact .there sl3 | exact .there sl4 | exact .there sl5 | exact .there sl6 | exact .there sl7 | exact .there sl8 | exact .there sl9 | exact .there sl10 | exact .there sl11 | exact .there sl12) (.cons (A := rdb y4 _) (by with_reducible first | exact sl0 | exact .there sl0 | exact .there sl1 | exact .there sl2 | exact .there sl3 | exact .there sl4 | exact .there sl5 | exact .there sl6 | exact .there sl7 | exact .there sl8 | exact .there sl9 | exact .there sl10 | exact .there sl11 | exact .there sl12) (.same _)))))))))))
  exact h.drop.drop.drop.drop.drop.drop.drop.drop.drop

theorem call_1 {g : Int → Int} {s : Int → List UInt8} {last : Int} {l : List UInt8} {most pri : Int} (hl : (l.length : Int) ≤ most) (hp : 1 ≤ pri ∧ pri ≤ 16) : (⟨[], [], g, s, [], last⟩ : PP).call false most 1 pri 1 l = ((0, 0, [], false, 0), ⟨[(1, pri)], [], updI g 1 1, updI s 1 l, [], last⟩) := by
  unfold PP.call
  rw [if_neg (by
    have hg : goodT 1 pri := by unfold goodT; omega
    intro h
    rcases h with h | h | h
    · cases h
    · omega
    · exact h hg), if_neg (by
    have : (⟨[], [], g, s, [], last⟩ : PP).inP 1 = false := rfl
    rw [this]; decide)]
  dsimp only [meetL, List.find?_nil]
  rw [addL_good (by unfold goodT; omega) (by simp)]
  rfl

theorem accept_1 {g : Int → Int} {s : Int → List UInt8} {last pri : Int} {l : List UInt8} : (⟨[(1, pri)], [], updI g 1 1, updI s 1 l, [], last⟩ : PP).accept 2 1 1 = ((last + 1, 1, l, true, 0), ⟨[], [], updI g 1 1, updI s 1 l, [(last + 1, 1, pri)], last + 1⟩) := by
  have hm : meetL (updI g 1 1) 1 [(1, pri)] = some (1, pri) := meetL_some (n := 0) rfl (by show (bAnd .u32 (updI g 1 1 1) 1 != 0) = true; rw [updI_same]; decide) (fun m hm => absurd hm (Nat.not_lt_zero _))
  unfold PP.accept
  rw [if_neg (by decide), if_neg (by
    have : (⟨[(1, pri)], [], updI g 1 1, updI s 1 l, [], last⟩ : PP).inP 2 = false := rfl
    rw [this]; decide), hm]
  rfl

theorem fi_1 {g : Int → Int} {s : Int → List UInt8} {no t pri last : Int} : (⟨[], [], g, s, [(no, t, pri)], last⟩ : PP).fi no = 0 := by
  unfold PP.fi
  exact idxL_some (n := 0) (p := (no, t, pri)) rfl (by simp) (fun m hm => absurd hm (Nat.not_lt_zero _))

theorem reply_1 {g : Int → Int} {s : Int → List UInt8} {no t pri last most : Int} {n : Nat} (hn : (n : Int) ≤ most) : (⟨[], [], g, s, [(no, t, pri)], last⟩ : PP).reply most no n = ((t, 0), ⟨[], [], g, s, [], last⟩) := by
  unfold PP.reply
  rw [fi_1, if_neg (by decide), if_neg (by omega)]
  rfl

theorem reply_2 {g : Int → Int} {s : Int → List UInt8} {no last most : Int} {n : Nat} : (⟨[], [], g, s, [], last⟩ : PP).reply most no n = ((0, -41), ⟨[], [], g, s, [], last⟩) := by
  unfold PP.reply
  rw [if_pos (by show (-1 : Int) < 0; decide)]

theorem pps_ok {N : Nat} {C : List (Int × Int)} {g : Int → Int} {s : Int → List UInt8} {L : List (Int × Int × Int)} {last : Int} (hC : okL C) (hs : ∀ i ∈ ids C, (s i).length ≤ 2 ^ 20) (hn : L.length ≤ N) (hl : 0 ≤ last ∧ last ≤ N) : PPo N ⟨C, [], g, s, L, last⟩ :=
  ⟨hC, okL_nil, fun i hi hm => by simp at hm, hn, hl, hs⟩

theorem okL_1 {pri : Int} : okL [(1, pri)] := ⟨by simp, by simp⟩

set_option maxHeartbeats 2000000 in
theorem PortOnce_walk {e : World} {a0 : Int} (_ : (Lit.int .i64 a0).wf = true) : sh3 a0 (LawEnd e) e := by
  unfold sh3
  refine call7 (known_17 (Ok.start e) fun w1 h => ⟨(true, ()), enc_b rfl, ?_⟩)
  refine cs.no rfl ?_
  refine jn.g (1 ≤ a0 ∧ a0 ≤ 60) (fun J hJ => cs.mk (fun h1 => hJ true (fun h => by cases h)) (fun h1 => hJ _ fun h2 => ?_)) fun c1 hc1 => ?_
  · have := of_decide_eq_false h1; have := of_decide_eq_false h2; omega
  refine cs.mk (fun _ => ⟨rfl, h⟩) (fun h1 => ?_)
  obtain ⟨g1, g2⟩ := hc1 h1
  clear hc1 h1
  refine call8 (New_por h (fun h0 => absurd (by decide) h0) fun _ b w2 h => ⟨(some ⟨b, 0, none⟩, (0 : Int), ()), rfl, ?_⟩)
  obtain ⟨n, rfl⟩ := Int.eq_ofNat_of_zero_le (show 0 ≤ a0 by omega)
  refine lp.mk (fun t w' => ∃ (i : Nat) (g : Int → Int) (s : Int → List UInt8), t.1 = ((i + 1 : Nat) : Int) ∧ i ≤ n ∧ Ok e [portP b false 8 ⟨[], [], g, s, [], (i : Int)⟩, old e] w') (fun t _ => n + 1 - t.1.toNat) ⟨0, _, _, rfl, Nat.zero_le _, h⟩ ?_
  clear h
  rintro ⟨(i' : Int), _⟩ w3 ⟨i, g, s, hi, hi1, h⟩
  dsimp only at hi
  subst hi
  have o0 : PPo i (⟨[], [], g, s, [], (i : Int)⟩ : PP) := pps_ok okL_nil (fun i hi => by simp at hi) (Nat.zero_le _) ⟨by omega, by omega⟩
  refine cs.mk (fun hlt => ?_) (fun hge => ?_)
  · have hlt : i < n := by have := of_decide_eq_true hlt; dsimp only at this; omega
    obtain ⟨x, hx⟩ : ∃ x : UInt8, IntKind.u8.wrap ((i + 1 : Nat) : Int) = (x.toNat : Int) := ⟨_, wrap_u8 _⟩
    dsimp only
    rw [hx]
    refine al.mk h fun b1 w4 h => ?_
    have h : Ok e (pts b1 (by8 [x]) :: [portP b false 8 ⟨[], [], g, s, [], (i : Int)⟩, old e]) w4 := h
    have h := (slc_new8 (n := 1) h rfl).p1
    refine call9 (Call_por h (rdb_rd h.p1) o0 (by omega) (by decide) fun y w5 h => ⟨(((0 : Int), (0 : Int), y, false, ()), (0 : Int), ()), by rw [call_1 (by simp) (by decide)]; rfl, ?_⟩)
    rw [call_1 (by simp) (by decide)] at h
    have o1 : PPo i (⟨[(1, 1)], [], updI g 1 1, updI s 1 [x], [], (i : Int)⟩ : PP) := pps_ok okL_1 (fun j hj => by simp at hj; subst hj; rw [updI_same]; simp) (Nat.zero_le _) ⟨by omega, by omega⟩
    refine call10 (Accept_por (Ok.emb (h) (.cons (A := portP b _ _ _) (by with_reducible first | exact sl0 | exact .there sl0 | exact .there sl1 | exact .there sl2 | exact .there sl3 | exact .there sl4 | exact .there sl5 | exact .there sl6 | exact .there sl7 | exact .there sl8 | exact .there sl9 | exact .there sl10 | exact .there sl11 | exact .there sl12) (.same _))) o1 (by omega) fun y2 w6 h => ⟨(((((i + 1 : Nat) : Int)), (1 : Int), y2, true, ()), (0 : Int), ()), by rw [accept_1]; rfl, ?_⟩)
    rw [accept_1] at h
    have o2 : PPo (i + 1) (⟨[], [], updI g 1 1, updI s 1 [x], [((i : Int) + 1, 1, 1)], (i : Int) + 1⟩ : PP) := pps_ok okL_nil (fun j hj => by simp at hj) (by simp) ⟨by omega, by omega⟩
    have o3 : PPo (i + 1) (⟨[], [], updI g 1 1, updI s 1 [x], [], (i : Int) + 1⟩ : PP) := pps_ok okL_nil (fun j hj => by simp at hj) (by simp) ⟨by omega, by omega⟩
    dsimp only at h
    refine al.mk h fun b2 w7 h => ?_
    (repeat (first | with_reducible refine dr.mk h fun _ h => ?_ | with_reducible refine nn.mk ?_ | ((first | with_reducible apply ldI.mk | with_reducible apply ldB.mk | with_reducible apply ldP.mk | with_reducible apply ldS.mk | with_reducible apply ldM.mk | with_reducible apply ldF.mk | with_reducible apply ldG.mk); (· exact (by refine Ok.cellS h (by with_reducible first | exact sl0 | exact .there sl0 | exact .there sl1 | exact .there sl2 | exact .there sl3 | exact .there sl4 | exact .there sl5 | exact .there sl6 | exact .there sl7 | exact .there sl8 | exact .there sl9 | exact .there sl10 | exact .there sl11 | exact .there sl12) ?_; rfl))) | (refine st1.mk (Ok.bring h (by with_reducible first | exact sl0 | exact .there sl0 | exact .there sl1 | exact .there sl2 | exact .there sl3 | exact .there sl4 | exact .there sl5 | exact .there sl6 | exact .there sl7 | exact .there sl8 | exact .there sl9 | exact .there sl10 | exact .there sl11 | exact .there sl12)) (by simp) fun _ h => ?_; dsimp only [List.set] at h)))
    refine jn.bool false (fun J hJ => cs.no rfl ?_) ?_
    · refine ldI.mk (x := ((i + 1 : Nat) : Int)) (by refine Ok.cellS h (by with_reducible first | exact sl0 | exact .there sl0 | exact .there sl1 | exact .there sl2 | exact .there sl3 | exact .there sl4 | exact .there sl5 | exact .there sl6 | exact .there sl7 | exact .there sl8 | exact .there sl9 | exact .there sl10 | exact .there sl11 | exact .there sl12) ?_; rfl) ?_
      rw [bne_self_eq_false]
      exact hJ
    refine jn.bool false (fun J hJ => cs.no rfl ?_) ?_
    · refine ldI.mk (x := 1) (by refine Ok.cellS h (by with_reducible first | exact sl0 | exact .there sl0 | exact .there sl1 | exact .there sl2 | exact .there sl3 | exact .there sl4 | exact .there sl5 | exact .there sl6 | exact .there sl7 | exact .there sl8 | exact .there sl9 | exact .there sl10 | exact .there sl11 | exact .there sl12) ?_; rfl) ?_
      exact hJ
    refine jn.at (false, ()) (fun w' => Ok e [portP b false 8 ⟨[], [], updI g 1 1, updI s 1 [x], [((i : Int) + 1, 1, 1)], (i : Int) + 1⟩, old e] w') (fun J hJ => cs.no rfl ?_) (fun w8 h => ?_)
    · refine ldS.mk (by refine Ok.cellS h (by with_reducible first | exact sl0 | exact .there sl0 | exact .there sl1 | exact .there sl2 | exact .there sl3 | exact .there sl4 | exact .there sl5 | exact .there sl6 | exact .there sl7 | exact .there sl8 | exact .there sl9 | exact .there sl10 | exact .there sl11 | exact .there sl12) ?_; rfl) (tx.mkR bsT (Ok.emb (h) (.cons (A := rdb y2 _) (by with_reducible first | exact sl0 | exact .there sl0 | exact .there sl1 | exact .there sl2 | exact .there sl3 | exact .there sl4 | exact .there sl5 | exact .there sl6 | exact .there sl7 | exact .there sl8 | exact .there sl9 | exact .there sl10 | exact .there sl11 | exact .there sl12) (.same _))) ?_)
      refine al.mk h fun b3 w9 h => ?_
      have h : Ok e (pts b3 (by8 [x]) :: _) w9 := h
      have h := slc_new8 (n := 1) h rfl
      refine tx.mkR bsT h ?_
      rw [str_eq]
      exact hJ _ (h.emb (by repeat' (first | with_reducible exact Emb.same _ | exact Emb.nil _ | refine Emb.cons (by with_reducible first | exact sl0 | exact .there sl0 | exact .there sl1 | exact .there sl2 | exact .there sl3 | exact .there sl4 | exact .there sl5 | exact .there sl6 | exact .there sl7 | exact .there sl8 | exact .there sl9 | exact .there sl10 | exact .there sl11 | exact .there sl12) ?_ | refine Emb.skip ?_)))
    refine jn.bool false (fun J hJ => cs.no rfl hJ) ?_
    refine cs.no rfl ?_
    refine call11 (a2 := ⟨none, 0, 0⟩) (Reply_por h o2 (by omega) fun w9 h => ⟨((1 : Int), (0 : Int), ()), by rw [show ((i + 1 : Nat) : Int) = (i : Int) + 1 from rfl, reply_1 (by decide)]; rfl, ?_⟩)
    rw [show ((i + 1 : Nat) : Int) = (i : Int) + 1 from rfl, reply_1 (by decide)] at h
    refine call11 (a2 := ⟨none, 0, 0⟩) (Reply_por h o3 (by omega) fun w10 h => ⟨((0 : Int), (-41 : Int), ()), by rw [reply_2]; rfl, ?_⟩)
    rw [reply_2] at h
    refine jn.bool false (fun J hJ => cs.no rfl hJ) ?_
    refine jn.bool false (fun J hJ => cs.no rfl hJ) ?_
    have hw : w64 (((i + 1 : Nat) : Int) + 1) = ((i + 1 + 1 : Nat) : Int) := by rw [w64_in (by omega) (by omega)]; rfl
    refine cs.no rfl ?_
    rw [hw]
    refine ⟨⟨i + 1, _, _, rfl, hlt, h⟩, ?_⟩
    show n + 1 - Int.toNat ((i + 1 + 1 : Nat) : Int) < n + 1 - Int.toNat ((i + 1 : Nat) : Int)
    omega
  · refine call12 (Open_por h o0 (by omega) fun s2 w4 hs h => ⟨(s2, ()), rfl, ?_⟩)
    have hs : s2.len = 0 := hs
    dsimp only
    rw [hs]
    exact ⟨rfl, h.drop.drop⟩

end Go.Proofs.Ytbhmejmkoefahaa.B
