/- Contracts of the package ring. -/
import Derived.Test.YtjamgdepbjipdaaArena
namespace Go.Proofs.Ytjamgdepbjipdaa.B
open Go
set_option linter.unusedVariables false

theorem unpack2 {e w A B L} (h : Ok e (oksH [A, B] :: L) w) : Ok e (A :: B :: L) w := h.unpack

theorem unpack3 {e w A B C L} (h : Ok e (oksH [A, B, C] :: L) w) : Ok e (A :: B :: C :: L) w := h.unpack

/-- a part and its bytes, as one argument -/
theorem pack_one {e w L b x A l} (h : Ok e (pts b [vS x] :: A :: L) w) (r : RdB e A x l) : Ok e (oksH [pts b [vS x], A] :: L) w ∧ RdP e (oksH [pts b [vS x], A]) ⟨some ⟨b, 0, none⟩, 1, 1⟩ [l] :=
  ⟨Ok.pack (M := [pts b [vS x], A]) h, rdp_one r⟩

def tk (n : Nat) : Nat := 4 + (n + 3) / 4 * 4

def szR (L : List (List UInt8)) : Nat := (L.map fun l => tk l.length).sum

theorem szR_cons {l : List UInt8} {L : List (List UInt8)} : szR (l :: L) = tk l.length + szR L := by simp [szR]

theorem szR_snoc {l : List UInt8} {L : List (List UInt8)} : szR (L ++ [l]) = szR L + tk l.length := by simp [szR]

theorem szR_len : ∀ {L : List (List UInt8)}, 4 * L.length ≤ szR L
  | [] => Nat.le_refl _
  | l :: L => by
    have := szR_len (L := L)
    rw [szR_cons, List.length_cons]
    unfold tk; omega

theorem szR_mod : ∀ {L : List (List UInt8)}, szR L % 4 = 0
  | [] => rfl
  | l :: L => by
    have := szR_mod (L := L)
    rw [szR_cons]
    unfold tk; omega

/-- messages, one behind the other, round and round -/
def lay (m : List UInt8) (z : Nat) : Nat → List (List UInt8) → Prop
  | _, [] => True
  | p, l :: r => (∀ j, j < 4 → m[(p + j) % z]? = (wB (l.length : Int))[j]?) ∧ (∀ j, j < l.length → m[(p + 4 + j) % z]? = l[j]?) ∧ lay m z (p + tk l.length) r

theorem lay_frame {m m' : List UInt8} {z : Nat} : ∀ {L : List (List UInt8)} {p : Nat}, lay m z p L → (∀ i, p ≤ i → i < p + szR L → m'[i % z]? = m[i % z]?) → lay m' z p L
  | [], _, _, _ => trivial
  | l :: r, p, ⟨h1, h2, h3⟩, hq => by
    rw [szR_cons] at hq
    have ht : 4 + l.length ≤ tk l.length := by unfold tk; omega
    exact ⟨fun j hj => (hq _ (by omega) (by omega)).trans (h1 j hj), fun j hj => (hq _ (by omega) (by omega)).trans (h2 j hj), lay_frame h3 fun i h4 h5 => hq i (by omega) (by omega)⟩

theorem lay_snoc {m : List UInt8} {z : Nat} {l : List UInt8} : ∀ {L : List (List UInt8)} {p : Nat}, lay m z p L → lay m z (p + szR L) [l] → lay m z p (L ++ [l])
  | [], p, _, h => h
  | x :: r, p, ⟨h1, h2, h3⟩, h => ⟨h1, h2, lay_snoc h3 (by rw [szR_cons] at h; rw [Nat.add_assoc]; exact h)⟩

theorem lay_congr {m : List UInt8} {z : Nat} : ∀ {L : List (List UInt8)} {p p' : Nat}, p % z = p' % z → lay m z p L → lay m z p' L
  | [], _, _, _, _ => trivial
  | l :: r, p, p', he, ⟨h1, h2, h3⟩ => by
    have hs : ∀ k, (p' + k) % z = (p + k) % z := fun k => by rw [Nat.add_mod, ← he, ← Nat.add_mod]
    exact ⟨fun j hj => by rw [hs]; exact h1 j hj, fun j hj => by rw [Nat.add_assoc, hs, ← Nat.add_assoc]; exact h2 j hj, lay_congr (hs _).symm h3⟩

structure RgO (z : Nat) (L : List (List UInt8)) (m : List UInt8) (f : Nat) : Prop where
  z4 : z % 4 = 0
  zb : z ≤ 65536
  len : m.length = z
  f4 : f % 4 = 0
  fz : f < z ∨ f = 0
  us : szR L ≤ z
  ms : ∀ l ∈ L, l.length ≤ 1024
  lay : lay m z f L

def ringP (b : Nat) (z : Nat) (L : List (List UInt8)) : SP := fun h => ∃ ba c m f, RgO z L m f ∧ oksH [pts b [.pointer (some ⟨ba, 0, none⟩), .int .i64 (f : Nat), .int .i64 (szR L : Nat), .int .i64 (L.length : Nat)], arenaP ba c m] h

theorem rgE {e w L b z M} (h : Ok e (ringP b z M :: L) w) : ∃ ba c m f, RgO z M m f ∧ Ok e (pts b [.pointer (some ⟨ba, 0, none⟩), .int .i64 (f : Nat), .int .i64 (szR M : Nat), .int .i64 (M.length : Nat)] :: arenaP ba c m :: L) w := by
  obtain ⟨ba, h⟩ := h.exE
  obtain ⟨c, h⟩ := h.exE
  obtain ⟨m, h⟩ := h.exE
  obtain ⟨f, h⟩ := h.exE
  obtain ⟨ho, h⟩ := h.pureE
  exact ⟨ba, c, m, f, ho, h.unpack⟩

theorem rgI {e w L b z M ba c m} {f : Nat} (ho : RgO z M m f) (h : Ok e (pts b [.pointer (some ⟨ba, 0, none⟩), .int .i64 (f : Nat), .int .i64 (szR M : Nat), .int .i64 (M.length : Nat)] :: arenaP ba c m :: L) w) : Ok e (ringP b z M :: L) w :=
  (Ok.pack (M := [pts b [.pointer (some ⟨ba, 0, none⟩), .int .i64 (f : Nat), .int .i64 (szR M : Nat), .int .i64 (M.length : Nat)], arenaP ba c m]) h).imp fun k hk => ⟨ba, c, m, f, ho, hk⟩

theorem Align4_nums {e w L n R} (h : Ok e L w) (hn : n ≤ 65536) (k : R [.int .i64 ((n + 3) / 4 * 4 : Nat)] w) : sh67 (n : Nat) 4 R w := by
  unfold sh67
  refine jn.bool false (fun J hJ => cs.no (decide_eq_false (by omega)) ?_) ?_
  · rw [decide_eq_false (show ¬ ((n : Int) > 1073741824) by omega)]; exact hJ
  refine jn.bool false (fun J hJ => cs.no rfl hJ) ?_
  refine jn.bool false (fun J hJ => cs.no rfl hJ) ?_
  refine cs.no rfl (ob.mk (by decide) ?_)
  have e1 : w64 (w64 ((n : Int) + 4) - 1) = (n : Int) + 3 := by
    rw [w64_in (x := (n : Int) + 4) (by omega) (by omega), w64_in (by omega) (by omega)]; omega
  rw [e1, Int.tdiv_eq_ediv_of_nonneg (by omega), w64_in (x := ((n : Int) + 3) / 4) (by omega) (by omega), w64_in (by omega) (by omega)]
  have : ((n : Int) + 3) / 4 * 4 = (((n + 3) / 4 * 4 : Nat) : Int) := by omega
  rw [this]
  exact k

theorem New_ring {e w L n R} (h : Ok e L w) (k0 : ¬ (0 ≤ n ∧ n ≤ 65536 ∧ n % 4 = 0) → ∀ w', Ok e L w' → R [.pointer none, .int .i64 (-17)] w')
    (k1 : (0 ≤ n ∧ n ≤ 65536 ∧ n % 4 = 0) → ∀ b w', Ok e (ringP b n.toNat [] :: L) w' → R [.pointer (some ⟨b, 0, none⟩), .int .i64 0] w') : sh32 n R w := by
  unfold sh32
  refine call61 (New_arena h (fun h1 => ⟨(none, (-17 : Int), ()), rfl, ?_⟩) fun h1 b w1 h => ⟨(some ⟨b, 0, none⟩, (0 : Int), ()), rfl, ?_⟩)
  · refine jn.bool true (fun J hJ => cs.yes rfl hJ) ?_
    exact cs.yes rfl (k0 (by omega) w h)
  refine jn.bool (n % 4 != 0) (fun J hJ => cs.no rfl ?_) ?_
  · rw [Int.tmod_eq_emod_of_nonneg h1.1]; exact hJ
  refine cs.mk (fun h2 => k0 (by simp at h2; omega) w1 h.drop) (fun h2 => ?_)
  refine al.mk h fun b2 w2 h => ?_
  have h2 : n % 4 = 0 := by simpa using h2
  refine k1 ⟨h1.1, h1.2, h2⟩ b2 w2 (rgI (f := 0) ⟨by omega, by omega, List.length_replicate, rfl, .inr rfl, Nat.zero_le _, by simp, trivial⟩ h)

theorem Free_ring {e w L b z M R} (h : Ok e (ringP b z M :: L) w) (k : ∀ w', Ok e (ringP b z M :: L) w' → R [.int .i64 ((z : Int) - szR M)] w') : sh13 (some ⟨b, 0, none⟩) R w := by
  unfold sh13
  obtain ⟨ba, c, m, f, ho, h⟩ := rgE h
  have hus := ho.us
  have hz := ho.zb
  (repeat (first | with_reducible refine dr.mk h fun _ h => ?_ | with_reducible refine nn.mk ?_ | ((first | with_reducible apply ldI.mk | with_reducible apply ldB.mk | with_reducible apply ldP.mk | with_reducible apply ldS.mk | with_reducible apply ldM.mk | with_reducible apply ldF.mk | with_reducible apply ldG.mk); (· exact (by refine Ok.cellS h (by with_reducible first | exact sl0 | exact .there sl0 | exact .there sl1 | exact .there sl2 | exact .there sl3 | exact .there sl4 | exact .there sl5 | exact .there sl6 | exact .there sl7 | exact .there sl8 | exact .there sl9 | exact .there sl10 | exact .there sl11 | exact .there sl12) ?_; rfl))) | (refine st1.mk (Ok.bring h (by with_reducible first | exact sl0 | exact .there sl0 | exact .there sl1 | exact .there sl2 | exact .there sl3 | exact .there sl4 | exact .there sl5 | exact .there sl6 | exact .there sl7 | exact .there sl8 | exact .there sl9 | exact .there sl10 | exact .there sl11 | exact .there sl12)) (by simp) fun _ h => ?_; dsimp only [List.set] at h)))
  refine call42 (Size_arena h.p1 ⟨((m.length : Int), ()), rfl, (by refine Ok.cellS h (by with_reducible first | exact sl0 | exact .there sl0 | exact .there sl1 | exact .there sl2 | exact .there sl3 | exact .there sl4 | exact .there sl5 | exact .there sl6 | exact .there sl7 | exact .there sl8 | exact .there sl9 | exact .there sl10 | exact .there sl11 | exact .there sl12) ?_; rfl), ?_⟩)
  dsimp only
  rw [ho.len, w64_in (by omega) (by omega)]
  exact k _ (rgI ho h)

theorem Len_ring {e w L b z M R} (h : Ok e (ringP b z M :: L) w) (k : R [.int .i64 (M.length : Nat)] w) : sh15 (some ⟨b, 0, none⟩) R w := by
  unfold sh15
  obtain ⟨ba, c, m, f, ho, h⟩ := rgE h
  (repeat (first | with_reducible refine dr.mk h fun _ h => ?_ | with_reducible refine nn.mk ?_ | ((first | with_reducible apply ldI.mk | with_reducible apply ldB.mk | with_reducible apply ldP.mk | with_reducible apply ldS.mk | with_reducible apply ldM.mk | with_reducible apply ldF.mk | with_reducible apply ldG.mk); (· exact (by refine Ok.cellS h (by with_reducible first | exact sl0 | exact .there sl0 | exact .there sl1 | exact .there sl2 | exact .there sl3 | exact .there sl4 | exact .there sl5 | exact .there sl6 | exact .there sl7 | exact .there sl8 | exact .there sl9 | exact .there sl10 | exact .there sl11 | exact .there sl12) ?_; rfl))) | (refine st1.mk (Ok.bring h (by with_reducible first | exact sl0 | exact .there sl0 | exact .there sl1 | exact .there sl2 | exact .there sl3 | exact .there sl4 | exact .there sl5 | exact .there sl6 | exact .there sl7 | exact .there sl8 | exact .there sl9 | exact .there sl10 | exact .there sl11 | exact .there sl12)) (by simp) fun _ h => ?_; dsimp only [List.set] at h)))
  exact k

/-- is there room for a message of so many bytes? -/
def fitR (z : Nat) (M : List (List UInt8)) (n : Int) : Bool := decide (0 ≤ n ∧ n ≤ 1024 ∧ szR M + tk n.toNat ≤ z)

theorem Fits_ring {e w L b z M n R} (h : Ok e (ringP b z M :: L) w) (k : ∀ w', Ok e (ringP b z M :: L) w' → R [.bool (fitR z M n)] w') : sh71 (some ⟨b, 0, none⟩) n R w := by
  unfold sh71
  refine jn.bool (decide (0 ≤ n ∧ n ≤ 1024)) (fun J hJ => cs.mk (fun h1 => ?_) (fun h1 => ?_)) ?_
  · have h1 := of_decide_eq_true h1
    rw [show decide (0 ≤ n ∧ n ≤ 1024) = decide (n ≤ 1024) from decide_eq_decide.2 (by omega)] at hJ
    exact hJ
  · have h1 := of_decide_eq_false h1
    rw [decide_eq_false (by omega)] at hJ
    exact hJ
  refine jn.at (fitR z M n, ()) (fun w' => Ok e (ringP b z M :: L) w') (fun J hJ => cs.mk (fun h1 => ?_) (fun h1 => ?_)) (fun w' h => k w' h)
  · have h1 := of_decide_eq_true h1
    obtain ⟨q, rfl⟩ := Int.eq_ofNat_of_zero_le h1.1
    refine call13 (Free_ring h fun w1 h => ⟨(((z : Int) - (szR M : Int) : Int), ()), rfl, ?_⟩)
    refine call67 (Align4_nums h (by omega) ⟨((((q + 3) / 4 * 4 : Nat) : Int), ()), rfl, ?_⟩)
    have := hJ w1 h
    dsimp only
    rw [w64_in (by omega) (by omega)]
    rw [show fitR z M (q : Int) = decide ((z : Int) - szR M ≥ 4 + (((q + 3) / 4 * 4 : Nat) : Int)) from decide_eq_decide.2 (by rw [Int.toNat_natCast]; unfold tk; omega)] at this
    exact this
  · have h1 : ¬ (0 ≤ n ∧ n ≤ 1024) := of_decide_eq_false h1
    have := hJ w h
    rw [show fitR z M n = false from decide_eq_false fun h => h1 ⟨h.1, h.2.1⟩] at this
    exact this

/-- bytes laid round and round -/
def WrR (m : List UInt8) (z p : Nat) (l m' : List UInt8) : Prop := m'.length = z ∧ (∀ j, j < l.length → m'[(p + j) % z]? = l[j]?) ∧ ∀ q, (∀ j, j < l.length → (p + j) % z ≠ q) → m'[q]? = m[q]?

theorem wrA_get {m l : List UInt8} {a i : Nat} (h : a + l.length ≤ m.length) : (wrA m a l)[i]? = if a ≤ i ∧ i < a + l.length then l[i - a]? else m[i]? := by
  unfold wrA
  have h1 : (m.take a).length = a := by rw [List.length_take]; omega
  by_cases h2 : i < a
  · rw [if_neg (by omega), List.append_assoc, List.getElem?_append_left (by omega), List.getElem?_take_of_lt h2]
  · by_cases h3 : i < a + l.length
    · rw [if_pos (by omega), List.getElem?_append_left (by rw [List.length_append]; omega), List.getElem?_append_right (by omega), h1]
    · rw [if_neg (by omega), List.getElem?_append_right (by rw [List.length_append]; omega), List.getElem?_drop, List.length_append, h1]
      congr 1; omega

theorem mod_step {p z j : Nat} (hz : 0 < z) (hj : j < z) : (p + j) % z = if p % z + j < z then p % z + j else p % z + j - z := by
  have h1 := Nat.mod_lt p hz
  rw [Nat.add_mod, Nat.mod_eq_of_lt hj]
  split
  · exact Nat.mod_eq_of_lt (by assumption)
  · rw [Nat.mod_eq_sub_mod (by omega), Nat.mod_eq_of_lt (by omega)]

theorem wrR_of {m l : List UInt8} {z p k : Nat} (hz : 0 < z) (hm : m.length = z) (hl : l.length ≤ z) (hk : k = min l.length (z - p % z)) :
    WrR m z p l (wrA (wrA m (p % z) (l.take k)) 0 (l.drop k)) := by
  have h1 := Nat.mod_lt p hz
  have hlt : (l.take k).length = k := by rw [List.length_take]; omega
  have hld : (l.drop k).length = l.length - k := by rw [List.length_drop]
  have e1 : (wrA m (p % z) (l.take k)).length = z := by rw [wrA_len (by omega)]; exact hm
  refine ⟨by rw [wrA_len (by omega)]; exact e1, fun j hj => ?_, fun q hq => ?_⟩
  · have hs := mod_step (p := p) hz (show j < z by omega)
    rw [hs, wrA_get (by omega), hld]
    by_cases h2 : p % z + j < z
    · rw [if_pos h2, if_neg (by omega), wrA_get (by omega), hlt, if_pos (by omega), List.getElem?_take_of_lt (by omega)]
      congr 1; omega
    · rw [if_neg h2, if_pos (by omega), List.getElem?_drop]
      congr 1; omega
  · rw [wrA_get (by omega), hld]
    by_cases h2 : 0 ≤ q ∧ q < 0 + (l.length - k)
    · exfalso
      have hs := mod_step (p := p) hz (show k + q < z by omega)
      exact hq (k + q) (by omega) (by rw [hs, if_neg (by omega)]; omega)
    · rw [if_neg h2, wrA_get (by omega), hlt]
      by_cases h3 : p % z ≤ q ∧ q < p % z + k
      · exfalso
        have hs := mod_step (p := p) hz (show q - p % z < z by omega)
        exact hq (q - p % z) (by omega) (by rw [hs, if_pos (by omega)]; omega)
      · rw [if_neg h3]

theorem mod_ne {z f a b : Nat} (h1 : f ≤ a) (h2 : a < b) (h3 : b < f + z) : a % z ≠ b % z := by
  intro he
  have hd : (b - a) % z = 0 := Nat.sub_mod_eq_zero_of_mod_eq he.symm
  have := Nat.le_of_dvd (by omega) (Nat.dvd_of_mod_eq_zero hd)
  omega

theorem put_ring {e w A L b ba c m z x l C R} {p : Nat} (h : Ok e (pts b (.pointer (some ⟨ba, 0, none⟩) :: C) :: arenaP ba c m :: A :: L) w) (hz : 0 < z) (hzb : z ≤ 65536) (hm : m.length = z) (r : RdB e A x l) (hl : l.length ≤ z) (hp : p ≤ 2 ^ 31)
    (k : ∀ c' m' w', WrR m z p l m' → Ok e (pts b (.pointer (some ⟨ba, 0, none⟩) :: C) :: arenaP ba c' m' :: A :: L) w' → R [] w') : sh73 (some ⟨b, 0, none⟩) (p : Nat) x R w := by
  unfold sh73
  have hxl := r.len
  have h1 := Nat.mod_lt p hz
  have hcell : ∀ {w' : World} {L'}, Ok e (pts b (.pointer (some ⟨ba, 0, none⟩) :: C) :: L') w' → w'.cell? ⟨b, 0, none⟩ = some (.pointer (some ⟨ba, 0, none⟩)) := fun h => h.cell rfl
  refine nn.mk (ldP.mk (hcell h) ?_)
  refine call42 (Size_arena h.p1 ⟨((m.length : Int), ()), rfl, ?_⟩)
  refine ob.mk (by dsimp only; omega) ?_
  refine nn.mk (ldP.mk (hcell h) ?_)
  refine call42 (Size_arena h.p1 ⟨((m.length : Int), ()), rfl, ?_⟩)
  dsimp only
  rw [hm]
  have e1 : Int.tmod (p : Int) (z : Int) = ((p % z : Nat) : Int) := by rw [Int.tmod_eq_emod_of_nonneg (by omega)]; exact (Int.natCast_emod p z).symm
  rw [e1, w64_in (x := (z : Int) - ((p % z : Nat) : Int)) (by omega) (by omega)]
  have e2 : (if (z : Int) - ((p % z : Nat) : Int) < (x.len : Int) then (z : Int) - ((p % z : Nat) : Int) else (x.len : Int)) = ((min l.length (z - p % z) : Nat) : Int) := by
    split <;> omega
  rw [e2]
  generalize hk : min l.length (z - p % z) = q
  refine dr.mk h fun w1 h => ?_
  refine nn.mk (ldP.mk (hcell h) ?_)
  refine sb_rdb r (Int.le_refl _) (by omega) (by omega) (by have := r.2.1; omega) (Int.le_refl _) fun y hyl hyc ry => ?_
  rw [Int.toNat_natCast, show (0 : Int).toNat = 0 from rfl, List.drop_zero] at ry
  refine al.mk h fun b2 w2 h => ⟨hcell h.p1, ?_⟩
  have h := (Ok.emb (h) (.cons (A := pts b2 _) (by with_reducible first | exact sl0 | exact .there sl0 | exact .there sl1 | exact .there sl2 | exact .there sl3 | exact .there sl4 | exact .there sl5 | exact .there sl6 | exact .there sl7 | exact .there sl8 | exact .there sl9 | exact .there sl10 | exact .there sl11 | exact .there sl12) (.cons (A := A) (by with_reducible first | exact sl0 | exact .there sl0 | exact .there sl1 | exact .there sl2 | exact .there sl3 | exact .there sl4 | exact .there sl5 | exact .there sl6 | exact .there sl7 | exact .there sl8 | exact .there sl9 | exact .there sl10 | exact .there sl11 | exact .there sl12) (.same _))))
  obtain ⟨h, rp⟩ := pack_one (b := b2) h ry
  have hfl : ([l.take q].flatten) = l.take q := by simp
  have hq1 : (l.take q).length = q := by rw [List.length_take]; omega
  have h := (Ok.emb (h) (.cons (A := arenaP ba _ _) (by with_reducible first | exact sl0 | exact .there sl0 | exact .there sl1 | exact .there sl2 | exact .there sl3 | exact .there sl4 | exact .there sl5 | exact .there sl6 | exact .there sl7 | exact .there sl8 | exact .there sl9 | exact .there sl10 | exact .there sl11 | exact .there sl12) (.cons (A := oksH _) (by with_reducible first | exact sl0 | exact .there sl0 | exact .there sl1 | exact .there sl2 | exact .there sl3 | exact .there sl4 | exact .there sl5 | exact .there sl6 | exact .there sl7 | exact .there sl8 | exact .there sl9 | exact .there sl10 | exact .there sl11 | exact .there sl12) (.same _))))
  refine call87 (Write_arena h (by omega) rp (by simp) (by rw [hfl]; omega) (fun h0 => absurd (by rw [hfl]; unfold inA; omega) h0) fun _ w3 h => ⟨((0 : Int), ()), rfl, ?_⟩)
  rw [hfl, Int.toNat_natCast] at h
  have h := (unpack2 h.p1).drop
  have h := (Ok.emb (h) (.cons (A := pts b _) (by with_reducible first | exact sl0 | exact .there sl0 | exact .there sl1 | exact .there sl2 | exact .there sl3 | exact .there sl4 | exact .there sl5 | exact .there sl6 | exact .there sl7 | exact .there sl8 | exact .there sl9 | exact .there sl10 | exact .there sl11 | exact .there sl12) (.cons (A := arenaP ba _ _) (by with_reducible first | exact sl0 | exact .there sl0 | exact .there sl1 | exact .there sl2 | exact .there sl3 | exact .there sl4 | exact .there sl5 | exact .there sl6 | exact .there sl7 | exact .there sl8 | exact .there sl9 | exact .there sl10 | exact .there sl11 | exact .there sl12) (.cons (A := A) (by with_reducible first | exact sl0 | exact .there sl0 | exact .there sl1 | exact .there sl2 | exact .there sl3 | exact .there sl4 | exact .there sl5 | exact .there sl6 | exact .there sl7 | exact .there sl8 | exact .there sl9 | exact .there sl10 | exact .there sl11 | exact .there sl12) (.same _)))))
  have e3 : (wrA m (p % z) (l.take q)).length = z := by rw [wrA_len (by omega)]; exact hm
  refine dr.mk h fun w4 h => ?_
  refine nn.mk (ldP.mk (hcell h) ?_)
  refine sb_rdb r (by omega) (by omega) (by omega) (by have := r.2.1; omega) (Int.le_refl _) fun y2 hyl2 hyc2 ry2 => ?_
  rw [Int.toNat_natCast, Int.toNat_natCast, List.take_of_length_le (by omega)] at ry2
  refine al.mk h fun b3 w5 h => ⟨hcell h.p1, ?_⟩
  have h := (Ok.emb (h) (.cons (A := pts b3 _) (by with_reducible first | exact sl0 | exact .there sl0 | exact .there sl1 | exact .there sl2 | exact .there sl3 | exact .there sl4 | exact .there sl5 | exact .there sl6 | exact .there sl7 | exact .there sl8 | exact .there sl9 | exact .there sl10 | exact .there sl11 | exact .there sl12) (.cons (A := A) (by with_reducible first | exact sl0 | exact .there sl0 | exact .there sl1 | exact .there sl2 | exact .there sl3 | exact .there sl4 | exact .there sl5 | exact .there sl6 | exact .there sl7 | exact .there sl8 | exact .there sl9 | exact .there sl10 | exact .there sl11 | exact .there sl12) (.same _))))
  obtain ⟨h, rp⟩ := pack_one (b := b3) h ry2
  have hfl2 : ([l.drop q].flatten) = l.drop q := by simp
  have hq2 : (l.drop q).length = l.length - q := by rw [List.length_drop]
  have h := (Ok.emb (h) (.cons (A := arenaP ba _ _) (by with_reducible first | exact sl0 | exact .there sl0 | exact .there sl1 | exact .there sl2 | exact .there sl3 | exact .there sl4 | exact .there sl5 | exact .there sl6 | exact .there sl7 | exact .there sl8 | exact .there sl9 | exact .there sl10 | exact .there sl11 | exact .there sl12) (.cons (A := oksH _) (by with_reducible first | exact sl0 | exact .there sl0 | exact .there sl1 | exact .there sl2 | exact .there sl3 | exact .there sl4 | exact .there sl5 | exact .there sl6 | exact .there sl7 | exact .there sl8 | exact .there sl9 | exact .there sl10 | exact .there sl11 | exact .there sl12) (.same _))))
  refine call87 (Write_arena h (by omega) rp (by simp) (by rw [hfl2]; omega) (fun h0 => absurd (by rw [hfl2]; unfold inA; omega) h0) fun _ w6 h => ⟨((0 : Int), ()), rfl, ?_⟩)
  rw [hfl2] at h
  have h := (unpack2 h.p1).drop
  have h := (Ok.emb (h) (.cons (A := pts b _) (by with_reducible first | exact sl0 | exact .there sl0 | exact .there sl1 | exact .there sl2 | exact .there sl3 | exact .there sl4 | exact .there sl5 | exact .there sl6 | exact .there sl7 | exact .there sl8 | exact .there sl9 | exact .there sl10 | exact .there sl11 | exact .there sl12) (.cons (A := arenaP ba _ _) (by with_reducible first | exact sl0 | exact .there sl0 | exact .there sl1 | exact .there sl2 | exact .there sl3 | exact .there sl4 | exact .there sl5 | exact .there sl6 | exact .there sl7 | exact .there sl8 | exact .there sl9 | exact .there sl10 | exact .there sl11 | exact .there sl12) (.cons (A := A) (by with_reducible first | exact sl0 | exact .there sl0 | exact .there sl1 | exact .there sl2 | exact .there sl3 | exact .there sl4 | exact .there sl5 | exact .there sl6 | exact .there sl7 | exact .there sl8 | exact .there sl9 | exact .there sl10 | exact .there sl11 | exact .there sl12) (.same _)))))
  exact k _ _ w6 (wrR_of hz hm hl hk.symm) h

set_option maxHeartbeats 1000000 in
theorem Put_ring {e w A L b z M x l R} (h : Ok e (ringP b z M :: A :: L) w) (r : RdB e A x l) (hl : l.length ≤ 2 ^ 20)
    (k : ∀ w', Ok e (ringP b z (if fitR z M (l.length : Nat) then M ++ [l] else M) :: A :: L) w' → R [.bool (fitR z M (l.length : Nat))] w') : sh44 (some ⟨b, 0, none⟩) x R w := by
  unfold sh44
  rw [← r.len]
  refine call71 (Fits_ring h fun w1 h => ⟨(fitR z M (l.length : Nat), ()), rfl, ?_⟩)
  dsimp only
  refine cs.mk (fun h1 => ?_) (fun h1 => ?_)
  · have h1 : fitR z M (l.length : Nat) = false := by simpa using h1
    rw [h1] at k
    exact k w1 h
  have h1 : fitR z M (l.length : Nat) = true := by simpa using h1
  rw [h1, if_pos rfl] at k
  have h1 := of_decide_eq_true h1
  rw [Int.toNat_natCast] at h1
  have ht : 4 + l.length ≤ tk l.length := by unfold tk; omega
  have ht2 : tk l.length = 4 + (l.length + 3) / 4 * 4 := rfl
  obtain ⟨ba, c, m, f, ho, h⟩ := rgE h
  obtain ⟨z4, zb, hm, f4, fz, us, ms, hlay⟩ := ho
  have hz : 0 < z := by omega
  have hML := szR_len (L := M)
  have s4 := szR_mod (L := M)
  (repeat (first | with_reducible refine dr.mk h fun _ h => ?_ | with_reducible refine nn.mk ?_ | ((first | with_reducible apply ldI.mk | with_reducible apply ldB.mk | with_reducible apply ldP.mk | with_reducible apply ldS.mk | with_reducible apply ldM.mk | with_reducible apply ldF.mk | with_reducible apply ldG.mk); (· exact (by refine Ok.cellS h (by with_reducible first | exact sl0 | exact .there sl0 | exact .there sl1 | exact .there sl2 | exact .there sl3 | exact .there sl4 | exact .there sl5 | exact .there sl6 | exact .there sl7 | exact .there sl8 | exact .there sl9 | exact .there sl10 | exact .there sl11 | exact .there sl12) ?_; rfl))) | (refine st1.mk (Ok.bring h (by with_reducible first | exact sl0 | exact .there sl0 | exact .there sl1 | exact .there sl2 | exact .there sl3 | exact .there sl4 | exact .there sl5 | exact .there sl6 | exact .there sl7 | exact .there sl8 | exact .there sl9 | exact .there sl10 | exact .there sl11 | exact .there sl12)) (by simp) fun _ h => ?_; dsimp only [List.set] at h)))
  refine call42 (Size_arena (Ok.emb (h) (.cons (A := arenaP ba _ _) (by with_reducible first | exact sl0 | exact .there sl0 | exact .there sl1 | exact .there sl2 | exact .there sl3 | exact .there sl4 | exact .there sl5 | exact .there sl6 | exact .there sl7 | exact .there sl8 | exact .there sl9 | exact .there sl10 | exact .there sl11 | exact .there sl12) (.same _))) ⟨((m.length : Int), ()), rfl, (by refine Ok.cellS h (by with_reducible first | exact sl0 | exact .there sl0 | exact .there sl1 | exact .there sl2 | exact .there sl3 | exact .there sl4 | exact .there sl5 | exact .there sl6 | exact .there sl7 | exact .there sl8 | exact .there sl9 | exact .there sl10 | exact .there sl11 | exact .there sl12) ?_; rfl), (by refine Ok.cellS h (by with_reducible first | exact sl0 | exact .there sl0 | exact .there sl1 | exact .there sl2 | exact .there sl3 | exact .there sl4 | exact .there sl5 | exact .there sl6 | exact .there sl7 | exact .there sl8 | exact .there sl9 | exact .there sl10 | exact .there sl11 | exact .there sl12) ?_; rfl), ob.mk (by dsimp only; omega) ?_⟩)
  dsimp only
  rw [hm]
  have e0 : w64 ((f : Int) + (szR M : Int)) = ((f + szR M : Nat) : Int) := by rw [w64_in (by omega) (by omega)]; omega
  have e1 : Int.tmod ((f + szR M : Nat) : Int) (z : Int) = (((f + szR M) % z : Nat) : Int) := by rw [Int.tmod_eq_emod_of_nonneg (by omega)]; exact (Int.natCast_emod (f + szR M) z).symm
  rw [e0, e1]
  have hat := Nat.mod_lt (f + szR M) hz
  have hat4 : (f + szR M) % z % 4 = 0 := by rw [Nat.mod_mod_of_dvd _ (Nat.dvd_of_mod_eq_zero z4)]; omega
  (repeat (first | with_reducible refine dr.mk h fun _ h => ?_ | with_reducible refine nn.mk ?_ | ((first | with_reducible apply ldI.mk | with_reducible apply ldB.mk | with_reducible apply ldP.mk | with_reducible apply ldS.mk | with_reducible apply ldM.mk | with_reducible apply ldF.mk | with_reducible apply ldG.mk); (· exact (by refine Ok.cellS h (by with_reducible first | exact sl0 | exact .there sl0 | exact .there sl1 | exact .there sl2 | exact .there sl3 | exact .there sl4 | exact .there sl5 | exact .there sl6 | exact .there sl7 | exact .there sl8 | exact .there sl9 | exact .there sl10 | exact .there sl11 | exact .there sl12) ?_; rfl))) | (refine st1.mk (Ok.bring h (by with_reducible first | exact sl0 | exact .there sl0 | exact .there sl1 | exact .there sl2 | exact .there sl3 | exact .there sl4 | exact .there sl5 | exact .there sl6 | exact .there sl7 | exact .there sl8 | exact .there sl9 | exact .there sl10 | exact .there sl11 | exact .there sl12)) (by simp) fun _ h => ?_; dsimp only [List.set] at h)))
  rw [wrap_u32 (n := l.length) (by omega)]
  refine call72 (PutWord_arena (Ok.emb (h) (.cons (A := arenaP ba _ _) (by with_reducible first | exact sl0 | exact .there sl0 | exact .there sl1 | exact .there sl2 | exact .there sl3 | exact .there sl4 | exact .there sl5 | exact .there sl6 | exact .there sl7 | exact .there sl8 | exact .there sl9 | exact .there sl10 | exact .there sl11 | exact .there sl12) (.same _))) (by omega) (by omega) (fun h0 => absurd (by unfold inA; omega) h0) fun _ _ w2 h => ⟨((0 : Int), ()), rfl, ?_⟩)
  rw [Int.toNat_natCast] at h
  have hw1 : WrR m z (f + szR M) (wB (l.length : Int)) (wrA m ((f + szR M) % z) (wB (l.length : Int))) := by
    have := wrR_of (m := m) (l := wB (l.length : Int)) (p := f + szR M) (k := 4) hz hm (by rw [wB_len]; omega) (by rw [wB_len]; omega)
    rw [List.take_of_length_le (by rw [wB_len]; omega), List.drop_of_length_le (by rw [wB_len]; omega), wrA_nil] at this
    exact this
  generalize wrA m ((f + szR M) % z) (wB (l.length : Int)) = m1 at h hw1
  have e2 : w64 ((((f + szR M) % z : Nat) : Int) + 4) = (((f + szR M) % z + 4 : Nat) : Int) := by rw [w64_in (by omega) (by omega)]; omega
  rw [e2]
  refine call73 (put_ring (l := l) (Ok.emb (h) (.cons (A := pts b _) (by with_reducible first | exact sl0 | exact .there sl0 | exact .there sl1 | exact .there sl2 | exact .there sl3 | exact .there sl4 | exact .there sl5 | exact .there sl6 | exact .there sl7 | exact .there sl8 | exact .there sl9 | exact .there sl10 | exact .there sl11 | exact .there sl12) (.cons (A := arenaP ba _ _) (by with_reducible first | exact sl0 | exact .there sl0 | exact .there sl1 | exact .there sl2 | exact .there sl3 | exact .there sl4 | exact .there sl5 | exact .there sl6 | exact .there sl7 | exact .there sl8 | exact .there sl9 | exact .there sl10 | exact .there sl11 | exact .there sl12) (.cons (A := A) (by with_reducible first | exact sl0 | exact .there sl0 | exact .there sl1 | exact .there sl2 | exact .there sl3 | exact .there sl4 | exact .there sl5 | exact .there sl6 | exact .there sl7 | exact .there sl8 | exact .there sl9 | exact .there sl10 | exact .there sl11 | exact .there sl12) (.same _))))) hz zb hw1.1 r (by omega) (by omega) fun c2 m2 w3 hw2 h => ⟨(), rfl, ?_⟩)
  refine dr.mk h fun w4 h => ?_
  (repeat (first | with_reducible refine dr.mk h fun _ h => ?_ | with_reducible refine nn.mk ?_ | ((first | with_reducible apply ldI.mk | with_reducible apply ldB.mk | with_reducible apply ldP.mk | with_reducible apply ldS.mk | with_reducible apply ldM.mk | with_reducible apply ldF.mk | with_reducible apply ldG.mk); (· exact (by refine Ok.cellS h (by with_reducible first | exact sl0 | exact .there sl0 | exact .there sl1 | exact .there sl2 | exact .there sl3 | exact .there sl4 | exact .there sl5 | exact .there sl6 | exact .there sl7 | exact .there sl8 | exact .there sl9 | exact .there sl10 | exact .there sl11 | exact .there sl12) ?_; rfl))) | (refine st1.mk (Ok.bring h (by with_reducible first | exact sl0 | exact .there sl0 | exact .there sl1 | exact .there sl2 | exact .there sl3 | exact .there sl4 | exact .there sl5 | exact .there sl6 | exact .there sl7 | exact .there sl8 | exact .there sl9 | exact .there sl10 | exact .there sl11 | exact .there sl12)) (by simp) fun _ h => ?_; dsimp only [List.set] at h)))
  refine call67 (Align4_nums h (by omega) ⟨((((l.length + 3) / 4 * 4 : Nat) : Int), ()), rfl, (by refine Ok.cellS h (by with_reducible first | exact sl0 | exact .there sl0 | exact .there sl1 | exact .there sl2 | exact .there sl3 | exact .there sl4 | exact .there sl5 | exact .there sl6 | exact .there sl7 | exact .there sl8 | exact .there sl9 | exact .there sl10 | exact .there sl11 | exact .there sl12) ?_; rfl), ?_⟩)
  dsimp only
  have e3 : w64 (4 + (((l.length + 3) / 4 * 4 : Nat) : Int)) = (tk l.length : Int) := by rw [w64_in (by omega) (by omega), ht2]; omega
  have e4 : w64 ((szR M : Int) + (tk l.length : Int)) = (szR (M ++ [l]) : Int) := by rw [szR_snoc, w64_in (by omega) (by omega)]; omega
  have e5 : w64 ((M.length : Int) + 1) = ((M ++ [l]).length : Int) := by rw [w64_in (by omega) (by omega), List.length_append]; rfl
  rw [e3, e4]
  (repeat (first | with_reducible refine dr.mk h fun _ h => ?_ | with_reducible refine nn.mk ?_ | ((first | with_reducible apply ldI.mk | with_reducible apply ldB.mk | with_reducible apply ldP.mk | with_reducible apply ldS.mk | with_reducible apply ldM.mk | with_reducible apply ldF.mk | with_reducible apply ldG.mk); (· exact (by refine Ok.cellS h (by with_reducible first | exact sl0 | exact .there sl0 | exact .there sl1 | exact .there sl2 | exact .there sl3 | exact .there sl4 | exact .there sl5 | exact .there sl6 | exact .there sl7 | exact .there sl8 | exact .there sl9 | exact .there sl10 | exact .there sl11 | exact .there sl12) ?_; rfl))) | (refine st1.mk (Ok.bring h (by with_reducible first | exact sl0 | exact .there sl0 | exact .there sl1 | exact .there sl2 | exact .there sl3 | exact .there sl4 | exact .there sl5 | exact .there sl6 | exact .there sl7 | exact .there sl8 | exact .there sl9 | exact .there sl10 | exact .there sl11 | exact .there sl12)) (by simp) fun _ h => ?_; dsimp only [List.set] at h)))
  rw [e5] at h
  refine k _ (rgI (f := f) (m := m2) ⟨z4, zb, hw2.1, f4, fz, by rw [szR_snoc]; omega, fun y hy => ?_, ?_⟩ h)
  · rcases List.mem_append.1 hy with hy | hy
    · exact ms y hy
    · rw [List.mem_singleton.1 hy]; omega
  · have hsh : ∀ j, ((f + szR M) % z + 4 + j) % z = (f + szR M + 4 + j) % z := fun j => by
      rw [Nat.add_assoc, Nat.add_mod, Nat.mod_mod, ← Nat.add_mod, ← Nat.add_assoc]
    have hf2 : ∀ i, f ≤ i → i < f + szR M → m2[i % z]? = m[i % z]? := fun i hi1 hi2 => by
      rw [hw2.2.2 (i % z) fun j hj he => mod_ne (z := z) (f := f) (a := i) (b := f + szR M + 4 + j) hi1 (by omega) (by omega) (by rw [← hsh, he]), hw1.2.2 (i % z) fun j hj he => mod_ne (z := z) (f := f) (a := i) (b := f + szR M + j) hi1 (by omega) (by rw [wB_len] at hj; omega) he.symm]
    refine lay_snoc (lay_frame hlay hf2) ⟨fun j hj => ?_, fun j hj => ?_, trivial⟩
    · rw [hw2.2.2 ((f + szR M + j) % z) fun i hi he => mod_ne (z := z) (f := f + szR M) (a := f + szR M + j) (b := f + szR M + 4 + i) (by omega) (by omega) (by omega) (by rw [← hsh, he])]
      exact hw1.2.1 j (by rw [wB_len]; exact hj)
    · rw [← hsh]
      exact hw2.2.1 j hj

theorem get_bytes {m l : List UInt8} {z p k : Nat} (hz : 0 < z) (hm : m.length = z) (hl : l.length ≤ z) (hk : k = min l.length (z - p % z)) (h : ∀ j, j < l.length → m[(p + j) % z]? = l[j]?) :
    (m.drop (p % z)).take k ++ (m.drop 0).take (l.length - k) = l := by
  have h1 := Nat.mod_lt p hz
  have hlt : ((m.drop (p % z)).take k).length = k := by rw [List.length_take, List.length_drop]; omega
  apply List.ext_getElem?
  intro j
  by_cases hj : j < l.length
  · rw [← h j hj, mod_step hz (by omega)]
    by_cases h2 : j < k
    · rw [List.getElem?_append_left (by omega), List.getElem?_take_of_lt h2, List.getElem?_drop, if_pos (by omega)]
    · rw [List.getElem?_append_right (by omega), hlt, List.getElem?_take_of_lt (by omega), List.drop_zero, if_neg (by omega)]
      congr 1; omega
  · rw [List.getElem?_eq_none (l := l) (by omega)]
    apply List.getElem?_eq_none
    rw [List.length_append, hlt, List.length_take, List.length_drop]; omega

theorem get_ring {e w L b ba c m z l C R} {p : Nat} (h : Ok e (pts b (.pointer (some ⟨ba, 0, none⟩) :: C) :: arenaP ba c m :: L) w) (hz : 0 < z) (hzb : z ≤ 65536) (hm : m.length = z) (hl : l.length ≤ z) (hp : p ≤ 2 ^ 31)
    (hd : ∀ j, j < l.length → m[(p + j) % z]? = l[j]?)
    (k : ∀ s c' w', s.len = l.length → Ok e (slc 1 s (by8 l) :: pts b (.pointer (some ⟨ba, 0, none⟩) :: C) :: arenaP ba c' m :: L) w' → R [vS s] w') : sh66 (some ⟨b, 0, none⟩) (p : Nat) (l.length : Nat) R w := by
  unfold sh66
  have h1 := Nat.mod_lt p hz
  have hcell : ∀ {w' : World} {L'}, Ok e (pts b (.pointer (some ⟨ba, 0, none⟩) :: C) :: L') w' → w'.cell? ⟨b, 0, none⟩ = some (.pointer (some ⟨ba, 0, none⟩)) := fun h => h.cell rfl
  refine nn.mk (ldP.mk (hcell h) ?_)
  refine call42 (Size_arena h.p1 ⟨((m.length : Int), ()), rfl, ?_⟩)
  refine ob.mk (by dsimp only; omega) ?_
  refine nn.mk (ldP.mk (hcell h) ?_)
  refine call42 (Size_arena h.p1 ⟨((m.length : Int), ()), rfl, ?_⟩)
  dsimp only
  rw [hm]
  have e1 : Int.tmod (p : Int) (z : Int) = ((p % z : Nat) : Int) := by rw [Int.tmod_eq_emod_of_nonneg (by omega)]; exact (Int.natCast_emod p z).symm
  rw [e1, w64_in (x := (z : Int) - ((p % z : Nat) : Int)) (by omega) (by omega)]
  have e2 : (if (z : Int) - ((p % z : Nat) : Int) < (l.length : Int) then (z : Int) - ((p % z : Nat) : Int) else (l.length : Int)) = ((min l.length (z - p % z) : Nat) : Int) := by
    split <;> omega
  rw [e2]
  have hgb := get_bytes hz hm hl rfl hd
  generalize hk : min l.length (z - p % z) = q at hgb
  have e3 : w64 ((l.length : Int) - (q : Int)) = ((l.length - q : Nat) : Int) := by rw [w64_in (by omega) (by omega)]; omega
  rw [e3]
  refine nn.mk (ldP.mk (hcell h) ?_)
  refine call85 (Read_arena h.p1 (by omega) (fun h0 => absurd (by unfold inA; omega) h0) fun _ s w2 hs h => ⟨(s, (0 : Int), ()), rfl, ?_⟩)
  refine nn.mk (ldP.mk (hcell h.p2) ?_)
  refine call85 (Read_arena h.p1 (by omega) (fun h0 => absurd (by unfold inA; omega) h0) fun _ s2 w3 hs2 h => ⟨(s2, (0 : Int), ()), rfl, ?_⟩)
  have h := (Ok.emb (h) (.cons (A := slc 1 s _) (by with_reducible first | exact sl0 | exact .there sl0 | exact .there sl1 | exact .there sl2 | exact .there sl3 | exact .there sl4 | exact .there sl5 | exact .there sl6 | exact .there sl7 | exact .there sl8 | exact .there sl9 | exact .there sl10 | exact .there sl11 | exact .there sl12) (.cons (A := slc 1 s2 _) (by with_reducible first | exact sl0 | exact .there sl0 | exact .there sl1 | exact .there sl2 | exact .there sl3 | exact .there sl4 | exact .there sl5 | exact .there sl6 | exact .there sl7 | exact .there sl8 | exact .there sl9 | exact .there sl10 | exact .there sl11 | exact .there sl12) (.same _))))
  refine ef.append2 slT_b (by decide) h (by dsimp only; omega) fun s3 w4 hl3 h => ?_
  rw [← by8_append, Int.toNat_natCast, Int.toNat_natCast, Int.toNat_natCast, show (0 : Int).toNat = 0 from rfl, hgb] at h
  have h := h.p1.drop
  refine k s3 _ w4 (by dsimp only at hl3; omega) (Ok.emb (h) (.cons (A := slc 1 s3 _) (by with_reducible first | exact sl0 | exact .there sl0 | exact .there sl1 | exact .there sl2 | exact .there sl3 | exact .there sl4 | exact .there sl5 | exact .there sl6 | exact .there sl7 | exact .there sl8 | exact .there sl9 | exact .there sl10 | exact .there sl11 | exact .there sl12) (.cons (A := pts b _) (by with_reducible first | exact sl0 | exact .there sl0 | exact .there sl1 | exact .there sl2 | exact .there sl3 | exact .there sl4 | exact .there sl5 | exact .there sl6 | exact .there sl7 | exact .there sl8 | exact .there sl9 | exact .there sl10 | exact .there sl11 | exact .there sl12) (.cons (A := arenaP ba _ _) (by with_reducible first | exact sl0 | exact .there sl0 | exact .there sl1 | exact .there sl2 | exact .there sl3 | exact .there sl4 | exact .there sl5 | exact .there sl6 | exact .there sl7 | exact .there sl8 | exact .there sl9 | exact .there sl10 | exact .there sl11 | exact .there sl12) (.same _)))))

set_option maxHeartbeats 1000000 in
theorem Get_ring {e w L b z M R} (h : Ok e (ringP b z M :: L) w)
    (k0 : M = [] → ∀ w', Ok e (ringP b z M :: L) w' → R [.slice none 0 0, .bool false] w')
    (k1 : ∀ l M', M = l :: M' → ∀ s w', s.len = l.length → Ok e (slc 1 s (by8 l) :: ringP b z M' :: L) w' → R [vS s, .bool true] w') : sh37 (some ⟨b, 0, none⟩) R w := by
  unfold sh37
  obtain ⟨ba, c, m, f, ho, h⟩ := rgE h
  (repeat (first | with_reducible refine dr.mk h fun _ h => ?_ | with_reducible refine nn.mk ?_ | ((first | with_reducible apply ldI.mk | with_reducible apply ldB.mk | with_reducible apply ldP.mk | with_reducible apply ldS.mk | with_reducible apply ldM.mk | with_reducible apply ldF.mk | with_reducible apply ldG.mk); (· exact (by refine Ok.cellS h (by with_reducible first | exact sl0 | exact .there sl0 | exact .there sl1 | exact .there sl2 | exact .there sl3 | exact .there sl4 | exact .there sl5 | exact .there sl6 | exact .there sl7 | exact .there sl8 | exact .there sl9 | exact .there sl10 | exact .there sl11 | exact .there sl12) ?_; rfl))) | (refine st1.mk (Ok.bring h (by with_reducible first | exact sl0 | exact .there sl0 | exact .there sl1 | exact .there sl2 | exact .there sl3 | exact .there sl4 | exact .there sl5 | exact .there sl6 | exact .there sl7 | exact .there sl8 | exact .there sl9 | exact .there sl10 | exact .there sl11 | exact .there sl12)) (by simp) fun _ h => ?_; dsimp only [List.set] at h)))
  cases M with
  | nil => exact cs.yes rfl (k0 rfl w (rgI ho h))
  | cons l M =>
  obtain ⟨z4, zb, hm, f4, fz, us, ms, hlay⟩ := ho
  have hML := szR_len (L := M)
  have hl := ms l (List.mem_cons_self ..)
  have ht2 : tk l.length = 4 + (l.length + 3) / 4 * 4 := rfl
  rw [szR_cons] at us
  have hz : 0 < z := by omega
  refine cs.no (by simp only [List.length_cons, beq_eq_false_iff_ne]; omega) ?_
  refine dr.mk h fun w1 h => ?_
  (repeat (first | with_reducible refine dr.mk h fun _ h => ?_ | with_reducible refine nn.mk ?_ | ((first | with_reducible apply ldI.mk | with_reducible apply ldB.mk | with_reducible apply ldP.mk | with_reducible apply ldS.mk | with_reducible apply ldM.mk | with_reducible apply ldF.mk | with_reducible apply ldG.mk); (· exact (by refine Ok.cellS h (by with_reducible first | exact sl0 | exact .there sl0 | exact .there sl1 | exact .there sl2 | exact .there sl3 | exact .there sl4 | exact .there sl5 | exact .there sl6 | exact .there sl7 | exact .there sl8 | exact .there sl9 | exact .there sl10 | exact .there sl11 | exact .there sl12) ?_; rfl))) | (refine st1.mk (Ok.bring h (by with_reducible first | exact sl0 | exact .there sl0 | exact .there sl1 | exact .there sl2 | exact .there sl3 | exact .there sl4 | exact .there sl5 | exact .there sl6 | exact .there sl7 | exact .there sl8 | exact .there sl9 | exact .there sl10 | exact .there sl11 | exact .there sl12)) (by simp) fun _ h => ?_; dsimp only [List.set] at h)))
  obtain ⟨hw, hd, hr⟩ := hlay
  have hwd : (m.drop ((f : Nat) : Int).toNat).take 4 = wB (l.length : Int) := by
    rw [Int.toNat_natCast]
    have := get_bytes (m := m) (l := wB (l.length : Int)) (p := f) (k := 4) hz hm (by rw [wB_len]; omega) (by rw [wB_len, Nat.mod_eq_of_lt (by omega)]; omega) (fun j hj => hw j (by rwa [wB_len] at hj))
    rw [wB_len, Nat.sub_self, List.take_zero, List.append_nil, Nat.mod_eq_of_lt (by omega)] at this
    exact this
  refine call65 (Word_arena (Ok.emb (h) (.cons (A := arenaP ba _ _) (by with_reducible first | exact sl0 | exact .there sl0 | exact .there sl1 | exact .there sl2 | exact .there sl3 | exact .there sl4 | exact .there sl5 | exact .there sl6 | exact .there sl7 | exact .there sl8 | exact .there sl9 | exact .there sl10 | exact .there sl11 | exact .there sl12) (.same _))) (by omega) (fun h0 => absurd (by unfold inA; omega) h0) fun _ _ w2 h => ⟨((l.length : Int), (0 : Int), ()), ?_, ?_⟩)
  · rw [hwd, wordOf_wB (by omega) (by omega)]; rfl
  have h := (Ok.emb (h) (.cons (A := pts b _) (by with_reducible first | exact sl0 | exact .there sl0 | exact .there sl1 | exact .there sl2 | exact .there sl3 | exact .there sl4 | exact .there sl5 | exact .there sl6 | exact .there sl7 | exact .there sl8 | exact .there sl9 | exact .there sl10 | exact .there sl11 | exact .there sl12) (.same _)))
  (repeat (first | with_reducible refine dr.mk h fun _ h => ?_ | with_reducible refine nn.mk ?_ | ((first | with_reducible apply ldI.mk | with_reducible apply ldB.mk | with_reducible apply ldP.mk | with_reducible apply ldS.mk | with_reducible apply ldM.mk | with_reducible apply ldF.mk | with_reducible apply ldG.mk); (· exact (by refine Ok.cellS h (by with_reducible first | exact sl0 | exact .there sl0 | exact .there sl1 | exact .there sl2 | exact .there sl3 | exact .there sl4 | exact .there sl5 | exact .there sl6 | exact .there sl7 | exact .there sl8 | exact .there sl9 | exact .there sl10 | exact .there sl11 | exact .there sl12) ?_; rfl))) | (refine st1.mk (Ok.bring h (by with_reducible first | exact sl0 | exact .there sl0 | exact .there sl1 | exact .there sl2 | exact .there sl3 | exact .there sl4 | exact .there sl5 | exact .there sl6 | exact .there sl7 | exact .there sl8 | exact .there sl9 | exact .there sl10 | exact .there sl11 | exact .there sl12)) (by simp) fun _ h => ?_; dsimp only [List.set] at h)))
  have e1 : w64 ((f : Int) + 4) = ((f + 4 : Nat) : Int) := by rw [w64_in (by omega) (by omega)]; omega
  have e2 : w64 (l.length : Int) = (l.length : Int) := w64_in (by omega) (by omega)
  rw [e1, e2]
  refine call66 (get_ring (l := l) h hz zb hm (by omega) (by omega) hd fun s c2 w3 hs h => ⟨(s, ()), rfl, ?_⟩)
  refine call67 (Align4_nums h (by omega) ⟨((((l.length + 3) / 4 * 4 : Nat) : Int), ()), rfl, ?_⟩)
  dsimp only
  have e3 : w64 (4 + (((l.length + 3) / 4 * 4 : Nat) : Int)) = (tk l.length : Int) := by rw [w64_in (by omega) (by omega), ht2]; omega
  rw [e3]
  refine dr.mk h fun w4 h => ?_
  (repeat (first | with_reducible refine dr.mk h fun _ h => ?_ | with_reducible refine nn.mk ?_ | ((first | with_reducible apply ldI.mk | with_reducible apply ldB.mk | with_reducible apply ldP.mk | with_reducible apply ldS.mk | with_reducible apply ldM.mk | with_reducible apply ldF.mk | with_reducible apply ldG.mk); (· exact (by refine Ok.cellS h (by with_reducible first | exact sl0 | exact .there sl0 | exact .there sl1 | exact .there sl2 | exact .there sl3 | exact .there sl4 | exact .there sl5 | exact .there sl6 | exact .there sl7 | exact .there sl8 | exact .there sl9 | exact .there sl10 | exact .there sl11 | exact .there sl12) ?_; rfl))) | (refine st1.mk (Ok.bring h (by with_reducible first | exact sl0 | exact .there sl0 | exact .there sl1 | exact .there sl2 | exact .there sl3 | exact .there sl4 | exact .there sl5 | exact .there sl6 | exact .there sl7 | exact .there sl8 | exact .there sl9 | exact .there sl10 | exact .there sl11 | exact .there sl12)) (by simp) fun _ h => ?_; dsimp only [List.set] at h)))
  refine call42 (Size_arena (Ok.emb (h) (.cons (A := arenaP ba _ _) (by with_reducible first | exact sl0 | exact .there sl0 | exact .there sl1 | exact .there sl2 | exact .there sl3 | exact .there sl4 | exact .there sl5 | exact .there sl6 | exact .there sl7 | exact .there sl8 | exact .there sl9 | exact .there sl10 | exact .there sl11 | exact .there sl12) (.same _))) ⟨((m.length : Int), ()), rfl, (by refine Ok.cellS h (by with_reducible first | exact sl0 | exact .there sl0 | exact .there sl1 | exact .there sl2 | exact .there sl3 | exact .there sl4 | exact .there sl5 | exact .there sl6 | exact .there sl7 | exact .there sl8 | exact .there sl9 | exact .there sl10 | exact .there sl11 | exact .there sl12) ?_; rfl), ob.mk (by dsimp only; omega) ?_⟩)
  dsimp only
  rw [hm]
  have e4 : w64 ((f : Int) + (tk l.length : Int)) = ((f + tk l.length : Nat) : Int) := by rw [w64_in (by omega) (by omega)]; omega
  have e5 : Int.tmod ((f + tk l.length : Nat) : Int) (z : Int) = (((f + tk l.length) % z : Nat) : Int) := by rw [Int.tmod_eq_emod_of_nonneg (by omega)]; exact (Int.natCast_emod (f + tk l.length) z).symm
  have e6 : w64 ((szR (l :: M) : Int) - (tk l.length : Int)) = (szR M : Int) := by rw [szR_cons, w64_in (by omega) (by omega)]; omega
  have e7 : w64 (((l :: M).length : Int) - 1) = (M.length : Int) := by rw [List.length_cons, w64_in (by omega) (by omega)]; omega
  rw [e4, e5]
  (repeat (first | with_reducible refine dr.mk h fun _ h => ?_ | with_reducible refine nn.mk ?_ | ((first | with_reducible apply ldI.mk | with_reducible apply ldB.mk | with_reducible apply ldP.mk | with_reducible apply ldS.mk | with_reducible apply ldM.mk | with_reducible apply ldF.mk | with_reducible apply ldG.mk); (· exact (by refine Ok.cellS h (by with_reducible first | exact sl0 | exact .there sl0 | exact .there sl1 | exact .there sl2 | exact .there sl3 | exact .there sl4 | exact .there sl5 | exact .there sl6 | exact .there sl7 | exact .there sl8 | exact .there sl9 | exact .there sl10 | exact .there sl11 | exact .there sl12) ?_; rfl))) | (refine st1.mk (Ok.bring h (by with_reducible first | exact sl0 | exact .there sl0 | exact .there sl1 | exact .there sl2 | exact .there sl3 | exact .there sl4 | exact .there sl5 | exact .there sl6 | exact .there sl7 | exact .there sl8 | exact .there sl9 | exact .there sl10 | exact .there sl11 | exact .there sl12)) (by simp) fun _ h => ?_; dsimp only [List.set] at h)))
  rw [e6, e7] at h
  have h4 := Nat.mod_lt (f + tk l.length) hz
  have h := rgI (b := b) (M := M) (m := m) (z := z) (f := (f + tk l.length) % z) ⟨z4, zb, hm, by rw [Nat.mod_mod_of_dvd _ (Nat.dvd_of_mod_eq_zero z4)]; omega, .inl h4, by omega, fun y hy => ms y (List.mem_cons_of_mem _ hy), lay_congr (Nat.mod_mod _ _).symm hr⟩ (Ok.emb (h) (.cons (A := pts b _) (by with_reducible first | exact sl0 | exact .there sl0 | exact .there sl1 | exact .there sl2 | exact .there sl3 | exact .there sl4 | exact .there sl5 | exact .there sl6 | exact .there sl7 | exact .there sl8 | exact .there sl9 | exact .there sl10 | exact .there sl11 | exact .there sl12) (.cons (A := arenaP ba _ _) (by with_reducible first | exact sl0 | exact .there sl0 | exact .there sl1 | exact .there sl2 | exact .there sl3 | exact .there sl4 | exact .there sl5 | exact .there sl6 | exact .there sl7 | exact .there sl8 | exact .there sl9 | exact .there sl10 | exact .there sl11 | exact .there sl12) (.same _))))
  exact k1 l M rfl s _ hs (Ok.emb (h) (.cons (A := slc 1 s _) (by with_reducible first | exact sl0 | exact .there sl0 | exact .there sl1 | exact .there sl2 | exact .there sl3 | exact .there sl4 | exact .there sl5 | exact .there sl6 | exact .there sl7 | exact .there sl8 | exact .there sl9 | exact .there sl10 | exact .there sl11 | exact .there sl12) (.cons (A := ringP b _ _) (by with_reducible first | exact sl0 | exact .there sl0 | exact .there sl1 | exact .there sl2 | exact .there sl3 | exact .there sl4 | exact .there sl5 | exact .there sl6 | exact .there sl7 | exact .there sl8 | exact .there sl9 | exact .there sl10 | exact .there sl11 | exact .there sl12) (.same _))))

theorem Twin_ring {e w L b z M R} (h : Ok e (ringP b z M :: L) w) (k : ∀ b' w', Ok e (ringP b' z M :: ringP b z M :: L) w' → R [.pointer (some ⟨b', 0, none⟩)] w') : sh58 (some ⟨b, 0, none⟩) R w := by
  unfold sh58
  obtain ⟨ba, c, m, f, ho, h⟩ := rgE h
  have hm := ho.len
  have hz := ho.zb
  (repeat (first | with_reducible refine dr.mk h fun _ h => ?_ | with_reducible refine nn.mk ?_ | ((first | with_reducible apply ldI.mk | with_reducible apply ldB.mk | with_reducible apply ldP.mk | with_reducible apply ldS.mk | with_reducible apply ldM.mk | with_reducible apply ldF.mk | with_reducible apply ldG.mk); (· exact (by refine Ok.cellS h (by with_reducible first | exact sl0 | exact .there sl0 | exact .there sl1 | exact .there sl2 | exact .there sl3 | exact .there sl4 | exact .there sl5 | exact .there sl6 | exact .there sl7 | exact .there sl8 | exact .there sl9 | exact .there sl10 | exact .there sl11 | exact .there sl12) ?_; rfl))) | (refine st1.mk (Ok.bring h (by with_reducible first | exact sl0 | exact .there sl0 | exact .there sl1 | exact .there sl2 | exact .there sl3 | exact .there sl4 | exact .there sl5 | exact .there sl6 | exact .there sl7 | exact .there sl8 | exact .there sl9 | exact .there sl10 | exact .there sl11 | exact .there sl12)) (by simp) fun _ h => ?_; dsimp only [List.set] at h)))
  refine call78 (Twin_arena (Ok.emb (h) (.cons (A := arenaP ba _ _) (by with_reducible first | exact sl0 | exact .there sl0 | exact .there sl1 | exact .there sl2 | exact .there sl3 | exact .there sl4 | exact .there sl5 | exact .there sl6 | exact .there sl7 | exact .there sl8 | exact .there sl9 | exact .there sl10 | exact .there sl11 | exact .there sl12) (.same _))) (by omega) fun b2 w2 h => ⟨(some ⟨b2, 0, none⟩, ()), rfl, (by refine Ok.cellS h (by with_reducible first | exact sl0 | exact .there sl0 | exact .there sl1 | exact .there sl2 | exact .there sl3 | exact .there sl4 | exact .there sl5 | exact .there sl6 | exact .there sl7 | exact .there sl8 | exact .there sl9 | exact .there sl10 | exact .there sl11 | exact .there sl12) ?_; rfl), (by refine Ok.cellS h (by with_reducible first | exact sl0 | exact .there sl0 | exact .there sl1 | exact .there sl2 | exact .there sl3 | exact .there sl4 | exact .there sl5 | exact .there sl6 | exact .there sl7 | exact .there sl8 | exact .there sl9 | exact .there sl10 | exact .there sl11 | exact .there sl12) ?_; rfl), (by refine Ok.cellS h (by with_reducible first | exact sl0 | exact .there sl0 | exact .there sl1 | exact .there sl2 | exact .there sl3 | exact .there sl4 | exact .there sl5 | exact .there sl6 | exact .there sl7 | exact .there sl8 | exact .there sl9 | exact .there sl10 | exact .there sl11 | exact .there sl12) ?_; rfl), ?_⟩)
  refine al.mk h fun b3 w3 h => ?_
  have h := rgI (b := b) ho (Ok.emb (h) (.cons (A := pts b _) (by with_reducible first | exact sl0 | exact .there sl0 | exact .there sl1 | exact .there sl2 | exact .there sl3 | exact .there sl4 | exact .there sl5 | exact .there sl6 | exact .there sl7 | exact .there sl8 | exact .there sl9 | exact .there sl10 | exact .there sl11 | exact .there sl12) (.cons (A := arenaP ba _ _) (by with_reducible first | exact sl0 | exact .there sl0 | exact .there sl1 | exact .there sl2 | exact .there sl3 | exact .there sl4 | exact .there sl5 | exact .there sl6 | exact .there sl7 | exact .there sl8 | exact .there sl9 | exact .there sl10 | exact .there sl11 | exact .there sl12) (.same _))))
  have h := rgI (b := b3) ho (Ok.emb (h) (.cons (A := pts b3 _) (by with_reducible first | exact sl0 | exact .there sl0 | exact .there sl1 | exact .there sl2 | exact .there sl3 | exact .there sl4 | exact .there sl5 | exact .there sl6 | exact .there sl7 | exact .there sl8 | exact .there sl9 | exact .there sl10 | exact .there sl11 | exact .there sl12) (.cons (A := arenaP b2 _ _) (by with_reducible first | exact sl0 | exact .there sl0 | exact .there sl1 | exact .there sl2 | exact .there sl3 | exact .there sl4 | exact .there sl5 | exact .there sl6 | exact .there sl7 | exact .there sl8 | exact .there sl9 | exact .there sl10 | exact .there sl11 | exact .there sl12) (.same _))))
  exact k b3 _ h

end Go.Proofs.Ytjamgdepbjipdaa.B
