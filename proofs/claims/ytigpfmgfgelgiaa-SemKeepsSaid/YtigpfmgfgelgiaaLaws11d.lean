/- A law of layer 11: what is put into a semaphore is kept. -/
import Derived.Test.YtigpfmgfgelgiaaLaws11
namespace Go.Proofs.Ytigpfmgfgelgiaa.B
open Go
set_option linter.unusedVariables false

theorem free_one : ∀ (k : Nat) (l : List Int), l.length < k → ∃ f : Nat, f < k ∧ ((f : Int) + 1) ∉ l
  | 0, l, h => absurd h (Nat.not_lt_zero _)
  | k + 1, l, h => by
    by_cases hk : ((k : Int) + 1) ∈ l
    · have hl := List.length_erase_of_mem hk
      have hpos : 0 < l.length := List.length_pos_of_mem hk
      obtain ⟨f, hf, hn⟩ := free_one k (l.erase ((k : Int) + 1)) (by omega)
      refine ⟨f, by omega, fun hm => hn ?_⟩
      exact (List.mem_erase_of_ne (by omega)).2 hm
    · exact ⟨k, Nat.lt_succ_self _, hk⟩

theorem SemKeeps_walk {e : World} {a0 : Int} {a1 : Sl} {vs : List Value} (w0 : (Lit.int .u8 a0).wf = true) (ha : ArgF [.b] e a1 vs) : sh3 a0 a1 (LawEnd e) e := by
  unfold sh3
  have h0 := wf_u8 w0
  refine call7 (known_11 (Ok.start e) fun w1 h => ⟨(true, ()), enc_b rfl, ?_⟩)
  refine cs.no rfl ?_
  refine cs.mk (fun _ => ⟨rfl, h⟩) (fun hc => ?_)
  have hle : a1.len ≤ 200 := by have := of_decide_eq_false hc; omega
  rw [w64_in (x := a0) (by omega) (by omega)]
  have hok : ∀ c : Int, 0 ≤ c → c ≤ 500 → semOk c 65535 := fun c _ _ => by unfold semOk; omega
  refine call8 (New_sem h (fun h1 => absurd (hok a0 h0.1 (by omega)) h1) fun _ s p w2 h => ⟨(some ⟨s, 0, none⟩, (0 : Int), ()), rfl, ?_⟩)
  dsimp only
  refine lp.mk (fun t w' => ∃ got sig next : Int, ∃ n : Nat, ∃ c : Int, ∃ l : List (Int × Int), t.1 = got ∧ t.2.1 = sig ∧ t.2.2.1 = next ∧ t.2.2.2.1 = (n : Int) ∧ n ≤ a1.len ∧ 0 ≤ got ∧ got ≤ n ∧ 0 ≤ sig ∧ sig ≤ n ∧ 1 ≤ next ∧ next ≤ 16 ∧
      got + c = sig + a0 ∧ 0 ≤ c ∧ (0 < c → l = []) ∧ l.length ≤ 16 ∧ (∀ q ∈ l, 1 ≤ q.1) ∧ Ok e [pts s (semC p c 65535), lineP p [.bool false] l, old e] w')
    (fun t _ => a1.len - t.2.2.2.1.toNat) ⟨0, 0, 1, 0, a0, [], rfl, rfl, rfl, rfl, Nat.zero_le _, by omega, by omega, by omega, by omega, by omega, by omega, by omega, by omega, fun _ => rfl, by simp, fun q hq => by simp at hq, h⟩ ?_
  clear h
  rintro ⟨(got : Int), (sig : Int), (next : Int), i, _⟩ w3 ⟨got', sig', next', n, c, l, hg, hs, hnx, hn, hn1, g0, g1, s0, s1, x0, x1, heq, hc0, hcl, hl, hid, h⟩
  dsimp only at hg hs hnx hn
  subst hg hs hnx hn
  have hcb : c ≤ 500 := by omega
  have hw1 : w64 ((n : Int) + 1) = ((n + 1 : Nat) : Int) := by rw [w64_in (by omega) (by omega)]; rfl
  refine cs.mk (fun hlt => ?_) (fun hge => ?_)
  · have hlt : n < a1.len := by have := of_decide_eq_true hlt; dsimp only at this; omega
    have hmu : a1.len - Int.toNat ((n + 1 : Nat) : Int) < a1.len - Int.toNat (n : Int) := by omega
    obtain ⟨_, hv, b, rfl⟩ := ha.2 n hlt 0 _ rfl
    refine ix_args (sz := 1) ha.1 (by decide) (by simp) (by simpa using hlt) fun b1 o hh => ?_
    refine ldB.mk (hh 0 _ (by decide) (by simpa using hv) _ ⟨_, h.p2⟩) ?_
    dsimp only
    refine cs.mk (fun _ => ?_) (fun _ => ?_)
    · refine call9 (Signal_sem h (by omega) (hok c hc0 hcb) fun w4 h => ⟨((sigM c 65535 l).id, (0 : Int), ()), ?_, ?_⟩)
      · cases l with
        | cons x r => rfl
        | nil => simp only [sigM]; rw [if_neg (by omega)]; rfl
      refine cs.no rfl ?_
      dsimp only
      have hw2 : w64 (sig + 1) = sig + 1 := w64_in (by omega) (by omega)
      have hw3 : w64 (got + 1) = got + 1 := w64_in (by omega) (by omega)
      rw [hw1, hw2, hw3]
      cases l with
      | cons x r =>
        have hx := hid x (List.mem_cons_self ..)
        have hc : c = 0 := by
          rcases Int.lt_or_le 0 c with h1 | h1
          · have := hcl h1
            cases this
          · omega
        refine jn.at (got + 1, ()) (fun w' => w4 = w') (fun J hJ => cs.yes (by simp [sigM]; omega) (hJ _ rfl)) (fun w' hw => ?_)
        subst hw
        refine ⟨⟨got + 1, sig + 1, next, n + 1, c, r, rfl, rfl, rfl, rfl, hlt, by omega, by omega, by omega, by omega, x0, x1, by omega, hc0, fun h1 => by omega, by simp at hl; omega, fun q hq => hid q (List.mem_cons_of_mem _ hq), h⟩, hmu⟩
      | nil =>
        have hsg : sigM c 65535 [] = ⟨0, 0, c + 1, []⟩ := by simp only [sigM]; rw [if_neg (by omega)]
        rw [hsg] at h ⊢
        refine jn.at (got, ()) (fun w' => w4 = w') (fun J hJ => cs.no rfl (hJ _ rfl)) (fun w' hw => ?_)
        subst hw
        refine ⟨⟨got, sig + 1, next, n + 1, c + 1, [], rfl, rfl, rfl, rfl, hlt, by omega, by omega, by omega, by omega, x0, x1, by omega, by omega, fun _ => rfl, by simp, fun q hq => by simp at hq, h⟩, hmu⟩
    · refine nn.mk (ldP.mk (h.cell rfl) (nn.mk ?_))
      refine call10 (Len_order h.p1 ⟨((l.length : Int), ()), rfl, ?_⟩)
      rw [hw1]
      refine cs.mk (fun h16 => ?_) (fun h16 => ?_)
      · refine ⟨⟨got, sig, next, n + 1, c, l, rfl, rfl, rfl, rfl, hlt, g0, by omega, s0, by omega, x0, x1, heq, hc0, hcl, hl, hid, h⟩, hmu⟩
      have h16 : l.length < 16 := by
        have : ¬ (l.length : Int) = 16 := by simpa using h16
        omega
      obtain ⟨f, hf, hfree⟩ := free_one 16 (l.map Prod.fst) (by simpa using h16)
      have hfree : ∀ q ∈ l, q.1 ≠ (f : Int) + 1 := fun q hq he => hfree (he ▸ List.mem_map_of_mem hq)
      refine lp.mk (fun t w' => ∃ x : Int, t.1 = x ∧ 1 ≤ x ∧ x ≤ 16 ∧ Ok e [pts s (semC p c 65535), lineP p [.bool false] l, old e] w') (fun t _ => Int.toNat (Int.emod (Int.sub ((f : Int) + 17) t.1) 16)) ⟨next, rfl, x0, x1, h⟩ ?_
      clear h
      rintro ⟨(x : Int), _⟩ w4 ⟨x', hx, hx0, hx1, h⟩
      dsimp only at hx
      subst hx
      refine nn.mk (ldP.mk (h.cell rfl) (nn.mk ?_))
      refine call11 (Has_order h.p1 (by omega) fun w5 h => ⟨(decide (0 ≤ atI l x), ()), rfl, ?_⟩)
      dsimp only
      refine cs.mk (fun hin => ?_) (fun hout => ?_)
      · have hin := of_decide_eq_true hin
        obtain ⟨_, q, hq, hq1⟩ := atI_lt hin
        have hne := hfree q (List.mem_of_getElem? hq)
        have hm : Int.tmod x 16 = x % 16 := Int.tmod_eq_emod_of_nonneg (by omega)
        rw [hm, w64_in (by omega) (by omega)]
        refine ⟨⟨x % 16 + 1, rfl, by omega, by omega, h.p1⟩, ?_⟩
        show (((f : Int) + 17 - (x % 16 + 1)) % 16).toNat < (((f : Int) + 17 - x) % 16).toNat
        omega
      · have hout := of_decide_eq_false hout
        have hwait : waitM false c l x 1 = if c ≤ 0 then ⟨false, 0, c, l ++ [(x, 1)]⟩ else ⟨true, 0, c - 1, l⟩ := by
          unfold waitM addL
          rw [if_neg (by omega : ¬ (x < 1 ∨ x > 16 ∨ (1 : Int) < 1 ∨ (1 : Int) > 16)), if_neg hout]
          simp [putL, putK]
        refine call12 (Wait_sem h.p1 (by omega) (hok c hc0 hcb) fun w6 h => ⟨((waitM false c l x 1).ok, (0 : Int), ()), by rw [hwait]; split <;> rfl, ?_⟩)
        refine cs.no rfl ?_
        rw [hwait] at h ⊢
        have hw3 : w64 (got + 1) = got + 1 := w64_in (by omega) (by omega)
        dsimp only
        rw [hw3]
        by_cases hcz : c ≤ 0
        · rw [if_pos hcz] at h ⊢
          refine cs.no rfl ⟨⟨got, sig, x, n + 1, c, l ++ [(x, 1)], rfl, rfl, rfl, rfl, hlt, g0, by omega, s0, by omega, hx0, hx1, heq, hc0, fun h1 => by omega, by simp; omega, fun q hq => ?_, h⟩, hmu⟩
          rcases List.mem_append.1 hq with hq | hq
          · exact hid q hq
          · simp only [List.mem_singleton] at hq
            rw [hq]; exact hx0
        · rw [if_neg hcz] at h ⊢
          refine cs.yes rfl ⟨⟨got + 1, sig, x, n + 1, c - 1, l, rfl, rfl, rfl, rfl, hlt, by omega, by omega, s0, by omega, hx0, hx1, by omega, by omega, fun h1 => hcl (by omega), hl, hid, h⟩, hmu⟩
  · refine nn.mk (ldI.mk (h.cell rfl) ?_)
    dsimp only
    rw [w64_in (x := got + c) (by omega) (by omega), w64_in (x := sig + a0) (by omega) (by omega)]
    refine jn.bool true (fun J hJ => cs.yes (by simpa using heq) (nn.mk (ldI.mk (h.cell rfl) ?_))) ?_
    · refine jn.bool true (fun J2 hJ2 => ?_) hJ
      refine cs.mk (fun _ => hJ2) (fun hcz => ?_)
      have hcz : ¬ c = 0 := by simpa using hcz
      have hl0 := hcl (by omega)
      subst hl0
      refine nn.mk (ldP.mk (h.cell rfl) (nn.mk ?_))
      exact call10 (Len_order h.p1 ⟨((0 : Int), ()), rfl, hJ2⟩)
    · exact ⟨rfl, h.drop.drop⟩

end Go.Proofs.Ytigpfmgfgelgiaa.B
