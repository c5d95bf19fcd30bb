/- Laws of layer 16: BufferFair, BufferOrder. -/
import Derived.Test.YtjamgdepbjipdaaLaws16
namespace Go.Proofs.Ytjamgdepbjipdaa.B
open Go
set_option linter.unusedVariables false

def zs8 (n : Nat) : List UInt8 := List.replicate n 0

theorem zs8_len (n : Nat) : (zs8 n).length = n := by simp [zs8]

theorem send_fit {z most byPri M R s t pri} {l : List UInt8} (hl : 1 ≤ l.length ∧ (l.length : Int) ≤ most) (hR : R = []) (hf : fitR z M (l.length : Nat) = true) : BB.send z most byPri ⟨M, [], R, s⟩ t pri l = ((true, 0, 0), ⟨M ++ [l], [], [], s⟩) := by
  have e1 : BB.trySend z most ⟨M, [], R, s⟩ l = ((true, 0, 0), ⟨M ++ [l], [], [], s⟩) := by
    unfold BB.trySend
    rw [if_neg (show ¬ ((l.length : Int) < 1 ∨ (l.length : Int) > most) by omega), hR]
    show (if ([] : List (Int × Int)) = [] ∧ fitR z M (l.length : Nat) = true then _ else _) = _
    rw [if_pos ⟨rfl, hf⟩]
  unfold BB.send
  rw [e1, if_pos (.inl rfl)]

theorem trySend_full {z most q} {l : List UInt8} (hl : 1 ≤ l.length ∧ (l.length : Int) ≤ most) (hR : q.R = []) (hf : ¬ (q.S = [] ∧ fitR z q.M (l.length : Nat) = true)) : BB.trySend z most q l = ((false, 0, 0), q) := by
  unfold BB.trySend
  rw [if_neg (show ¬ ((l.length : Int) < 1 ∨ (l.length : Int) > most) by omega)]
  obtain ⟨M, S, R, s⟩ := q
  dsimp only at hR
  subst hR
  show (if S = [] ∧ fitR z M (l.length : Nat) = true then _ else _) = _
  rw [if_neg hf]

theorem send_wait {z most byPri q t pri} {l : List UInt8} (hl : 1 ≤ l.length ∧ (l.length : Int) ≤ most) (hR : q.R = []) (hf : ¬ (q.S = [] ∧ fitR z q.M (l.length : Nat) = true)) (ht : 1 ≤ t ∧ t ≤ 16 ∧ 1 ≤ pri ∧ pri ≤ 16) (hi : t ∉ ids q.S) :
    BB.send z most byPri q t pri l = ((false, 0, 0), ⟨q.M, putL byPri q.S (t, pri), q.R, updI q.s t l⟩) := by
  have e2 : addL byPri q.S t pri = (0, putL byPri q.S (t, pri)) := by
    have h1 : atI q.S t < 0 := atI_neg.2 hi
    unfold addL
    rw [if_neg (by omega), if_neg (by omega)]
  unfold BB.send
  rw [trySend_full hl hR hf, if_neg (by simp), e2]
  rfl

theorem BufferFair_walk {e : World} {a0 a1 : Int} (w0 : (Lit.int .u8 a0).wf = true) (w1' : (Lit.int .u8 a1).wf = true) : sh4 a0 a1 (LawEnd e) e := by
  unfold sh4
  have b0 := wf_u8 w0
  have b1 := wf_u8 w1'
  refine call8 (known_16 (Ok.start e) fun w1 h => ⟨(true, ()), enc_b rfl, ?_⟩)
  refine cs.no rfl ?_
  obtain ⟨u, rfl⟩ := Int.eq_ofNat_of_zero_le b0.1
  obtain ⟨v, rfl⟩ := Int.eq_ofNat_of_zero_le b1.1
  obtain ⟨n, hn⟩ : ∃ n, n = 1 + u % 100 := ⟨_, rfl⟩
  obtain ⟨m, hm⟩ : ∃ m, m = 1 + v % 100 := ⟨_, rfl⟩
  have ew : ∀ (u n : Nat), n = 1 + u % 100 → w64 (1 + (w64 (Int.tmod (u : Int) 100))) = (n : Int) := by
    intro u n hn
    rw [Int.tmod_eq_emod_of_nonneg (by omega), w64_in (x := (u : Int) % 100) (by omega) (by omega), w64_in (by omega) (by omega)]
    omega
  have et : ∀ n : Nat, n ≤ 100 → w64 ((w64 ((w64 (Int.tdiv (w64 ((n : Int) + 3)) 4)) * 4)) + 4) = (tk n : Int) := by
    intro n hn
    rw [w64_in (x := (n : Int) + 3) (by omega) (by omega), Int.tdiv_eq_ediv_of_nonneg (by omega), w64_in (x := ((n : Int) + 3) / 4) (by omega) (by omega), w64_in (x := ((n : Int) + 3) / 4 * 4) (by omega) (by omega), w64_in (by omega) (by omega)]
    unfold tk
    omega
  have et2 : ∀ n : Nat, n ≤ 100 → w64 ((w64 (56 - (w64 ((w64 (Int.tdiv (w64 ((n : Int) + 3)) 4)) * 4)))) - 4) = 56 - (tk n : Int) := by
    intro n hn
    rw [w64_in (x := (n : Int) + 3) (by omega) (by omega), Int.tdiv_eq_ediv_of_nonneg (by omega), w64_in (x := ((n : Int) + 3) / 4) (by omega) (by omega), w64_in (x := ((n : Int) + 3) / 4 * 4) (by omega) (by omega), w64_in (x := 56 - ((n : Int) + 3) / 4 * 4) (by omega) (by omega), w64_in (by omega) (by omega)]
    unfold tk
    omega
  rw [ew u n hn, ew v m hm]
  have hn1 : 1 ≤ n ∧ n ≤ 100 := by omega
  have hm1 : 1 ≤ m ∧ m ≤ 100 := by omega
  rw [et n hn1.2, et m hm1.2, et2 n hn1.2]
  clear ew et et2 hn hm
  refine call9 (New_mbf h (fun h0 => absurd (by unfold mkB'; decide) h0) fun _ b w2 h => ⟨(some ⟨b, 0, none⟩, (0 : Int), ()), rfl, ?_⟩)
  have h : Ok e [mbfP b false 100 100 bb0, old e] w2 := h
  have o0 : BBo 100 bb0 := bb0_ok (by decide)
  refine ef.makeB mkT_b h (by decide) (by decide) fun x w3 hx _ _ h => ?_
  have h : Ok e [slc 1 x (by8 (zs8 40)), mbfP b false 100 100 bb0, old e] w3 := h
  have e1 : BB.send 100 100 false bb0 1 1 (zs8 40) = ((true, 0, 0), ⟨[zs8 40], [], [], fun _ => []⟩) := send_fit (by rw [zs8_len]; decide) rfl (by rw [zs8_len]; rfl)
  refine call10 (Send_mbf h.p1 (slc_rdB h) o0 (by decide) fun w4 h => ⟨(true, (0 : Int), (0 : Int), ()), by rw [e1]; rfl, ?_⟩)
  have o1 := send_ok (most := 100) (byPri := false) (t := 1) (pri := 1) (l := zs8 40) o0 (by decide)
  rw [e1] at h o1
  dsimp only at h o1
  have hsz : szR [zs8 40] = 44 := by simp [szR, zs8_len, tk]
  refine ef.makeB mkT_b h (by omega) (by omega) fun x2 w5 hx2 _ _ h => ?_
  rw [Int.toNat_natCast] at h
  have h : Ok e (slc 1 x2 (by8 (zs8 n)) :: mbfP b false 100 100 ⟨[zs8 40], [], [], fun _ => []⟩ :: _) w5 := h
  by_cases hf : tk n ≤ 56
  · have e2 : BB.send 100 100 false ⟨[zs8 40], [], [], fun _ => []⟩ 2 1 (zs8 n) = ((true, 0, 0), ⟨[zs8 40, zs8 n], [], [], fun _ => []⟩) := send_fit (by rw [zs8_len]; omega) rfl (by rw [zs8_len]; unfold fitR; rw [hsz, Int.toNat_natCast]; exact decide_eq_true ⟨by omega, by omega, by omega⟩)
    refine call10 (Send_mbf h.p1 (slc_rdB h) o1 (by decide) fun w6 h => ⟨(true, (0 : Int), (0 : Int), ()), by rw [e2]; rfl, ?_⟩)
    have o2 := send_ok (most := 100) (byPri := false) (t := 2) (pri := 1) (l := zs8 n) o1 (by decide)
    rw [e2] at h o2
    dsimp only at h o2
    have hsz2 : szR [zs8 40, zs8 n] = 44 + tk n := by simp [szR, zs8_len, tk]
    refine ef.makeB mkT_b h (by omega) (by omega) fun x3 w7 hx3 _ _ h => ?_
    rw [Int.toNat_natCast] at h
    have h : Ok e (slc 1 x3 (by8 (zs8 m)) :: mbfP b false 100 100 ⟨[zs8 40, zs8 n], [], [], fun _ => []⟩ :: _) w7 := h
    have e3 : BB.trySend 100 100 ⟨[zs8 40, zs8 n], [], [], fun _ => []⟩ (zs8 m) = if (tk m : Int) ≤ 56 - (tk n : Int) then ((true, 0, 0), ⟨[zs8 40, zs8 n] ++ [zs8 m], [], [], fun _ => []⟩) else ((false, 0, 0), ⟨[zs8 40, zs8 n], [], [], fun _ => []⟩) := by
      have hfm : fitR 100 [zs8 40, zs8 n] ((zs8 m).length : Nat) = decide ((tk m : Int) ≤ 56 - (tk n : Int)) := by
        rw [zs8_len]; unfold fitR; rw [hsz2, Int.toNat_natCast]
        exact decide_eq_decide.2 (by omega)
      unfold BB.trySend
      rw [if_neg (show ¬ (((zs8 m).length : Int) < 1 ∨ ((zs8 m).length : Int) > 100) by rw [zs8_len]; omega)]
      show (if ([] : List (Int × Int)) = [] ∧ fitR 100 [zs8 40, zs8 n] ((zs8 m).length : Nat) = true then _ else _) = _
      rw [hfm]
      by_cases hc : (tk m : Int) ≤ 56 - (tk n : Int)
      · rw [if_pos ⟨rfl, decide_eq_true hc⟩, if_pos hc]
      · rw [if_neg (fun hh => hc (of_decide_eq_true hh.2)), if_neg hc]
    refine call14 (TrySend_mbf h.p1 (slc_rdB h) o2 (by decide) fun w8 h => ⟨(decide ((tk m : Int) ≤ 56 - (tk n : Int)), (0 : Int), (0 : Int), ()), by
      rw [e3]
      by_cases hc : (tk m : Int) ≤ 56 - (tk n : Int)
      · rw [if_pos hc, decide_eq_true hc]; rfl
      · rw [if_neg hc, decide_eq_false hc]; rfl, ?_⟩)
    have hd : decide ((tk n : Int) ≤ 56) = true := decide_eq_true (by omega)
    rw [hd]
    dsimp only
    refine jn.bool false (fun J hJ => cs.no rfl hJ) ?_
    refine jn.bool false (fun J hJ => cs.no rfl hJ) ?_
    refine cs.no rfl (cs.no rfl ?_)
    refine ⟨?_, ((Ok.emb (h) (.cons (A := old e) (by with_reducible first | exact sl0 | exact .there sl0 | exact .there sl1 | exact .there sl2 | exact .there sl3 | exact .there sl4 | exact .there sl5 | exact .there sl6 | exact .there sl7 | exact .there sl8 | exact .there sl9 | exact .there sl10 | exact .there sl11 | exact .there sl12) (.same _)))).only⟩
    simp
  · have hfm : ¬ (([] : List (Int × Int)) = [] ∧ fitR 100 [zs8 40] ((zs8 n).length : Nat) = true) := by
      rw [zs8_len]; unfold fitR; rw [hsz, Int.toNat_natCast]
      intro hh
      have := of_decide_eq_true hh.2
      omega
    have e2 : BB.send 100 100 false ⟨[zs8 40], [], [], fun _ => []⟩ 2 1 (zs8 n) = ((false, 0, 0), ⟨[zs8 40], [(2, 1)], [], updI (fun _ => []) 2 (zs8 n)⟩) := send_wait (by rw [zs8_len]; omega) rfl hfm (by decide) (by simp)
    refine call10 (Send_mbf h.p1 (slc_rdB h) o1 (by decide) fun w6 h => ⟨(false, (0 : Int), (0 : Int), ()), by rw [e2]; rfl, ?_⟩)
    have o2 := send_ok (most := 100) (byPri := false) (t := 2) (pri := 1) (l := zs8 n) o1 (by decide)
    rw [e2] at h o2
    dsimp only at h o2
    refine ef.makeB mkT_b h (by omega) (by omega) fun x3 w7 hx3 _ _ h => ?_
    rw [Int.toNat_natCast] at h
    have h : Ok e (slc 1 x3 (by8 (zs8 m)) :: mbfP b false 100 100 ⟨[zs8 40], [(2, 1)], [], updI (fun _ => []) 2 (zs8 n)⟩ :: _) w7 := h
    have e3 : BB.trySend 100 100 ⟨[zs8 40], [(2, 1)], [], updI (fun _ => []) 2 (zs8 n)⟩ (zs8 m) = ((false, 0, 0), ⟨[zs8 40], [(2, 1)], [], updI (fun _ => []) 2 (zs8 n)⟩) := trySend_full (by rw [zs8_len]; omega) rfl (fun hh => by simp at hh)
    refine call14 (TrySend_mbf h.p1 (slc_rdB h) o2 (by decide) fun w8 h => ⟨(false, (0 : Int), (0 : Int), ()), by rw [e3]; rfl, ?_⟩)
    rw [e3] at h
    dsimp only at h
    have hd : decide ((tk n : Int) ≤ 56) = false := decide_eq_false (by omega)
    rw [hd]
    dsimp only
    refine jn.bool false (fun J hJ => cs.no rfl hJ) ?_
    refine jn.bool false (fun J hJ => cs.no rfl hJ) ?_
    refine cs.no rfl (cs.yes rfl ?_)
    refine jn.at (true, ()) (fun w' => Ok e [old e] w') (fun J hJ => cs.yes rfl ?_) (fun w' h => ⟨rfl, h⟩)
    refine call12 (Senders_mbf h o2 fun s w11 hs h => ⟨(s, ()), rfl, ?_⟩)
    have hs : s.len = 1 := hs
    dsimp only
    rw [hs]
    exact hJ _ ((Ok.emb (h) (.cons (A := old e) (by with_reducible first | exact sl0 | exact .there sl0 | exact .there sl1 | exact .there sl2 | exact .there sl3 | exact .there sl4 | exact .there sl5 | exact .there sl6 | exact .there sl7 | exact .there sl8 | exact .there sl9 | exact .there sl10 | exact .there sl11 | exact .there sl12) (.same _)))).only

end Go.Proofs.Ytjamgdepbjipdaa.B
