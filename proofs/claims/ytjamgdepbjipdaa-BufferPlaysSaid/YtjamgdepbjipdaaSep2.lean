/- Steps on memory that is owned: writing a stretch, 'copy', 'clear', 'append' that stays in its room, 'append' of made elements, 'slices.overlaps'. -/
import Derived.Test.YtjamgdepbjipdaaSep
import Derived.Lib.Overlaps
import Derived.Laws.Externs
import Derived.IntWalk
namespace Go.Proofs.Ytjamgdepbjipdaa.B
open Go
set_option linter.unusedVariables false
section
variable {e : World} {L : List SP} {w : World} {P : Program} {b o sz : Nat} {cs us vs post : List Value} {s d x : Sl}
theorem store_run (h : Ok e (pts b cs :: L) w) (hfit : o + us.length ≤ cs.length) (h1 : ∀ v ∈ us, v.oneCell' = true) :
    ∃ w', (storeCells ⟨b, o, none⟩ us).run P w = .ok () w' ∧ Ok e (pts b (cs.take o ++ us ++ cs.drop (o + us.length)) :: L) w' := by
  obtain ⟨tt, hblk⟩ := h.block
  have hst := run_storeCells_at P b o tt us 0 cs.toArray w hblk (by simpa using hfit) h1
  exact ⟨_, hst, by simpa using h.setRow _⟩
/-- 'copy' -/
theorem ef.copy {t ty : TypeId} {n : Nat} {K : TK [kI] → World → Prop} (T : SlT P t sz) (h : Ok e (pts b cs :: L) w) (hd : d.a = some ⟨b, o, none⟩) (hn : n = Nat.min x.len d.len) (hul : us.length = n * sz)
    (hxa : x.a = none → us = []) (hu : ∀ a, x.a = some a → ∀ j u, us[j]? = some u → w.cell? (a.add j) = some u) (h1 : ∀ v ∈ us, v.oneCell' = true) (hfit : o + us.length ≤ cs.length)
    (k : ∀ w', Ok e (pts b (cs.take o ++ us ++ cs.drop (o + us.length)) :: L) w' → K ((n : Int), ()) w') : ef P (Builtin.copy_ #[t, t] ty #[vS d, vS x]) [kI] w K := by
  obtain ⟨el, i, z, ht, hi, hz, hs, hby, hzs, _⟩ := T.ex
  obtain ⟨w', hst, hk⟩ := store_run (P := P) h hfit h1
  refine ⟨((n : Int), ()), w', ?_, k w' hk⟩
  obtain ⟨da, dlen, dcap⟩ := d
  obtain ⟨xa, xlen, xcap⟩ := x
  simp only at hd hn hxa hu
  subst hd
  cases xa with
  | none =>
    have hus := hxa rfl
    subst hus
    have hf : (Builtin.firstCells i.size n (vS ⟨none, xlen, xcap⟩)).run P w = .ok #[] w := by
      simp only [List.length_nil] at hul
      cases n with
      | zero => simp [vS, Builtin.firstCells]
      | succ n => simp [vS, Builtin.firstCells]
    simp only [vS] at hf
    simp [vS, Builtin.copy_, run_underlying ht, sizeOf, typeInfo, hi, Builtin.lenOf, ← hn, hf, hst, goInt, ret1, encK]
    rfl
  | some a =>
    have hf := run_firstCells_some (P := P) w i.size n a xlen xcap us (by rw [hs]; exact hul) (hu a rfl)
    simp [vS, Builtin.copy_, run_underlying ht, sizeOf, typeInfo, hi, Builtin.lenOf, ← hn, hf, hst, goInt, ret1, encK]
    rfl
theorem zeroCells_one {z : Array Value} (h : z.toList.all (·.oneCell') = true) (hz : 0 < z.size) (n : Nat) : ∀ v ∈ (Builtin.zeroCells z n).toList, v.oneCell' = true := by
  intro v hv
  obtain ⟨i, hi, rfl⟩ := List.getElem_of_mem hv
  rw [List.all_eq_true] at h
  refine h _ ?_
  simp only [Builtin.zeroCells]
  simp
  rw [getElem!_pos z _ (Nat.mod_lt _ hz)]
  exact Array.getElem_mem _
/-- 'clear' of a stretch -/
theorem ef.clear {t ty : TypeId} {K : TK [] → World → Prop} (T : SlT P t sz) (hsz : 0 < sz) (h : Ok e (pts b cs :: L) w) (hd : d.a = some ⟨b, o, none⟩) (hfit : d.len = 0 ∨ o + d.len * sz ≤ cs.length)
    (k : ∀ w' us, us.length = d.len * sz → Ok e (pts b (cs.take o ++ us ++ cs.drop (o + us.length)) :: L) w' → K () w') : ef P (Builtin.clear_ #[t] ty #[vS d]) [] w K := by
  obtain ⟨el, i, z, ht, hi, hz, hs, hby, hzs, hz1⟩ := T.ex
  obtain ⟨da, dlen, dcap⟩ := d
  simp only at hd hfit k
  subst hd
  cases dlen with
  | zero =>
    refine ⟨(), w, ?_, k w [] (by simp) (by simpa using h)⟩
    simp [vS, Builtin.clear_, run_underlying ht, ret1, encK]
  | succ n =>
    have hl : (Builtin.zeroCells z.cells (n + 1)).toList.length = (n + 1) * sz := by rw [zeroCells_len, hzs]
    obtain ⟨w', hst, hk⟩ := store_run (P := P) (o := o) (us := (Builtin.zeroCells z.cells (n + 1)).toList) h (by rw [hl]; omega) (zeroCells_one hz1 (by omega) _)
    refine ⟨(), w', ?_, k w' _ hl hk⟩
    simp [vS, Builtin.clear_, run_underlying ht, zeroValue, typeInfo, hi, hz, hst, ret1, encK]
/-- 'append(s, make(S, n)...)' that does not fit: the old row is kept, and told -/
theorem ef.appendMake {t ti : TypeId} {ki : IntKind} {n : Nat} {K : TK [kS] → World → Prop} (T : SlT P t sz) (hti : P.underlying ti = some (.int ki)) (hsz : 0 < sz) (h : Ok e (pts b (vs ++ post) :: L) w)
    (ha : s.a = some ⟨b, 0, none⟩) (hl : vs.length = s.len * sz) (hn : 0 < n) (hg : s.cap < s.len + n) (hb : s.len + n ≤ 2 ^ 32)
    (k : ∀ s' c w' zs ps, s'.a = some ⟨c, 0, none⟩ → s'.len = s.len + n → s'.len ≤ s'.cap → zs.length = n * sz → s'.cap * sz ≤ (vs ++ zs ++ ps).length → Ok e (pts c (vs ++ zs ++ ps) :: pts b (vs ++ post) :: L) w' → K (s', ()) w') :
    ef P (Builtin.append_ #[t, ti] t #[vS s, .int .i64 n]) [kS] w K := by
  obtain ⟨el, i, z, ht, hi, hz, hs, hby, hzs, hz1⟩ := T.ex
  obtain ⟨sa, slen, scap⟩ := s
  simp only at ha hl hg hb k
  subst ha
  have holds : ∀ j u, vs[j]? = some u → w.cell? ((⟨b, 0, none⟩ : Addr).add j) = some u := by
    intro j u hj
    rw [Addr.add_lit]
    have hlt := (List.getElem?_eq_some_iff.1 hj).1
    exact h.cell (by rw [Nat.zero_add, List.getElem?_append_left hlt]; exact hj)
  have h48 : (slen + n) * i.bytes ≤ 140737488355328 := Nat.le_trans (Nat.mul_le_mul hb hby) (by decide)
  have hfit := growslice_fits (need := slen + n) (old := scap) (bytes := i.bytes) (by omega) h48
  have hnn : ¬ (slen + n ≤ scap) := by omega
  have h63' : ¬ (9223372036854775807 < ((slen : Int) + (n : Int))) := by omega
  have h48' : ¬ (281474976710656 < Builtin.nextslicecap (slen + n) scap * i.bytes) := by omega
  have hw : IntKind.i64.wrap (n : Int) = n := IntWalk.i64_in _ ⟨by omega, by omega⟩
  have hnb : ¬ (281474976710656 < (n : Int) * (i.bytes : Int)) := by
    have : n * i.bytes ≤ 140737488355328 := Nat.le_trans (Nat.mul_le_mul_right _ (by omega)) h48
    have h2 : ((n * i.bytes : Nat) : Int) ≤ 140737488355328 := Int.ofNat_le.mpr this
    rw [Int.natCast_mul] at h2
    omega
  have hn0 : ¬ (n * i.size = 0) := by
    rw [hs, Nat.mul_eq_zero]; omega
  have hfo := run_firstCells_some (P := P) w.drew i.size slen ⟨b, 0, none⟩ slen scap vs (by rw [hs]; exact hl) (by simpa using holds)
  have hge := grownCap_ge w (slen + n) scap el
  have hrun : (Builtin.append_ #[t, ti] t #[.slice (some ⟨b, 0, none⟩) slen scap, .int .i64 n]).run P w =
      .ok (.slice (some ⟨w.heap.size, 0, none⟩) (slen + n) (grownCap w (slen + n) scap el))
        (w.drew.alloc (.cells (vs.toArray ++ Builtin.zeroCells z.cells n ++ Builtin.zeroCells z.cells (grownCap w (slen + n) scap el - (slen + n))) el)) := by
    have hnl : ¬ ((n : Int) < 0) := by omega
    simp [Builtin.append_, run_underlying ht, run_underlying hti, sizeOf, typeInfo, zeroValue, hi, hz, Builtin.lenOf, hnn, h63', h48', Question.forced, hfo, newRow, grownCap, asInt, asIntOf, hw, hnb, hn0, hnl]
  have hal := h.drew.alloc el (vs ++ (Builtin.zeroCells z.cells n).toList ++ (Builtin.zeroCells z.cells (grownCap w (slen + n) scap el - (slen + n))).toList)
  have e1 : (vs ++ (Builtin.zeroCells z.cells n).toList ++ (Builtin.zeroCells z.cells (grownCap w (slen + n) scap el - (slen + n))).toList).toArray = vs.toArray ++ Builtin.zeroCells z.cells n ++ Builtin.zeroCells z.cells (grownCap w (slen + n) scap el - (slen + n)) := by
    apply Array.ext'; simp
  rw [e1] at hal
  refine ⟨(⟨some ⟨w.heap.size, 0, none⟩, slen + n, grownCap w (slen + n) scap el⟩, ()), _, hrun, ?_⟩
  refine k _ w.heap.size _ _ _ rfl rfl hge (by rw [zeroCells_len, hzs]) ?_ hal
  simp only [List.length_append, zeroCells_len, hzs, hl]
  rw [← Nat.add_mul, ← Nat.add_mul]
  exact Nat.mul_le_mul_right _ (by omega)
/-- a cut of a slice whose block is known -/
theorem sb_at {lo hi mx : Int} {f : Sl → Prop} (ha : s.a = some ⟨b, 0, none⟩) (h0 : 0 ≤ lo) (h1 : lo ≤ hi) (h2 : hi ≤ mx) (h3 : mx ≤ s.cap)
    (k : ∀ (s' : Sl) o, s'.a = some ⟨b, o, none⟩ → s'.len = hi.toNat - lo.toNat → s'.cap = mx.toNat - lo.toNat → o ≤ lo.toNat * sz → (lo < mx → o = lo.toNat * sz) → f s') : sb s lo hi mx sz f := by
  refine ⟨h0, h1, h2, h3, ?_⟩
  by_cases hm : mx.toNat = lo.toNat
  · refine k _ 0 (by simp [Sl.sub, ha, hm]) (by simp [Sl.sub]) (by simp [Sl.sub]) (Nat.zero_le _) (fun h => by omega)
  · refine k _ (lo.toNat * sz) ?_ (by simp [Sl.sub]) (by simp [Sl.sub]) (Nat.le_refl _) (fun _ => rfl)
    simp only [Sl.sub, ha, hm, if_false, Option.map_some]
    rw [Addr.add_lit, Nat.zero_add]
/-- 'slices.overlaps' of what lies in two blocks -/
theorem xt.overlaps {f : FuncId} {fn : Func} {t tr : TypeId} {c : Nat} {ds : List Value} {oc : Nat} {K : TK [kB] → World → Prop} (hf : P.funcs[f]? = some fn) (hname : (fn.name == "runtime.NumGoroutine") = false)
    (hb : fn.body.isNone = true) (hn : Extern.findNext fn = none) (he : Extern.find fn = some (Extern.SlicesOverlaps.overlaps #[t, t] #[tr])) (T : SlT P t sz)
    (h : Ok e (pts c ds :: pts b cs :: L) w) (hx : x.a = some ⟨c, oc, none⟩) (hd : d.a = some ⟨b, o, none⟩) (hne : cs ≠ []) (k : K (false, ()) w) : xt P f [vS x, vS d] [kB] w K := by
  obtain ⟨el, i, z, ht, hi, hz, hs, hby, hzs, hz1⟩ := T.ex
  obtain ⟨tx, hbx⟩ := h.block
  obtain ⟨td, hbd⟩ := h.p1.block
  obtain ⟨xa, xlen, xcap⟩ := x
  obtain ⟨da, dlen, dcap⟩ := d
  simp only at hx hd
  subst hx hd
  have hsx : w.shape? c = some (tx, ds.toArray.size) := by simp [World.shape?, hbx]
  have hsd : w.shape? b = some (td, cs.toArray.size) := by simp [World.shape?, hbd]
  have hrun := Go.Lib.run_overlaps_apart (P := P) w t tr el ht i.size (by simp [sizeOf, typeInfo, hi]) ⟨c, oc, none⟩ ⟨b, o, none⟩ xlen xcap dlen dcap h.ne tx td ds.toArray.size cs.toArray.size hsx hsd
    (by simpa using hne) h.frozen h.frozen
  refine ⟨(false, ()), w, ?_, k⟩
  have := run_callFunc_extern hf hname hb hn he #[vS ⟨some ⟨c, oc, none⟩, xlen, xcap⟩, vS ⟨some ⟨b, o, none⟩, dlen, dcap⟩] w
  rw [show [vS ⟨some ⟨c, oc, none⟩, xlen, xcap⟩, vS ⟨some ⟨b, o, none⟩, dlen, dcap⟩].toArray = #[vS ⟨some ⟨c, oc, none⟩, xlen, xcap⟩, vS ⟨some ⟨b, o, none⟩, dlen, dcap⟩] from rfl, this]
  simp only [vS]
  rw [hrun]
  rfl
end
end Go.Proofs.Ytjamgdepbjipdaa.B
