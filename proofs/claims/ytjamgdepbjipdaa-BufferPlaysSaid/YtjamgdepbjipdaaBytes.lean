/- Bytes: slices of them that may be read, strings, and the ways between. -/
import Derived.Test.YtjamgdepbjipdaaSep5
import Derived.Test.YtjamgdepbjipdaaRow
import Derived.Laws.BytesString
import Derived.Laws.IdiomStrings
import Derived.Laws.Strings
import Derived.Laws.MakeOwn
namespace Go.Proofs.Ytjamgdepbjipdaa.B
open Go
set_option linter.unusedVariables false

theorem bs_list (l : List UInt8) : (bs l).toList = l := by rw [ByteArray.toList_eq]; simp [bs]
theorem bs_size (l : List UInt8) : (bs l).size = l.length := by simp [bs, ByteArray.size]
def v8 (x : UInt8) : Value := .int .u8 (x.toNat : Int)
def by8 (l : List UInt8) : List Value := l.map v8
theorem by8_len {l : List UInt8} : (by8 l).length = l.length := by simp [by8]
theorem by8_one {l : List UInt8} : ∀ v ∈ by8 l, v.oneCell' = true := by
  intro v hv
  obtain ⟨x, _, rfl⟩ := List.mem_map.1 hv
  rfl
theorem by8_get {l : List UInt8} {i : Nat} {x : UInt8} (h : l[i]? = some x) : (by8 l)[i]? = some (v8 x) := by simp [by8, h]
theorem by8_inv {l : List UInt8} {i : Nat} {v : Value} (h : (by8 l)[i]? = some v) : ∃ x, l[i]? = some x ∧ v = v8 x := by
  simp only [by8, List.getElem?_map, Option.map_eq_some_iff] at h
  obtain ⟨x, hx, rfl⟩ := h
  exact ⟨x, hx, rfl⟩
theorem by8_append {l m : List UInt8} : by8 (l ++ m) = by8 l ++ by8 m := by simp [by8]
theorem by8_take {l : List UInt8} {i : Nat} : (by8 l).take i = by8 (l.take i) := by simp [by8]
theorem by8_drop {l : List UInt8} {i : Nat} : (by8 l).drop i = by8 (l.drop i) := by simp [by8]
theorem by8_set {l : List UInt8} {i : Nat} {x : UInt8} : (by8 l).set i (v8 x) = by8 (l.set i x) := by simp [by8, List.map_set]
theorem by8_rep {n : Nat} {x : UInt8} : by8 (List.replicate n x) = List.replicate n (v8 x) := by simp [by8]

section
variable {P : Program} {e : World} {A : SP} {L M : List SP} {w : World} {s d x : Sl} {l m : List UInt8}
/-- a slice of bytes that may be read as long as a part of the memory stays -/
def RdB (e : World) (A : SP) (s : Sl) (l : List UInt8) : Prop :=
  l.length = s.len ∧ s.len ≤ s.cap ∧ ∀ (i : Nat) (x : UInt8), l[i]? = some x → ∃ b o, s.a = some ⟨b, o, none⟩ ∧ ∀ L w, Ok e (A :: L) w → w.cell? ⟨b, o + i, none⟩ = some (v8 x)
theorem RdB.len (r : RdB e A s l) : l.length = s.len := r.1
theorem RdB.cells (r : RdB e A s l) (h : Ok e (A :: L) w) {a : Addr} (ha : s.a = some a) : ∀ j u, (by8 l)[j]? = some u → w.cell? (a.add j) = some u := by
  intro j u hu
  obtain ⟨x, hx, rfl⟩ := by8_inv hu
  obtain ⟨b, o, hb, hc⟩ := r.2.2 j x hx
  rw [hb] at ha; cases ha
  rw [Addr.add_lit]
  exact hc L w h
theorem RdB.none (r : RdB e A s l) (ha : s.a = none) : l = [] := by
  cases l with
  | nil => rfl
  | cons x l =>
    obtain ⟨b, o, hb, _⟩ := r.2.2 0 x rfl
    rw [ha] at hb; cases hb
theorem RdB.nil (h0 : s.len = 0) : RdB e A s [] := ⟨h0.symm, by omega, fun i x hx => by simp at hx⟩
theorem RdB.mono {B : SP} (r : RdB e A s l) (hab : ∀ L w, Ok e (B :: L) w → ∃ L', Ok e (A :: L') w) : RdB e B s l := by
  refine ⟨r.1, r.2.1, fun i x hx => ?_⟩
  obtain ⟨b, o, hb, hc⟩ := r.2.2 i x hx
  refine ⟨b, o, hb, fun L w h => ?_⟩
  obtain ⟨L', h'⟩ := hab L w h
  exact hc L' w h'
theorem ix_rdb {i : Int} {f : Nat → Nat → Prop} (r : RdB e A s l) (h0 : 0 ≤ i) (h1 : i < s.len)
    (kk : ∀ b o x, l[i.toNat]? = some x → (∀ L w, Ok e (A :: L) w → w.cell? ⟨b, o, none⟩ = some (v8 x)) → f b o) : ix s i 1 f := by
  have hlt : i.toNat < l.length := by rw [r.1]; omega
  obtain ⟨b, o, ha, hc⟩ := r.2.2 i.toNat _ (List.getElem?_eq_getElem hlt)
  refine ⟨b, o, ha, h0, h1, ?_⟩
  rw [Nat.mul_one]
  exact kk b _ _ (List.getElem?_eq_getElem hlt) hc
theorem sb_rdb {lo hi mx : Int} {f : Sl → Prop} (h : RdB e A s l) (h0 : 0 ≤ lo) (h1 : lo ≤ hi) (h2 : hi ≤ s.len) (h3 : hi ≤ mx) (h4 : mx ≤ s.cap)
    (kk : ∀ x : Sl, x.len = hi.toNat - lo.toNat → x.cap = mx.toNat - lo.toNat → RdB e A x ((l.take hi.toNat).drop lo.toNat) → f x) : sb s lo hi mx 1 f := by
  refine ⟨h0, h1, h3, h4, kk _ (by simp [Sl.sub]) (by simp [Sl.sub]) ⟨by rw [List.length_drop, List.length_take, h.1]; simp [Sl.sub]; omega, by simp [Sl.sub]; omega, fun i x hx => ?_⟩⟩
  rw [List.getElem?_drop] at hx
  have hlt := (List.getElem?_eq_some_iff.1 hx).1
  rw [List.length_take] at hlt
  rw [List.getElem?_take_of_lt (by omega)] at hx
  obtain ⟨b, o, ha, hc⟩ := h.2.2 _ x hx
  refine ⟨b, o + lo.toNat, ?_, fun L w hw => by rw [Nat.add_assoc]; exact hc L w hw⟩
  simp only [Sl.sub, ha, Option.map_some, Nat.mul_one]
  rw [if_neg (by omega), Addr.add_lit]
/-- bytes somewhere, to be read alone -/
def rdb (s : Sl) (l : List UInt8) : SP := fun h => l.length = s.len ∧ s.len ≤ s.cap ∧ ∀ (i : Nat) (x : UInt8), l[i]? = some x → ∃ b o cs t fz, s.a = some ⟨b, o, none⟩ ∧ h b = some (.cells cs t fz) ∧ cs[o + i]? = some (v8 x)
theorem rdb_rd (h : Ok e (rdb s l :: L) w) : RdB e (rdb s l) s l := by
  obtain ⟨h1, h2, hd, he, ⟨hl, hc, hx⟩, hL⟩ := h.heap
  refine ⟨hl, hc, fun i x hi => ?_⟩
  obtain ⟨b, o, cs, t, fz, ha, -, -⟩ := hx i x hi
  refine ⟨b, o, ha, fun L' w' h' => ?_⟩
  obtain ⟨g1, g2, gd, ge, ⟨-, -, gx⟩, -⟩ := h'.heap
  obtain ⟨b', o', cs', t', fz', ha', hb', hc'⟩ := gx i x hi
  rw [ha] at ha'; cases ha'
  have := congrFun ge b
  simp only [hpOf, Hp.un, hb'] at this
  simp [World.cell?, this, hc']
theorem slc_rdB (h : Ok e (slc 1 s (by8 l) :: L) w) : RdB e (slc 1 s (by8 l)) s l := by
  obtain ⟨hl, hv, hc, hcase⟩ := h.slcE
  rw [by8_len, Nat.mul_one] at hl
  refine ⟨hl, hc, fun i x hx => ?_⟩
  have hlt := (List.getElem?_eq_some_iff.1 hx).1
  rcases hcase with ⟨ha, hcap, _⟩ | ⟨b, post, ha, _, _⟩
  · omega
  · refine ⟨b, 0, ha, fun L w hw => ?_⟩
    have := hw.slc_cells ha i (v8 x) (by8_get hx)
    rw [Addr.add_lit] at this
    exact this
theorem Ok.slcR (h : Ok e (slc 1 s (by8 l) :: L) w) : Ok e (rdb s l :: L) w := by
  refine h.imp fun k hk => ?_
  obtain ⟨hl, hv, hc, hs⟩ := hk
  rw [by8_len, Nat.mul_one] at hl
  refine ⟨hl, hc, fun i x hx => ?_⟩
  have hlt := (List.getElem?_eq_some_iff.1 hx).1
  rcases hs with ⟨ha, h0⟩ | ⟨b, post, ha, hp, t, hb⟩
  · omega
  · refine ⟨b, 0, _, t, _, ha, hb, ?_⟩
    rw [Nat.zero_add]
    simp only [List.getElem?_toArray]
    rw [List.getElem?_append_left (by rw [by8_len]; exact hlt)]
    exact by8_get hx
theorem Ok.emp (h : Ok e L w) {A : SP} (hA : ∀ k, A k) : Ok e (A :: L) w :=
  ⟨h.os, h.tape, h.output, fun _ => none, hpOf w, fun _ => .inl rfl, by funext b; rfl, hA _, h.heap⟩
theorem Ok.rdbNil (h : Ok e L w) (h0 : s.len = 0) : Ok e (rdb s [] :: L) w := h.emp fun k => ⟨h0.symm, by omega, fun i x hx => by simp at hx⟩
theorem Ok.allocB (h : Ok e L w) (o : Obj) {A : SP} (hA : ∀ k : Hp, k w.heap.size = some o → A k) : Ok e (A :: L) (w.alloc o) := by
  refine ⟨h.os, h.tape, h.output, fun k => if k = w.heap.size then some o else none, hpOf w, fun k => ?_, ?_, hA _ (by simp), h.heap⟩
  · by_cases hk : k = w.heap.size
    · subst hk; right; simp [hpOf]
    · left; simp [hk]
  · funext k
    simp only [hpOf, World.alloc, Hp.un, Array.getElem?_push]
    by_cases hk : k = w.heap.size <;> simp [hk]
/-- what is known of the types of bytes and strings -/
structure BsT (P : Program) (t u : TypeId) : Prop where
  ex : ∃ el, P.underlying t = some (.slice el) ∧ P.underlying el = some (.int .u8) ∧ P.underlying u = some .string
def bsTok (P : Program) (t u : TypeId) : Bool :=
  match P.underlying t, P.underlying u with
  | some (.slice el), some .string => match P.underlying el with | some (.int .u8) => true | _ => false
  | _, _ => false
theorem BsT.of {t u : TypeId} (h : bsTok P t u = true) : BsT P t u := by
  unfold bsTok at h
  split at h
  · rename_i el ht hu
    split at h
    · rename_i he; exact ⟨el, ht, he, hu⟩
    · cases h
  · cases h
/-- string(b) -/
theorem tx.run {t u : TypeId} (T : BsT P t u) (h : Ok e (A :: L) w) (r : RdB e A s l) : (convert t u (vS s)).run P w = .ok (.string (bs l)) w := by
  obtain ⟨el, ht, he, hu⟩ := T.ex
  obtain ⟨sa, sl, sc⟩ := s
  show (convert t u (.slice sa sl sc)).run P w = .ok (.string (bs l)) w
  cases sa with
  | none =>
    rw [run_convert_bytes_string w t u el none sl sc ht he hu]
    have := r.none rfl
    subst this
    simp [Conv.bytesToString, bs]
    rfl
  | some a =>
    have hl : l.length = sl := r.1
    subst hl
    refine run_convert_bytes_back w t u el a sc l ht he hu fun j hj => ?_
    exact r.cells h rfl j _ (by8_get (List.getElem?_eq_getElem hj))
theorem tx.mk {t u : TypeId} {f : ByteArray → Prop} (T : BsT P t u) (h : Ok e (A :: L) w) (r : RdB e A s l) (k : f (bs l)) : tx P t u (vS s) w f := ⟨_, tx.run T h r, k⟩
theorem tx.mkS {t u : TypeId} {f : ByteArray → Prop} (T : BsT P t u) (h : Ok e (slc 1 s (by8 l) :: L) w) (k : f (bs l)) : tx P t u (vS s) w f := tx.mk T h (slc_rdB h) k
theorem tx.mkR {t u : TypeId} {f : ByteArray → Prop} (T : BsT P t u) (h : Ok e (rdb s l :: L) w) (k : f (bs l)) : tx P t u (vS s) w f := tx.mk T h (rdb_rd h) k
/-- []byte(s) -/
theorem ef.bytes {t u : TypeId} {K : TK [kS] → World → Prop} (T : BsT P t u) (h : Ok e L w) (k : ∀ s w', s.len = l.length → Ok e (rdb s l :: L) w' → K (s, ()) w') : ef P (convert u t (.string (bs l))) [kS] w K := by
  obtain ⟨el, ht, he, hu⟩ := T.ex
  have hrun := run_bytes_of_string (P := P) w u t el (bs l) hu ht he
  refine ⟨(⟨some ⟨w.heap.size, 0, Option.none⟩, (bs l).size, grownCap w (bs l).size 0 el⟩, ()), _, hrun, ?_⟩
  refine k _ _ (bs_size l) ?_
  refine h.drew.allocB _ fun g hg => ⟨(bs_size l).symm, grownCap_ge _ _ _ _, fun i x hx => ⟨_, 0, _, _, _, rfl, hg, ?_⟩⟩
  rw [Nat.zero_add]
  have hlt := (List.getElem?_eq_some_iff.1 hx).1
  simp [bytesRow, bs, Array.getElem?_append, hlt, ← (List.getElem?_eq_some_iff.1 hx).2, v8]
theorem Ok.replaceB {b : Nat} {cs : List Value} {w' : World} {o : Obj} {A : SP} (h : Ok e (pts b cs :: L) w) (hos : w'.os = w.os) (htape : w'.tape = w.tape) (hout : w'.output = w.output)
    (hb : w'.heap[b]? = some o) (ho : ∀ k, k ≠ b → w'.heap[k]? = w.heap[k]?) (hA : ∀ k : Hp, k b = some o → A k) : Ok e (A :: L) w' := by
  refine ⟨hos.trans h.os, htape.trans h.tape, hout.trans h.output, ?_⟩
  obtain ⟨h1, h2, hd, he, ⟨t, hp⟩, hL⟩ := h.heap
  have h2b : h2 b = Option.none := by
    rcases hd b with e | e
    · rw [hp] at e; cases e
    · exact e
  refine ⟨fun k => if k = b then some o else h1 k, h2, fun k => ?_, ?_, hA _ (by simp), hL⟩
  · by_cases hk : k = b
    · subst hk; exact .inr h2b
    · simpa [hk] using hd k
  · funext k
    have := congrFun he k
    simp only [hpOf, Hp.un] at this ⊢
    by_cases hk : k = b
    · subst hk; simp [hb]
    · simp only [hk, if_false]; rw [ho k hk, this]
/-- []byte("..."): built, and marked -/
theorem ef.mark {t : TypeId} {b n : Nat} {K : TK [kS] → World → Prop} (T : ∃ el, P.underlying t = some (.slice el) ∧ P.underlying el = some (.int .u8)) (h : Ok e (pts b (by8 l) :: L) w) (hn : l.length = n)
    (k : ∀ w', Ok e (rdb ⟨some ⟨b, 0, Option.none⟩, n, n⟩ l :: L) w' → K (⟨some ⟨b, 0, Option.none⟩, n, n⟩, ()) w') : ef P (convert t t (vS ⟨some ⟨b, 0, Option.none⟩, n, n⟩)) [kS] w K := by
  obtain ⟨el, ht, he⟩ := T
  obtain ⟨tt, hb⟩ := h.block
  have hsh : w.shape? b = some (tt, (by8 l).toArray.size) := by simp [World.shape?, hb]
  have hsz : (by8 l).toArray.size = n := by simp [by8, hn]
  refine ⟨(⟨some ⟨b, 0, Option.none⟩, n, n⟩, ()), w.freeze ⟨b, n, Option.none⟩ 1, ?_, k _ ?_⟩
  · show (convert t t (.slice (some ⟨b, 0, Option.none⟩) n n)).run P w = .ok (.slice (some ⟨b, 0, Option.none⟩) n n) _
    simp [convert, run_underlying ht, run_underlying he, markStringish, hsh, by8_len, hn]
  · refine h.replaceB (o := .cells (by8 l).toArray tt (n, n + 1)) rfl rfl rfl ?_ (fun k hk => ?_) fun g hg => ⟨hn, Nat.le_refl _, fun i x hx => ⟨b, 0, _, _, _, rfl, hg, ?_⟩⟩
    · simp [World.freeze, Array.getElem?_modify, hb]
    · simp [World.freeze, Array.getElem?_modify, Ne.symm hk]
    · rw [Nat.zero_add]
      simpa using by8_get hx
/-- a copy into a part of an owned slice of bytes -/
theorem ef.copySub {t ty : TypeId} {i j : Nat} {K : TK [kI] → World → Prop} (T : SlT P t 1) (h : Ok e (slc 1 s (by8 m) :: A :: L) w) (hx : SubOf s 1 i j d) (hij : i ≤ j) (hj : j ≤ s.len) (r : RdB e A x l) (hl : l.length = j - i)
    (k : ∀ w', Ok e (slc 1 s (by8 (m.take i ++ l ++ m.drop j)) :: A :: L) w' → K (((j - i : Nat) : Int), ()) w') : ef P (Builtin.copy_ #[t, t] ty #[vS d, vS x]) [kI] w K := by
  have hn : j - i = Nat.min x.len d.len := by rw [hx.len, ← r.1, hl]; exact (Nat.min_self _).symm
  obtain ⟨hls, hvs, hcs, hcase⟩ := h.slcE
  rw [by8_len, Nat.mul_one] at hls
  by_cases hlt : i < j
  · obtain ⟨b, hs, hd⟩ := hx.at' hlt
    rcases hcase with ⟨ha, _⟩ | ⟨b', post, ha, hp, hk⟩
    · rw [ha] at hs; cases hs
    rw [hs] at ha; cases ha
    refine ef.copy (us := by8 l) T hk hd hn (by rw [by8_len, hl]; omega) (fun ha => by rw [r.none ha]; rfl) (fun a ha => r.cells hk.p1 ha) by8_one (by rw [by8_len, hl, List.length_append, by8_len]; omega) fun w' h' => ?_
    refine k w' ?_
    have e1 : ((by8 m ++ post).take (i * 1) ++ by8 l ++ (by8 m ++ post).drop (i * 1 + (by8 l).length)) = by8 (m.take i ++ l ++ m.drop j) ++ post := by
      rw [Nat.mul_one, List.take_append_of_le_length (by rw [by8_len]; omega), List.drop_append_of_le_length (by rw [by8_len, by8_len]; omega), by8_take, by8_drop, by8_append, by8_append, by8_len, hl, show i + (j - i) = j by omega]
      simp [List.append_assoc]
    rw [e1] at h'
    have hlen : (m.take i ++ l ++ m.drop j).length = s.len := by simp only [List.length_append, List.length_take, List.length_drop, hl]; omega
    exact h'.slcI hs (by rw [by8_len, hlen, Nat.mul_one]) by8_one hcs (by rw [by8_len, hlen]; rw [by8_len] at hp; omega)
  · have h0 : j - i = 0 := by omega
    have hl0 : l = [] := List.eq_nil_of_length_eq_zero (by omega)
    subst hl0
    have hd0 : d.len = 0 := by rw [hx.len]; exact h0
    have hx0 : x.len = 0 := by rw [← r.1]; rfl
    obtain ⟨el, ii, z, ht, hi, hz, hs, hby, hzs, _⟩ := T.ex
    refine ⟨(((j - i : Nat) : Int), ()), w, ?_, k w ?_⟩
    · obtain ⟨da, dl, dc⟩ := d
      obtain ⟨xa, xl, xc⟩ := x
      simp only at hd0 hx0
      subst hd0 hx0
      cases da <;> cases xa <;> simp [vS, Builtin.copy_, run_underlying ht, sizeOf, typeInfo, hi, Builtin.lenOf, Builtin.firstCells, loadCells, loadCellsFrom, goInt, ret1, encK, h0, storeCells] <;> rfl
    · have : m.take i ++ [] ++ m.drop j = m := by rw [List.append_nil, show j = i by omega, List.take_append_drop]
      rw [this]; exact h
/-- a part of an owned slice of bytes: to be written, to be read -/
theorem sb_both {lo hi : Int} {f : Sl → Prop} (h : Ok e (slc 1 s (by8 m) :: L) w) (h0 : 0 ≤ lo) (h1 : lo ≤ hi) (h2 : hi ≤ s.len)
    (k : ∀ x, SubOf s 1 lo.toNat hi.toNat x → RdB e (slc 1 s (by8 m)) x ((m.take hi.toNat).drop lo.toNat) → f x) : sb s lo hi s.cap 1 f := by
  have hc := h.slcE.2.2.1
  have e1 := sb_sub (f := fun x => SubOf s 1 lo.toNat hi.toNat x) h h0 h1 h2 (fun x hx => hx)
  have e2 := sb_rdb (f := fun x => RdB e (slc 1 s (by8 m)) x ((m.take hi.toNat).drop lo.toNat)) (slc_rdB h) h0 h1 h2 (by omega) (Int.le_refl _) (fun x _ _ hx => hx)
  exact ⟨h0, h1, by omega, Int.le_refl _, k _ e1.2.2.2.2 e2.2.2.2.2⟩
/-- make([]byte, n) -/
structure MkT (P : Program) (t : TypeId) : Prop where
  ex : ∃ el i, P.underlying t = some (.slice el) ∧ P.info? el = some i ∧ i.zero = some (.int .u8 0) ∧ i.size = 1 ∧ i.bytes = 1
def mkTok (P : Program) (t : TypeId) : Bool :=
  match P.underlying t with
  | some (.slice el) => match P.info? el with
    | some i => Nat.beq i.size 1 && Nat.beq i.bytes 1 && (match i.zero with | some (.int .u8 0) => true | _ => false)
    | none => false
  | _ => false
theorem MkT.of {t : TypeId} (h : mkTok P t = true) : MkT P t := by
  unfold mkTok at h
  split at h
  · rename_i el ht
    split at h
    · rename_i i hi
      simp only [Bool.and_eq_true] at h
      obtain ⟨⟨h1, h2⟩, h3⟩ := h
      split at h3
      · rename_i hz; exact ⟨el, i, ht, hi, hz, Nat.eq_of_beq_eq_true h1, Nat.eq_of_beq_eq_true h2⟩
      · cases h3
    · cases h
  · cases h
theorem ef.makeB {t : TypeId} {n : Int} {K : TK [kS] → World → Prop} (T : MkT P t) (h : Ok e L w) (h0 : 0 ≤ n) (hb : n ≤ 2 ^ 32)
    (k : ∀ s w', s.len = n.toNat → s.cap = n.toNat → s.a.isSome = true → Ok e (slc 1 s (by8 (List.replicate n.toNat 0)) :: L) w' → K (s, ()) w') : ef P (Instr.makeSlice t (.int .i64 n) (.int .i64 n)) [kS] w K := by
  obtain ⟨el, i, ht, hi, hz, hs, hby⟩ := T.ex
  have hr := run_make (P := P) w t el i (.int .u8 0) ht hi hz .i64 .i64 n n h0 (Int.le_refl _) (by rw [hby]; omega) (by omega)
  refine ⟨(⟨some ⟨w.heap.size, 0, Option.none⟩, n.toNat, n.toNat⟩, ()), _, hr, k _ _ rfl rfl rfl ?_⟩
  have e1 : madeCells (Value.int .u8 0).cells (n.toNat * i.size) = (by8 (List.replicate n.toNat 0)).toArray := by
    apply Array.ext'
    rw [hs, Nat.mul_one, by8_rep]
    simp only [madeCells, Value.cells, Array.toList_map, Array.toList_range]
    apply List.ext_getElem
    · simp
    · intro j h1 h2
      simp [v8, Nat.mod_one]
  rw [e1]
  exact (h.alloc el _).slcNew (by rw [by8_len]; simp) by8_one
/-- append([]T(nil), make([]T, n)...) -/
theorem ef.appendMakeNil {sz : Nat} {t ti : TypeId} {ki : IntKind} {n : Nat} {K : TK [kS] → World → Prop} (T : SlT P t sz) (hti : P.underlying ti = some (.int ki)) (hsz : 0 < sz) (h : Ok e L w) (hn : 0 < n) (hb : n ≤ 2 ^ 32)
    (k : ∀ s' w' zs, s'.len = n → zs.length = n * sz → Ok e (slc sz s' zs :: L) w' → K (s', ()) w') :
    ef P (Builtin.append_ #[t, ti] t #[vS ⟨Option.none, 0, 0⟩, .int .i64 n]) [kS] w K := by
  obtain ⟨el, i, z, ht, hi, hz, hs, hby, hzs, hz1⟩ := T.ex
  have h48 : n * i.bytes ≤ 140737488355328 := Nat.le_trans (Nat.mul_le_mul hb hby) (by decide)
  have hfit := growslice_fits (need := n) (old := 0) (bytes := i.bytes) (by omega) h48
  have hnn : ¬ (n ≤ 0) := by omega
  have h63' : ¬ (9223372036854775807 < (n : Int)) := by omega
  have h48' : ¬ (281474976710656 < Builtin.nextslicecap n 0 * i.bytes) := by omega
  have hw : IntKind.i64.wrap (n : Int) = n := IntWalk.i64_in _ ⟨by omega, by omega⟩
  have hnb : ¬ (281474976710656 < (n : Int) * (i.bytes : Int)) := by
    have h2 : ((n * i.bytes : Nat) : Int) ≤ 140737488355328 := Int.ofNat_le.mpr h48
    rw [Int.natCast_mul] at h2
    omega
  have hn0 : ¬ (n * i.size = 0) := by
    rw [hs, Nat.mul_eq_zero]; omega
  have hnl : ¬ ((n : Int) < 0) := by omega
  have hn1 : ¬ n = 0 := by omega
  have hrun : (Builtin.append_ #[t, ti] t #[.slice Option.none 0 0, .int .i64 n]).run P w =
      .ok (.slice (some ⟨w.heap.size, 0, Option.none⟩) n (grownCap w n 0 el))
        (w.drew.alloc (.cells (Builtin.zeroCells z.cells n ++ Builtin.zeroCells z.cells (grownCap w n 0 el - n)) el)) := by
    simp [Builtin.append_, run_underlying ht, run_underlying hti, sizeOf, typeInfo, zeroValue, hi, hz, Builtin.lenOf, hnn, hn1, h63', h48', Question.forced, newRow, grownCap, asInt, asIntOf, hw, hnb, hn0, hnl, Builtin.firstCells]
  have hal := h.drew.alloc el ((Builtin.zeroCells z.cells n).toList ++ (Builtin.zeroCells z.cells (grownCap w n 0 el - n)).toList)
  have e1 : ((Builtin.zeroCells z.cells n).toList ++ (Builtin.zeroCells z.cells (grownCap w n 0 el - n)).toList).toArray = Builtin.zeroCells z.cells n ++ Builtin.zeroCells z.cells (grownCap w n 0 el - n) := by
    apply Array.ext'; simp
  rw [e1] at hal
  have hge := grownCap_ge w n 0 el
  refine ⟨(⟨some ⟨w.heap.size, 0, Option.none⟩, n, grownCap w n 0 el⟩, ()), _, hrun, k _ _ (Builtin.zeroCells z.cells n).toList rfl (by rw [zeroCells_len, hzs]) ?_⟩
  refine hal.slcI rfl (by rw [zeroCells_len, hzs]) (zeroCells_one hz1 (by omega) _) hge ?_
  rw [zeroCells_len, zeroCells_len, hzs, ← Nat.add_mul]
  exact Nat.mul_le_mul_right _ (by simp only; omega)
/-- slices of bytes in a slice -/
structure RdP (e : World) (A : SP) (s : Sl) (pss : List (List UInt8)) : Prop where
  len : pss.length = s.len
  cell : ∀ (i : Nat) (l : List UInt8), pss[i]? = some l → ∃ b o x, s.a = some ⟨b, o, Option.none⟩ ∧ (∀ L w, Ok e (A :: L) w → w.cell? ⟨b, o + i, Option.none⟩ = some (vS x)) ∧ RdB e A x l
theorem ix_rdp {pss : List (List UInt8)} {i : Nat} {l : List UInt8} {f : Nat → Nat → Prop} (r : RdP e A s pss) (hi : pss[i]? = some l)
    (kk : ∀ b o x, (∀ L w, Ok e (A :: L) w → w.cell? ⟨b, o, Option.none⟩ = some (vS x)) → RdB e A x l → f b o) : ix s (i : Int) 1 f := by
  obtain ⟨b, o, x, ha, hc, hr⟩ := r.cell i l hi
  have hlt := (List.getElem?_eq_some_iff.1 hi).1
  have := r.len
  refine ⟨b, o, ha, Int.natCast_nonneg _, by omega, ?_⟩
  rw [Int.toNat_natCast, Nat.mul_one]
  exact kk b _ x hc hr
theorem rdp_one {b : Nat} {x : Sl} (r : RdB e A x l) : RdP e (oksH [pts b [vS x], A]) ⟨some ⟨b, 0, Option.none⟩, 1, 1⟩ [l] := by
  refine ⟨rfl, fun i y hy => ?_⟩
  match i, hy with
  | 0, hy =>
    cases hy
    exact ⟨b, 0, x, rfl, fun L w h => h.unpack.cell rfl, r.mono fun L w h => ⟨_, h.unpack.p1⟩⟩
theorem rdp_two {b : Nat} {x y : Sl} {A' : SP} {l' : List UInt8} (r : RdB e A x l) (r' : RdB e A' y l') : RdP e (oksH [pts b [vS x, vS y], A, A']) ⟨some ⟨b, 0, Option.none⟩, 2, 2⟩ [l, l'] := by
  refine ⟨rfl, fun i y hy => ?_⟩
  match i, hy with
  | 0, hy =>
    cases hy
    exact ⟨b, 0, x, rfl, fun L w h => h.unpack.cell rfl, r.mono fun L w h => ⟨_, h.unpack.p1⟩⟩
  | 1, hy =>
    cases hy
    exact ⟨b, 0, _, rfl, fun L w h => h.unpack.cell rfl, r'.mono fun L w h => ⟨_, h.unpack.p2⟩⟩
/-- a slice of bytes that came in -/
theorem argI_b {xs : List Int} (h : ArgI .u8 e s xs) : ∃ l : List UInt8, xs = l.map (fun x => (x.toNat : Int)) ∧ RdB e (old e) s l := by
  have key : ∀ xs : List Int, (∀ x ∈ xs, (Lit.int .u8 x).wf = true) → ∃ l : List UInt8, xs = l.map (fun x => (x.toNat : Int)) := by
    intro xs
    induction xs with
    | nil => intro _; exact ⟨[], rfl⟩
    | cons x r ih =>
      intro hw
      obtain ⟨l, rfl⟩ := ih fun y hy => hw y (List.mem_cons_of_mem _ hy)
      obtain ⟨h0, h1⟩ := wf_u8 (hw x (List.mem_cons_self ..))
      refine ⟨UInt8.ofNat x.toNat :: l, ?_⟩
      simp only [List.map_cons, UInt8.toNat_ofNat']
      rw [Nat.mod_eq_of_lt (by omega), Int.toNat_of_nonneg h0]
  obtain ⟨l, rfl⟩ := key xs h.wf
  refine ⟨l, rfl, by rw [← h.len, List.length_map], h.cap, fun i x hx => ?_⟩
  obtain ⟨b, o, ha, hb, hc⟩ := h.cell i (x.toNat : Int) (by rw [List.getElem?_map, hx]; rfl)
  exact ⟨b, o, ha, fun L w hw => by rw [hw.old_cell (a := ⟨b, o + i, Option.none⟩) hb]; exact hc⟩
/-- bytes that lie in an element of an argument -/
theorem fk_b {v : Value} (h : (Fk.s (.i .u8)).at e v) : ∃ s l, v = vS s ∧ RdB e (old e) s l := by
  obtain ⟨s, xs, rfl, ha⟩ := argI_of h
  obtain ⟨l, _, hl⟩ := argI_b ha
  exact ⟨s, l, rfl, hl⟩
/-- a byte of what a whole number has -/
theorem wrap_u8 (n : Int) : IntKind.u8.wrap n = ((UInt8.ofNat (n % 256).toNat).toNat : Int) := by
  have h0 := Int.emod_nonneg n (show (256 : Int) ≠ 0 by decide)
  have h1 := Int.emod_lt_of_pos n (show (0 : Int) < 256 by decide)
  rw [UInt8.toNat_ofNat', Nat.mod_eq_of_lt (by omega), Int.toNat_of_nonneg h0]
  simp [IntKind.wrap, IntKind.signed, IntKind.bits]
end
end Go.Proofs.Ytjamgdepbjipdaa.B
